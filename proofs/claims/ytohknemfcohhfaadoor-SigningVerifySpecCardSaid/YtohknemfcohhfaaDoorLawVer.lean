/-
  What is proved here: the walk of SigningVerifySpec
-/
import Derived.Test.YtohknemfcohhfaaDoorRows
import Derived.Test.YtohknemfcohhfaaDoorBaseC
import Derived.Test.YtohknemfcohhfaaDoorSha
import Derived.Test.YtohknemfcohhfaaDoorTree
import Derived.Test.YtohknemfcohhfaaDoorSign
import Derived.Test.YtohknemfcohhfaaDoorShelf
import Derived.Test.YtohknemfcohhfaaDoorDigA
import Derived.Test.YtohknemfcohhfaaDoorDigC
import Derived.Test.YtohknemfcohhfaaDoorDigD
import Derived.Test.YtohknemfcohhfaaDoorDigE
import Derived.Test.YtohknemfcohhfaaDoorDigF
import Derived.Test.YtohknemfcohhfaaDoorDigG
import Derived.Test.YtohknemfcohhfaaDoorDigH
import Derived.Test.YtohknemfcohhfaaDoorDigI
import Derived.Test.YtohknemfcohhfaaDoorDigJ
import Derived.Test.YtohknemfcohhfaaDoorDigK
import Derived.Test.YtohknemfcohhfaaDoorDigL
import Derived.Test.YtohknemfcohhfaaDoorDigM
import Derived.Test.YtohknemfcohhfaaDoorDigN
import Derived.Test.YtohknemfcohhfaaDoorDigO
import Derived.Test.YtohknemfcohhfaaDoorDigP
import Derived.Test.YtohknemfcohhfaaDoorDigQ
import Derived.Test.YtohknemfcohhfaaDoorDigR
import Derived.Test.YtohknemfcohhfaaDoorDigS
import Derived.Test.YtohknemfcohhfaaDoorDigT
import Derived.Test.YtohknemfcohhfaaDoorLawHalves
import Derived.Test.YtohknemfcohhfaaDoorDigU
import Derived.Test.YtohknemfcohhfaaDoorDigW
import Derived.Test.YtohknemfcohhfaaDoorDigX
import Derived.Test.YtohknemfcohhfaaDoorDigY
import Derived.Test.YtohknemfcohhfaaDoorSigA
import Derived.Test.YtohknemfcohhfaaDoorSigB
import Derived.Test.YtohknemfcohhfaaDoorSigC
import Derived.Test.YtohknemfcohhfaaDoorSigD
import Derived.Test.YtohknemfcohhfaaDoorSigE
import Derived.Test.YtohknemfcohhfaaDoorSigP
import Derived.Test.YtohknemfcohhfaaDoorSigF
import Derived.Test.YtohknemfcohhfaaDoorSigG
import Derived.Test.YtohknemfcohhfaaDoorSigI
import Derived.Test.YtohknemfcohhfaaDoorSigJ
import Derived.Test.YtohknemfcohhfaaDoorSigM
import Derived.Test.YtohknemfcohhfaaDoorDigZ
import Derived.Test.YtohknemfcohhfaaDoorDigZB
import Derived.Lib.ConvBytes
import Derived.StillTailTactics
import Derived.Lib.AppendZerosOnto
import Derived.Deep.RegionHeld3
import Derived.Stop.BytesEq
import Derived.Great.BuildSlice
import Derived.Deep.MidRow
import Derived.Deep.RegionLaw
import Derived.Deep.DeepCutAuto
import Derived.Deep.QuietTactic
import Derived.BigQuiet
import Derived.Laws.EntriesVeiled
namespace Go.Proofs.YtohknemfcohhfaaDoor
open Go.RowKit Go.VS
set_option maxRecDepth 100000 in
set_option maxHeartbeats 2000000 in
theorem verspec_walk {sh : List UInt8 → List UInt8} (hs : Sh sh) (p : List UInt8) (hp : p.length = 32) (m : Int) (A : Option Addr) (n c : Nat) (msg : List UInt8) (i : Int) (B : Option Addr) (b d : Nat) (parts : List (List UInt8)) (E : Option Addr) (e f : Nat) (path : List (List UInt8)) (D : Gh) (w : World) (hk : Keeps D w) (hT : Tab D)
    (hA : BS D (.slice A n c) msg) (hB : DS D (.slice B b d) parts) (hE : DS D (.slice E e f) path) :
    Calls Tryd.prog 10 #[dg p, .int .i64 m, .slice A n c, sigV i B b d E e f] w fun x w' => x = .returned (.bool true) ∧ Below w.heap.size w w' := by
  have hP := Lib.hid hp
  rw [dg_darr p hp]
  obtain ⟨hn1, hn2, hn3⟩ := hA.len
  obtain ⟨hb1, hb2, hb3⟩ := hB.len
  obtain ⟨he1, he2, he3⟩ := hE.len
  have hnm : n ≤ maxLen := by omega
  have hbm : b ≤ maxLen := by omega
  have hem : e ≤ maxLen := by omega
  obtain ⟨D1, hG1, hv1⟩ := Box.pub hk 26 (darr p)
  obtain ⟨D2, hG2, hv2⟩ := Box.pub hG1.keeps 49 #[.int .i64 i, .slice B b d, .slice E e f]
  rw [show (w.alloc (.cells (darr p) 26)).heap.size = w.heap.size + 1 by simp] at hv2
  have hG3 := hG1.trans hG2
  have kp : Hid (∀ W, Keeps D2 W → W.rangeAt w.heap.size 0 (p.map bv)) := fun W hW j v hv => by
    rw [Nat.zero_add]
    refine hW _ _ _ (hG2.le _ _ _ (hv1 j v ?_))
    rw [darr_full p hP.out]; simpa using hv
  have kw0 := hv2 0 _ rfl
  have kw1 := hv2 1 _ rfl
  have kw2 := hv2 2 _ rfl
  have hA2 := hA.le hG3.le
  have hB2 := hB.le hG3.le
  have hE2 := hE.le hG3.le
  have hT2 := hT.le hG3.le
  have HSA := Lib.hid (sane32_c D2 _ hG3.keeps)
  have hszp := sz26l p hp
  have hu26 := Tryd.underlying26
  -- both answer alike
  obtain ⟨r, HV1, HV2⟩ : ∃ r : Bool, (∀ W, Keeps D2 W → Calls Tryd.prog 37 #[.agg (darr p), .int .i64 m, .slice A n c, sigV i B b d E e f] W fun x w' => x = .returned (.bool r) ∧ Below W.heap.size W w') ∧
      (∀ W, Keeps D2 W → Calls Tryd.prog 38 #[.agg (darr p), .int .i64 m, .slice A n c, sigV i B b d E e f] W fun x w' => x = .returned (.bool r) ∧ Below W.heap.size W w') := by
    by_cases hbad : m < 1 ∨ 256 < m ∨ i < 0 ∨ m ≤ i ∨ b ≠ 67 ∨ 65536 < n
    · exact ⟨false, fun W _ => verify_bad p m A n c hnm i B b d hbm E e f W hbad, fun W _ => rverify_bad p m A n c hnm i B b d hbm E e f W hbad⟩
    · obtain ⟨m', rfl⟩ := Int.eq_ofNat_of_zero_le (show 0 ≤ m by omega)
      obtain ⟨i', rfl⟩ := Int.eq_ofNat_of_zero_le (show 0 ≤ i by omega)
      obtain rfl : b = 67 := by omega
      exact ⟨verF sh p m' i' msg parts path, fun W hW => verify_ok hs p hp m' A n c msg (by omega) i' B d parts E e f path D2 W hW hT2 hA2 hB2 hE2 (by omega) (by omega),
        fun W hW => rverify_ok hs p hp m' A n c msg (by omega) i' B d parts E e f path D2 W hW hA2 hB2 hE2 (by omega) (by omega)⟩
  rw [darr_full p hP.out] at HV1 HV2
  have H1 := Lib.hid HV1
  have H2 := Lib.hid HV2
  have hbel0 := hG3.below
  have hkk := hG3.keeps
  clear HV1 HV2 hn1 hn2 hn3 hb1 hb2 hb3 he1 he2 he3 hk hT hA hB hE hG1 hG2 hG3 hv1 hv2 hp hA2 hB2 hE2 hT2
  unfold maxLen at hnm hbm hem
  go_enter Tryd.func10, Tryd.ntmps10
  go_wp2_with fail
  generalize (w.alloc (.cells (darr p) 26)).alloc (.cells #[.int .i64 i, .slice B b d, .slice E e f] 49) = W0 at *
  refine HSA.out.mono ?_
  rintro x w1 ⟨rfl, hb1⟩
  have hk1 := hkk.below hb1 (Nat.le_refl _)
  have hbel1 := belowVia hb1 hbel0
  clear HSA hkk hb1 hbel0
  have q0 := hk1 _ _ _ kw0
  have q1 := hk1 _ _ _ kw1
  have q2 := hk1 _ _ _ kw2
  by_cases a1 : 300 < n
  · have g1 : (300 : Int) < (n : Int) := by omega
    by_cases a2 : n ≤ 65536
    · have g2 : (n : Int) ≤ 65536 := by omega
      go_wp2_with fail
      go_ret
      exact ⟨rfl, hbel1⟩
    · have g2 : ¬ ((n : Int) ≤ 65536) := by omega
      by_cases a3 : 100 < b
      · have g3 : (100 : Int) < (b : Int) := by omega
        go_wp2_with fail
        go_ret
        exact ⟨rfl, hbel1⟩
      by_cases a4 : 100 < e
      · have g3 : ¬ ((100 : Int) < (b : Int)) := by omega
        have g4 : (100 : Int) < (e : Int) := by omega
        go_wp2_with fail
        go_ret
        exact ⟨rfl, hbel1⟩
      have g3 : ¬ ((100 : Int) < (b : Int)) := by omega
      have g4 : ¬ ((100 : Int) < (e : Int)) := by omega
      go_wp2_with fail
      clear q0 q1 q2
      have hk1d := hk1.drew
      have hbel1d := hbel1.drew
      have SH : Hid (∀ W, Keeps D2 W → (W.rangeAt w.heap.size 0 (p.map bv) ∧ W.cell? ⟨w.heap.size + 1, 0, none⟩ = some (.int .i64 i) ∧ W.cell? ⟨w.heap.size + 1, 1, none⟩ = some (.slice B b d) ∧ W.cell? ⟨w.heap.size + 1, 2, none⟩ = some (.slice E e f))) := fun W h => ⟨kp.out W h, h _ _ _ kw0, h _ _ _ kw1, h _ _ _ kw2⟩
      refine wp_region_held_drew (S := fun W => W.rangeAt w.heap.size 0 (p.map bv) ∧ W.cell? ⟨w.heap.size + 1, 0, none⟩ = some (.int .i64 i) ∧ W.cell? ⟨w.heap.size + 1, 1, none⟩ = some (.slice B b d) ∧ W.cell? ⟨w.heap.size + 1, 2, none⟩ = some (.slice E e f)) (by kernel_rfl) (SH.out _ hk1d) (fun hHeld => ?_)
      refine wpAnyH_take (i := 0) (v := (.agg (p.map bv).toArray)) rfl (by kernel_rfl) (by kernel_rfl) (by kernel_rfl) (fun _ _ _ h => h) (yieldsIf_load_mid (by rfl) _ _ rfl _ _ rfl _ _ (fun w h => h.1) hu26 rfl hszp) hHeld ?_
      simp only [Act.put, List.getElem_toArray, List.getElem_cons_zero, List.setIfInBounds_toArray, List.set_cons_zero, List.set_cons_succ]
      refine wpAnyH_take (i := 1) (v := ?_) rfl (by kernel_rfl) (by kernel_rfl) (by kernel_rfl) (fun _ _ _ h => h) (Or.inl ⟨by rfl, ?_⟩) hHeld ?_
      rotate_left
      · (intro wz hSw; (try dsimp only at hSw); go_simp; try with_reducible rfl)
      simp only [Act.put, List.getElem_toArray, List.getElem_cons_zero, List.getElem_cons_succ, List.setIfInBounds_toArray, List.set_cons_zero, List.set_cons_succ]
      refine wpAnyH_take (i := 2) (v := ?_) rfl (by kernel_rfl) (by kernel_rfl) (by kernel_rfl) (fun _ _ _ h => h) (Or.inl ⟨by rfl, ?_⟩) hHeld ?_
      rotate_left
      · (intro wz hSw; (try dsimp only at hSw); go_simp; try with_reducible rfl)
      simp only [Act.put, List.getElem_toArray, List.getElem_cons_zero, List.getElem_cons_succ, List.setIfInBounds_toArray, List.set_cons_zero, List.set_cons_succ]
      refine wpAnyH_take (i := 3) (v := ?_) rfl (by kernel_rfl) (by kernel_rfl) (by kernel_rfl) (fun _ _ _ h => h) (Or.inl ⟨by rfl, ?_⟩) hHeld ?_
      rotate_left
      · (intro wz hSw; (try dsimp only at hSw); go_simp; try with_reducible rfl)
      simp only [Act.put, List.getElem_toArray, List.getElem_cons_zero, List.getElem_cons_succ, List.setIfInBounds_toArray, List.set_cons_zero, List.set_cons_succ]
      refine wpAnyH_take (i := 5) (v := (.agg (p.map bv).toArray)) rfl (by kernel_rfl) (by kernel_rfl) (by kernel_rfl) (fun _ _ _ h => h) (yieldsIf_load_mid (by rfl) _ _ rfl _ _ rfl _ _ (fun w h => h.1) hu26 rfl hszp) hHeld ?_
      simp only [Act.put, List.getElem_toArray, List.getElem_cons_zero, List.getElem_cons_succ, List.setIfInBounds_toArray, List.set_cons_zero, List.set_cons_succ]
      refine wpAnyH_take (i := 6) (v := ?_) rfl (by kernel_rfl) (by kernel_rfl) (by kernel_rfl) (fun _ _ _ h => h) (Or.inl ⟨by rfl, ?_⟩) hHeld ?_
      rotate_left
      · (intro wz hSw; (try dsimp only at hSw); go_simp; try with_reducible rfl)
      simp only [Act.put, List.getElem_toArray, List.getElem_cons_zero, List.getElem_cons_succ, List.setIfInBounds_toArray, List.set_cons_zero, List.set_cons_succ]
      refine wpAnyH_take (i := 7) (v := ?_) rfl (by kernel_rfl) (by kernel_rfl) (by kernel_rfl) (fun _ _ _ h => h) (Or.inl ⟨by rfl, ?_⟩) hHeld ?_
      rotate_left
      · (intro wz hSw; (try dsimp only at hSw); go_simp; try with_reducible rfl)
      simp only [Act.put, List.getElem_toArray, List.getElem_cons_zero, List.getElem_cons_succ, List.setIfInBounds_toArray, List.set_cons_zero, List.set_cons_succ]
      refine wpAnyH_take (i := 8) (v := ?_) rfl (by kernel_rfl) (by kernel_rfl) (by kernel_rfl) (fun _ _ _ h => h) (Or.inl ⟨by rfl, ?_⟩) hHeld ?_
      rotate_left
      · (intro wz hSw; (try dsimp only at hSw); go_simp; try with_reducible rfl)
      simp only [Act.put, List.getElem_toArray, List.getElem_cons_zero, List.getElem_cons_succ, List.setIfInBounds_toArray, List.set_cons_zero, List.set_cons_succ]
      refine wpAnyH_ready (rs := [4]) (by kernel_rfl) (by simp) (AllReadyH.cons rfl (fun K' hK => ?_) AllReadyH.nil)
      go_simp
      go_wp2_with ((go_at_call 37; refine (H1.out _ hk1d).mono ?_; rintro x w2 ⟨rfl, hb2⟩))
      have hk2 := hk1d.below hb2 (Nat.le_refl _)
      have hbel2 := belowVia hb2 hbel1d
      refine hK.out _ _ (SH.out _ hk2) (fun hHeld => ?_)
      clear hK K'
      refine wpAnyH_ready (rs := [9]) (by kernel_rfl) (by simp) (AllReadyH.cons rfl (fun K' hK => ?_) AllReadyH.nil)
      go_simp
      go_wp2_with ((go_at_call 38; refine (H2.out _ hk2).mono ?_; rintro x w3 ⟨rfl, hb3⟩))
      have hk3 := hk2.below hb3 (Nat.le_refl _)
      have hbel3 := belowVia hb3 hbel2
      refine hK.out _ _ (SH.out _ hk3) (fun hHeld => ?_)
      clear hK K'
      refine wpAnyH_ready (rs := [10]) (by kernel_rfl) (by simp) (AllReadyH.cons rfl (fun K' hK => ?_) AllReadyH.nil)
      go_simp
      refine hK.out _ _ hHeld (fun hHeld => ?_)
      clear hK K'
      refine wpAnyH_ready (rs := [11]) (by kernel_rfl) (by simp) (AllReadyH.cons rfl (fun K' hK => ?_) AllReadyH.nil)
      go_simp
      refine hK.out _ _ hHeld (fun hHeld => ?_)
      clear hK K'
      refine wpAnyH_done (by kernel_rfl) ?_ _
      go_wp2_with fail
      go_ret
      exact ⟨by simp, hbel3⟩
  · have g1 : ¬ ((300 : Int) < (n : Int)) := by omega
    by_cases a3 : 100 < b
    · have g3 : (100 : Int) < (b : Int) := by omega
      go_wp2_with fail
      go_ret
      exact ⟨rfl, hbel1⟩
    by_cases a4 : 100 < e
    · have g3 : ¬ ((100 : Int) < (b : Int)) := by omega
      have g4 : (100 : Int) < (e : Int) := by omega
      go_wp2_with fail
      go_ret
      exact ⟨rfl, hbel1⟩
    have g3 : ¬ ((100 : Int) < (b : Int)) := by omega
    have g4 : ¬ ((100 : Int) < (e : Int)) := by omega
    go_wp2_with fail
    clear q0 q1 q2
    have hk1d := hk1.drew
    have hbel1d := hbel1.drew
    have SH : Hid (∀ W, Keeps D2 W → (W.rangeAt w.heap.size 0 (p.map bv) ∧ W.cell? ⟨w.heap.size + 1, 0, none⟩ = some (.int .i64 i) ∧ W.cell? ⟨w.heap.size + 1, 1, none⟩ = some (.slice B b d) ∧ W.cell? ⟨w.heap.size + 1, 2, none⟩ = some (.slice E e f))) := fun W h => ⟨kp.out W h, h _ _ _ kw0, h _ _ _ kw1, h _ _ _ kw2⟩
    refine wp_region_held_drew (S := fun W => W.rangeAt w.heap.size 0 (p.map bv) ∧ W.cell? ⟨w.heap.size + 1, 0, none⟩ = some (.int .i64 i) ∧ W.cell? ⟨w.heap.size + 1, 1, none⟩ = some (.slice B b d) ∧ W.cell? ⟨w.heap.size + 1, 2, none⟩ = some (.slice E e f)) (by kernel_rfl) (SH.out _ hk1d) (fun hHeld => ?_)
    refine wpAnyH_take (i := 0) (v := (.agg (p.map bv).toArray)) rfl (by kernel_rfl) (by kernel_rfl) (by kernel_rfl) (fun _ _ _ h => h) (yieldsIf_load_mid (by rfl) _ _ rfl _ _ rfl _ _ (fun w h => h.1) hu26 rfl hszp) hHeld ?_
    simp only [Act.put, List.getElem_toArray, List.getElem_cons_zero, List.setIfInBounds_toArray, List.set_cons_zero, List.set_cons_succ]
    refine wpAnyH_take (i := 1) (v := ?_) rfl (by kernel_rfl) (by kernel_rfl) (by kernel_rfl) (fun _ _ _ h => h) (Or.inl ⟨by rfl, ?_⟩) hHeld ?_
    rotate_left
    · (intro wz hSw; (try dsimp only at hSw); go_simp; try with_reducible rfl)
    simp only [Act.put, List.getElem_toArray, List.getElem_cons_zero, List.getElem_cons_succ, List.setIfInBounds_toArray, List.set_cons_zero, List.set_cons_succ]
    refine wpAnyH_take (i := 2) (v := ?_) rfl (by kernel_rfl) (by kernel_rfl) (by kernel_rfl) (fun _ _ _ h => h) (Or.inl ⟨by rfl, ?_⟩) hHeld ?_
    rotate_left
    · (intro wz hSw; (try dsimp only at hSw); go_simp; try with_reducible rfl)
    simp only [Act.put, List.getElem_toArray, List.getElem_cons_zero, List.getElem_cons_succ, List.setIfInBounds_toArray, List.set_cons_zero, List.set_cons_succ]
    refine wpAnyH_take (i := 3) (v := ?_) rfl (by kernel_rfl) (by kernel_rfl) (by kernel_rfl) (fun _ _ _ h => h) (Or.inl ⟨by rfl, ?_⟩) hHeld ?_
    rotate_left
    · (intro wz hSw; (try dsimp only at hSw); go_simp; try with_reducible rfl)
    simp only [Act.put, List.getElem_toArray, List.getElem_cons_zero, List.getElem_cons_succ, List.setIfInBounds_toArray, List.set_cons_zero, List.set_cons_succ]
    refine wpAnyH_take (i := 5) (v := (.agg (p.map bv).toArray)) rfl (by kernel_rfl) (by kernel_rfl) (by kernel_rfl) (fun _ _ _ h => h) (yieldsIf_load_mid (by rfl) _ _ rfl _ _ rfl _ _ (fun w h => h.1) hu26 rfl hszp) hHeld ?_
    simp only [Act.put, List.getElem_toArray, List.getElem_cons_zero, List.getElem_cons_succ, List.setIfInBounds_toArray, List.set_cons_zero, List.set_cons_succ]
    refine wpAnyH_take (i := 6) (v := ?_) rfl (by kernel_rfl) (by kernel_rfl) (by kernel_rfl) (fun _ _ _ h => h) (Or.inl ⟨by rfl, ?_⟩) hHeld ?_
    rotate_left
    · (intro wz hSw; (try dsimp only at hSw); go_simp; try with_reducible rfl)
    simp only [Act.put, List.getElem_toArray, List.getElem_cons_zero, List.getElem_cons_succ, List.setIfInBounds_toArray, List.set_cons_zero, List.set_cons_succ]
    refine wpAnyH_take (i := 7) (v := ?_) rfl (by kernel_rfl) (by kernel_rfl) (by kernel_rfl) (fun _ _ _ h => h) (Or.inl ⟨by rfl, ?_⟩) hHeld ?_
    rotate_left
    · (intro wz hSw; (try dsimp only at hSw); go_simp; try with_reducible rfl)
    simp only [Act.put, List.getElem_toArray, List.getElem_cons_zero, List.getElem_cons_succ, List.setIfInBounds_toArray, List.set_cons_zero, List.set_cons_succ]
    refine wpAnyH_take (i := 8) (v := ?_) rfl (by kernel_rfl) (by kernel_rfl) (by kernel_rfl) (fun _ _ _ h => h) (Or.inl ⟨by rfl, ?_⟩) hHeld ?_
    rotate_left
    · (intro wz hSw; (try dsimp only at hSw); go_simp; try with_reducible rfl)
    simp only [Act.put, List.getElem_toArray, List.getElem_cons_zero, List.getElem_cons_succ, List.setIfInBounds_toArray, List.set_cons_zero, List.set_cons_succ]
    refine wpAnyH_ready (rs := [4]) (by kernel_rfl) (by simp) (AllReadyH.cons rfl (fun K' hK => ?_) AllReadyH.nil)
    go_simp
    go_wp2_with ((go_at_call 37; refine (H1.out _ hk1d).mono ?_; rintro x w2 ⟨rfl, hb2⟩))
    have hk2 := hk1d.below hb2 (Nat.le_refl _)
    have hbel2 := belowVia hb2 hbel1d
    refine hK.out _ _ (SH.out _ hk2) (fun hHeld => ?_)
    clear hK K'
    refine wpAnyH_ready (rs := [9]) (by kernel_rfl) (by simp) (AllReadyH.cons rfl (fun K' hK => ?_) AllReadyH.nil)
    go_simp
    go_wp2_with ((go_at_call 38; refine (H2.out _ hk2).mono ?_; rintro x w3 ⟨rfl, hb3⟩))
    have hk3 := hk2.below hb3 (Nat.le_refl _)
    have hbel3 := belowVia hb3 hbel2
    refine hK.out _ _ (SH.out _ hk3) (fun hHeld => ?_)
    clear hK K'
    refine wpAnyH_ready (rs := [10]) (by kernel_rfl) (by simp) (AllReadyH.cons rfl (fun K' hK => ?_) AllReadyH.nil)
    go_simp
    refine hK.out _ _ hHeld (fun hHeld => ?_)
    clear hK K'
    refine wpAnyH_ready (rs := [11]) (by kernel_rfl) (by simp) (AllReadyH.cons rfl (fun K' hK => ?_) AllReadyH.nil)
    go_simp
    refine hK.out _ _ hHeld (fun hHeld => ?_)
    clear hK K'
    refine wpAnyH_done (by kernel_rfl) ?_ _
    go_wp2_with fail
    go_ret
    exact ⟨by simp, hbel3⟩
end Go.Proofs.YtohknemfcohhfaaDoor
