/-
  What is proved here: Same, SameKey of the signing reference; same of the law
-/
import Derived.Test.YtohknemfcohhfaaDoorRows
import Derived.Test.YtohknemfcohhfaaDoorBaseC
import Derived.Test.YtohknemfcohhfaaDoorSha
import Derived.Test.YtohknemfcohhfaaDoorTree
import Derived.Test.YtohknemfcohhfaaDoorSign
import Derived.Test.YtohknemfcohhfaaDoorShelf
import Derived.Test.YtohknemfcohhfaaDoorDigA
import Derived.Test.YtohknemfcohhfaaDoorDigC
import Derived.Test.YtohknemfcohhfaaDoorDigD
import Derived.Test.YtohknemfcohhfaaDoorDigE
import Derived.Test.YtohknemfcohhfaaDoorDigF
import Derived.Test.YtohknemfcohhfaaDoorDigG
import Derived.Test.YtohknemfcohhfaaDoorDigH
import Derived.Test.YtohknemfcohhfaaDoorDigI
import Derived.Test.YtohknemfcohhfaaDoorDigJ
import Derived.Test.YtohknemfcohhfaaDoorDigK
import Derived.Test.YtohknemfcohhfaaDoorDigL
import Derived.Test.YtohknemfcohhfaaDoorDigM
import Derived.Test.YtohknemfcohhfaaDoorDigN
import Derived.Test.YtohknemfcohhfaaDoorDigO
import Derived.Test.YtohknemfcohhfaaDoorDigP
import Derived.Test.YtohknemfcohhfaaDoorDigQ
import Derived.Test.YtohknemfcohhfaaDoorDigR
import Derived.Test.YtohknemfcohhfaaDoorDigS
import Derived.Test.YtohknemfcohhfaaDoorDigT
import Derived.Test.YtohknemfcohhfaaDoorLawHalves
import Derived.Test.YtohknemfcohhfaaDoorDigU
import Derived.Test.YtohknemfcohhfaaDoorDigW
import Derived.Test.YtohknemfcohhfaaDoorDigX
import Derived.Test.YtohknemfcohhfaaDoorDigY
import Derived.Test.YtohknemfcohhfaaDoorSigA
import Derived.Test.YtohknemfcohhfaaDoorSigB
import Derived.Test.YtohknemfcohhfaaDoorSigC
import Derived.Test.YtohknemfcohhfaaDoorSigD
import Derived.Test.YtohknemfcohhfaaDoorSigE
import Derived.Test.YtohknemfcohhfaaDoorSigP
import Derived.Test.YtohknemfcohhfaaDoorSigF
import Derived.Test.YtohknemfcohhfaaDoorSigG
import Derived.Test.YtohknemfcohhfaaDoorSigI
import Derived.Test.YtohknemfcohhfaaDoorSigJ
import Derived.Test.YtohknemfcohhfaaDoorSigK
import Derived.Lib.ConvBytes
import Derived.StillTailTactics
import Derived.Lib.AppendZerosOnto
import Derived.Deep.RegionHeld3
import Derived.Stop.BytesEq
import Derived.Great.BuildSlice
import Derived.Deep.MidRow
import Derived.Deep.RegionLaw
import Derived.Deep.DeepCutAuto
import Derived.Deep.QuietTactic
import Derived.BigQuiet
import Derived.Laws.EntriesVeiled
namespace Go.Proofs.YtohknemfcohhfaaDoor
open Go.RowKit Go.VS
set_option maxRecDepth 100000 in
set_option maxHeartbeats 2000000 in
theorem rsamekey_c (A B : Option Addr) (n c d : Nat) (m u : Int) (seed : List UInt8) (D : Gh) (w : World) (hk : Keeps D w) (hA : BS D (.slice A n c) seed) (hB : BS D (.slice B n d) seed) :
    Calls Tryd.prog 35 #[keyV A n c m u, keyV B n d m u] w fun e w' => e = .returned (.bool true) ∧ Below w.heap.size w w' := by
  have hB0 := (Box.new2 hk rfl 45 #[.slice A n c, .int .i64 m, .int .i64 u]).alloc (.cells #[.slice B n d, .int .i64 m, .int .i64 u] 45)
  have hB1 := Box.new2 (hk.alloc (.cells #[.slice A n c, .int .i64 m, .int .i64 u] 45)) (g := w.heap.size + 1) (by simp) 45 #[.slice B n d, .int .i64 m, .int .i64 u]
  have hbel : Below w.heap.size w ((w.alloc (.cells #[.slice A n c, .int .i64 m, .int .i64 u] 45)).alloc (.cells #[.slice B n d, .int .i64 m, .int .i64 u] 45)) := (by repeat (first | (with_reducible exact Below.refl _ _) | (with_reducible refine Below.drew ?_) | (with_reducible refine belowDrewN ?_ _) | (with_reducible refine belowAlloc ?_ _) | ((with_reducible refine belowSet2 ?_ ?_); omega) | (with_reducible assumption) | (with_reducible refine belowVia (by assumption) ?_) | (with_reducible refine belowVia (Grow.below (by assumption)) ?_)))
  have hk2 : Keeps D ((w.alloc (.cells #[.slice A n c, .int .i64 m, .int .i64 u] 45)).alloc (.cells #[.slice B n d, .int .i64 m, .int .i64 u] 45)) := (by repeat (with_reducible first | assumption | refine Keeps.drew ?_ | refine Keeps.drewN ?_ _ | refine Keeps.alloc ?_ _ | exact Grow.keeps (by assumption)))
  have a0 := hB0.cell 0
  have a1 := hB0.cell 1
  have a2 := hB0.cell 2
  have b0 := hB1.cell 0
  have b1 := hB1.cell 1
  have b2 := hB1.cell 2
  have hc1 := run_string_bs (P := Tryd.prog) hk2 (src := 22) (e := 5) (dst := 9) Tryd.underlying22 Tryd.underlying5 Tryd.underlying9 hA
  have hc2 := run_string_bs (P := Tryd.prog) hk2 (src := 22) (e := 5) (dst := 9) Tryd.underlying22 Tryd.underlying5 Tryd.underlying9 hB
  clear hA hB hB0 hB1 hk2
  go_enter Tryd.func35, Tryd.ntmps35
  go_wp2
  go_ret
  exact ⟨rfl, hbel⟩
set_option maxRecDepth 100000 in
set_option maxHeartbeats 2000000 in
theorem same42_c (A B : Option Addr) (n c d : Nat) (l : List Int) (D : Gh) (w : World) (hk : Keeps D w) (hA : NS D (.slice A n c) l) (hB : NS D (.slice B n d) l) :
    Calls Tryd.prog 42 #[.slice A n c, .slice B n d] w fun e w' => e = .returned (.bool true) ∧ Below w.heap.size w w' := by
  have hl : n = l.length := by
    obtain ⟨a', c', hv, _⟩ := hA
    cases hv
    simp
  have hn : n ≤ maxLen := by
    obtain ⟨a', c', hv, h1, h2, _⟩ := hA
    cases hv
    omega
  unfold maxLen at hn
  have HL := Lib.hid hl
  clear hl
  go_enter Tryd.func42, Tryd.ntmps42
  go_wp2_with fail
  go_loopw [5] (fun x wr => ∃ i : Nat, i ≤ n ∧ x = .int .i64 i ∧ Below w.heap.size w wr ∧ Keeps D wr) (fun x _ => n - (intOf x).toNat)
  case atStart => exact ⟨0, by omega, rfl, Below.refl _ _, hk⟩
  case round =>
    obtain ⟨i, him, rfl, hbel, hkr⟩ := hrel
    by_cases hlt : i < n
    · have g1 : (i : Int) < (n : Int) := by omega
      have g0 : (0 : Int) ≤ (i : Int) := by omega
      obtain ⟨b1, o1, rfl, hc1⟩ := ns_cell hA (k := i) (by rw [← HL.out]; exact hlt)
      obtain ⟨b2, o2, rfl, hc2⟩ := ns_cell hB (k := i) (by rw [← HL.out]; exact hlt)
      have d1 := hc1 _ hkr
      have d2 := hc2 _ hkr
      generalize l.getD i 0 = x at *
      clear hc1 hc2
      go_wp2_with fail
      go_quiet (fail)
      go_wp2_with fail
      exact ⟨⟨i + 1, by omega, by first | rfl | (congr 1; omega), belowDrewN hbel _, hkr.drewN _⟩, by simp only [intOf]; omega⟩
    · obtain rfl : i = n := by omega
      have g1 : ¬ ((i : Int) < (i : Int)) := by omega
      go_wp2
      go_ret
      exact ⟨rfl, hbel⟩
set_option maxRecDepth 100000 in
set_option maxHeartbeats 2000000 in
theorem rsame36_c (i : Int) (B E B' E' : Option Addr) (b d e f d' f' : Nat) (parts path : List (List UInt8)) (D : Gh) (w : World) (hk : Keeps D w) (hP : DS D (.slice B b d) parts) (hQ : DS D (.slice E e f) path) (hP' : DS D (.slice B' b d') parts) (hQ' : DS D (.slice E' e f') path) :
    Calls Tryd.prog 36 #[sigV i B b d E e f, sigV i B' b d' E' e f'] w fun x w' => x = .returned (.bool true) ∧ Below w.heap.size w w' := by
  obtain ⟨hb1, hb2, hb3⟩ := hP.len
  obtain ⟨he1, he2, he3⟩ := hQ.len
  have hb4 := hP'.len.2.1
  have he4 := hQ'.len.2.1
  unfold maxLen at hb3 he3
  have HBL := Lib.hid hb1
  have HEL := Lib.hid he1
  obtain ⟨D1, hG1, hv1⟩ := Box.pub hk 49 #[.int .i64 i, .slice B b d, .slice E e f]
  obtain ⟨D2, hG2, hv2⟩ := Box.pub hG1.keeps 49 #[.int .i64 i, .slice B' b d', .slice E' e f']
  have hG3 := hG1.trans hG2
  have hP2 := hP.le hG3.le
  have hQ2 := hQ.le hG3.le
  have hP2' := hP'.le hG3.le
  have hQ2' := hQ'.le hG3.le
  have hs1 : (w.alloc (.cells #[.int .i64 i, .slice B b d, .slice E e f] 49)).heap.size = w.heap.size + 1 := by simp
  rw [hs1] at hv2
  have kv0 := hG2.le _ _ _ (hv1 0 _ rfl)
  have kv1 := hG2.le _ _ _ (hv1 1 _ rfl)
  have kv2 := hG2.le _ _ _ (hv1 2 _ rfl)
  have kw0 := hv2 0 _ rfl
  have kw1 := hv2 1 _ rfl
  have kw2 := hv2 2 _ rfl
  have SH : Hid (∀ W, Keeps D2 W → (W.cell? ⟨w.heap.size, 0, none⟩ = some (.int .i64 i) ∧ W.cell? ⟨w.heap.size, 1, none⟩ = some (.slice B b d) ∧ W.cell? ⟨w.heap.size, 2, none⟩ = some (.slice E e f) ∧ W.cell? ⟨w.heap.size + 1, 0, none⟩ = some (.int .i64 i) ∧ W.cell? ⟨w.heap.size + 1, 1, none⟩ = some (.slice B' b d') ∧ W.cell? ⟨w.heap.size + 1, 2, none⟩ = some (.slice E' e f'))) := fun W h => ⟨h _ _ _ kv0, h _ _ _ kv1, h _ _ _ kv2, h _ _ _ kw0, h _ _ _ kw1, h _ _ _ kw2⟩
  have hu26 := Tryd.underlying26
  obtain ⟨q0, q1, q2, q3, q4, q5⟩ := SH.out _ hG3.keeps
  have hbel := hG3.below
  have hkW := hG3.keeps
  clear hb1 he1 hP hQ hP' hQ' hv1 hv2 hG1 hG2 hs1 kv0 kv1 kv2 kw0 kw1 kw2 hG3 hk
  go_enter Tryd.func36, Tryd.ntmps36
  go_wp2_with fail
  generalize (w.alloc (.cells #[.int .i64 i, .slice B b d, .slice E e f] 49)).alloc (.cells #[.int .i64 i, .slice B' b d', .slice E' e f'] 49) = W at *
  clear q0 q1 q2 q3 q4 q5
  go_loopw [5] (fun x wr => ∃ k : Nat, k ≤ b ∧ x = .int .i64 k ∧ Below w.heap.size w wr ∧ Keeps D2 wr) (fun x _ => b - (intOf x).toNat)
  case atStart => exact ⟨0, by omega, rfl, hbel, hkW⟩
  case round =>
    clear hbel hkW
    obtain ⟨k, hkb, rfl, hbel, hkr⟩ := hrel
    obtain ⟨q0, q1, q2, q3, q4, q5⟩ := SH.out _ hkr
    by_cases hlt : k < b
    · have g1 : (k : Int) < (b : Int) := by omega
      have g0 : (0 : Int) ≤ (k : Int) := by omega
      obtain ⟨b1, o1, rfl, h32, hr1⟩ := ds_range hP2 hkr.drew (k := k) (by rw [← HBL.out]; exact hlt)
      obtain ⟨b2, o2, rfl, _, hr2⟩ := ds_range hP2' hkr.drew (k := k) (by rw [← HBL.out]; exact hlt)
      rw [Nat.mul_comm] at hr1 hr2
      generalize parts[k]'(by rw [← HBL.out]; exact hlt) = x at *
      have hsx := sz26l x h32
      have heq : ∀ W, (Op.equalIn 10000 26 (.agg (x.map bv).toArray) (.agg (x.map bv).toArray)).run Tryd.prog W = .ok true W := fun W => by
        have := eq26 x x h32 h32 W
        rw [darr_full x h32] at this
        rw [this]; simp
      obtain ⟨s0, s1, s2, s3, s4, s5⟩ := SH.out _ hkr.drew
      clear h32
      go_wp2_with fail
      clear q0 q1 q2 q3 q4 q5
      refine wp_region_held_drew (S := fun W => W.rangeAt b1 (o1 + k * 32) (x.map bv) ∧ W.rangeAt b2 (o2 + k * 32) (x.map bv) ∧ W.cell? ⟨w.heap.size, 1, none⟩ = some (.slice (some ⟨b1, o1, none⟩) b d) ∧ W.cell? ⟨w.heap.size + 1, 1, none⟩ = some (.slice (some ⟨b2, o2, none⟩) b d')) (by kernel_rfl) ⟨hr1, hr2, s1, s4⟩ (fun hHeld => ?_)
      clear s0 s1 s2 s3 s4 s5
      refine wpAnyH_take (i := 0) (v := ?_) rfl (by kernel_rfl) (by kernel_rfl) (by kernel_rfl) (fun _ _ _ h => h) (Or.inl ⟨by rfl, ?_⟩) hHeld ?_
      rotate_left
      · (intro wz hSw; (try dsimp only at hSw); go_simp; try with_reducible rfl)
      simp only [Act.put, List.getElem_toArray, List.getElem_cons_zero, List.setIfInBounds_toArray, List.set_cons_zero, List.set_cons_succ]
      refine wpAnyH_take (i := 1) (v := ?_) rfl (by kernel_rfl) (by kernel_rfl) (by kernel_rfl) (fun _ _ _ h => h) (Or.inl ⟨by rfl, ?_⟩) hHeld ?_
      rotate_left
      · (intro wz hSw; (try dsimp only at hSw); go_simp; try with_reducible rfl)
      simp only [Act.put, List.getElem_toArray, List.getElem_cons_zero, List.getElem_cons_succ, List.setIfInBounds_toArray, List.set_cons_zero, List.set_cons_succ]
      refine wpAnyH_take (i := 2) (v := ?_) rfl (by kernel_rfl) (by kernel_rfl) (by kernel_rfl) (fun _ _ _ h => h) (Or.inl ⟨by rfl, ?_⟩) hHeld ?_
      rotate_left
      · (intro wz hSw; (try dsimp only at hSw); go_simp; try with_reducible rfl)
      simp only [Act.put, List.getElem_toArray, List.getElem_cons_zero, List.getElem_cons_succ, List.setIfInBounds_toArray, List.set_cons_zero, List.set_cons_succ]
      refine wpAnyH_take (i := 3) (v := ?_) rfl (by kernel_rfl) (by kernel_rfl) (by kernel_rfl) (fun _ _ _ h => h) (Or.inl ⟨by rfl, ?_⟩) hHeld ?_
      rotate_left
      · (intro wz hSw; (try dsimp only at hSw); go_simp; try with_reducible rfl)
      simp only [Act.put, List.getElem_toArray, List.getElem_cons_zero, List.getElem_cons_succ, List.setIfInBounds_toArray, List.set_cons_zero, List.set_cons_succ]
      refine wpAnyH_take (i := 4) (v := (.agg (x.map bv).toArray)) rfl (by kernel_rfl) (by kernel_rfl) (by kernel_rfl) (fun _ _ _ h => h) (yieldsIf_load_mid (by rfl) _ _ rfl _ _ rfl _ _ (fun w h => h.1) hu26 rfl hsx) hHeld ?_
      simp only [Act.put, List.getElem_toArray, List.getElem_cons_zero, List.getElem_cons_succ, List.setIfInBounds_toArray, List.set_cons_zero, List.set_cons_succ]
      refine wpAnyH_take (i := 5) (v := ?_) rfl (by kernel_rfl) (by kernel_rfl) (by kernel_rfl) (fun _ _ _ h => h) (Or.inl ⟨by rfl, ?_⟩) hHeld ?_
      rotate_left
      · (intro wz hSw; (try dsimp only at hSw); go_simp; try with_reducible rfl)
      simp only [Act.put, List.getElem_toArray, List.getElem_cons_zero, List.getElem_cons_succ, List.setIfInBounds_toArray, List.set_cons_zero, List.set_cons_succ]
      refine wpAnyH_take (i := 6) (v := ?_) rfl (by kernel_rfl) (by kernel_rfl) (by kernel_rfl) (fun _ _ _ h => h) (Or.inl ⟨by rfl, ?_⟩) hHeld ?_
      rotate_left
      · (intro wz hSw; (try dsimp only at hSw); go_simp; try with_reducible rfl)
      simp only [Act.put, List.getElem_toArray, List.getElem_cons_zero, List.getElem_cons_succ, List.setIfInBounds_toArray, List.set_cons_zero, List.set_cons_succ]
      refine wpAnyH_take (i := 7) (v := ?_) rfl (by kernel_rfl) (by kernel_rfl) (by kernel_rfl) (fun _ _ _ h => h) (Or.inl ⟨by rfl, ?_⟩) hHeld ?_
      rotate_left
      · (intro wz hSw; (try dsimp only at hSw); go_simp; try with_reducible rfl)
      simp only [Act.put, List.getElem_toArray, List.getElem_cons_zero, List.getElem_cons_succ, List.setIfInBounds_toArray, List.set_cons_zero, List.set_cons_succ]
      refine wpAnyH_take (i := 8) (v := ?_) rfl (by kernel_rfl) (by kernel_rfl) (by kernel_rfl) (fun _ _ _ h => h) (Or.inl ⟨by rfl, ?_⟩) hHeld ?_
      rotate_left
      · (intro wz hSw; (try dsimp only at hSw); go_simp; try with_reducible rfl)
      simp only [Act.put, List.getElem_toArray, List.getElem_cons_zero, List.getElem_cons_succ, List.setIfInBounds_toArray, List.set_cons_zero, List.set_cons_succ]
      refine wpAnyH_take (i := 9) (v := (.agg (x.map bv).toArray)) rfl (by kernel_rfl) (by kernel_rfl) (by kernel_rfl) (fun _ _ _ h => h) (yieldsIf_load_mid (by rfl) _ _ rfl _ _ rfl _ _ (fun w h => h.2.1) hu26 rfl hsx) hHeld ?_
      simp only [Act.put, List.getElem_toArray, List.getElem_cons_zero, List.getElem_cons_succ, List.setIfInBounds_toArray, List.set_cons_zero, List.set_cons_succ]
      refine wpAnyH_ready (rs := [10]) (by kernel_rfl) (by simp) (AllReadyH.cons rfl (fun K' hK => ?_) AllReadyH.nil)
      go_simp
      refine hK.out _ _ hHeld (fun hHeld => ?_)
      clear hK K'
      refine wpAnyH_done (by kernel_rfl) ?_ _
      go_wp2_with fail
      exact ⟨⟨k + 1, by omega, by first | rfl | (congr 1; omega), hbel.drew, hkr.drew⟩, by simp only [intOf]; omega⟩
    · obtain rfl : k = b := by omega
      have g1 : ¬ ((k : Int) < (k : Int)) := by omega
      go_wp2_with fail
      clear q0 q1 q2 q3 q4 q5
      go_loopw [6] (fun x wr => ∃ k : Nat, k ≤ e ∧ x = .int .i64 k ∧ Below w.heap.size w wr ∧ Keeps D2 wr) (fun x _ => e - (intOf x).toNat)
      case atStart => exact ⟨0, by omega, rfl, hbel, hkr⟩
      case round =>
        clear hbel hkr
        obtain ⟨j, hje, rfl, hbel, hkr⟩ := hrel
        obtain ⟨q0, q1, q2, q3, q4, q5⟩ := SH.out _ hkr
        by_cases hlt3 : j < e
        · have g1 : (j : Int) < (e : Int) := by omega
          have g0 : (0 : Int) ≤ (j : Int) := by omega
          obtain ⟨b1, o1, rfl, h32, hr1⟩ := ds_range hQ2 hkr.drew (k := j) (by rw [← HEL.out]; exact hlt3)
          obtain ⟨b2, o2, rfl, _, hr2⟩ := ds_range hQ2' hkr.drew (k := j) (by rw [← HEL.out]; exact hlt3)
          rw [Nat.mul_comm] at hr1 hr2
          generalize path[j]'(by rw [← HEL.out]; exact hlt3) = x at *
          have hsx := sz26l x h32
          have heq : ∀ W, (Op.equalIn 10000 26 (.agg (x.map bv).toArray) (.agg (x.map bv).toArray)).run Tryd.prog W = .ok true W := fun W => by
            have := eq26 x x h32 h32 W
            rw [darr_full x h32] at this
            rw [this]; simp
          obtain ⟨s0, s1, s2, s3, s4, s5⟩ := SH.out _ hkr.drew
          clear h32
          go_wp2_with fail
          clear q0 q1 q2 q3 q4 q5
          refine wp_region_held_drew (S := fun W => W.rangeAt b1 (o1 + j * 32) (x.map bv) ∧ W.rangeAt b2 (o2 + j * 32) (x.map bv) ∧ W.cell? ⟨w.heap.size, 2, none⟩ = some (.slice (some ⟨b1, o1, none⟩) e f) ∧ W.cell? ⟨w.heap.size + 1, 2, none⟩ = some (.slice (some ⟨b2, o2, none⟩) e f')) (by kernel_rfl) ⟨hr1, hr2, s2, s5⟩ (fun hHeld => ?_)
          clear s0 s1 s2 s3 s4 s5
          refine wpAnyH_take (i := 0) (v := ?_) rfl (by kernel_rfl) (by kernel_rfl) (by kernel_rfl) (fun _ _ _ h => h) (Or.inl ⟨by rfl, ?_⟩) hHeld ?_
          rotate_left
          · (intro wz hSw; (try dsimp only at hSw); go_simp; try with_reducible rfl)
          simp only [Act.put, List.getElem_toArray, List.getElem_cons_zero, List.setIfInBounds_toArray, List.set_cons_zero, List.set_cons_succ]
          refine wpAnyH_take (i := 1) (v := ?_) rfl (by kernel_rfl) (by kernel_rfl) (by kernel_rfl) (fun _ _ _ h => h) (Or.inl ⟨by rfl, ?_⟩) hHeld ?_
          rotate_left
          · (intro wz hSw; (try dsimp only at hSw); go_simp; try with_reducible rfl)
          simp only [Act.put, List.getElem_toArray, List.getElem_cons_zero, List.getElem_cons_succ, List.setIfInBounds_toArray, List.set_cons_zero, List.set_cons_succ]
          refine wpAnyH_take (i := 2) (v := ?_) rfl (by kernel_rfl) (by kernel_rfl) (by kernel_rfl) (fun _ _ _ h => h) (Or.inl ⟨by rfl, ?_⟩) hHeld ?_
          rotate_left
          · (intro wz hSw; (try dsimp only at hSw); go_simp; try with_reducible rfl)
          simp only [Act.put, List.getElem_toArray, List.getElem_cons_zero, List.getElem_cons_succ, List.setIfInBounds_toArray, List.set_cons_zero, List.set_cons_succ]
          refine wpAnyH_take (i := 3) (v := ?_) rfl (by kernel_rfl) (by kernel_rfl) (by kernel_rfl) (fun _ _ _ h => h) (Or.inl ⟨by rfl, ?_⟩) hHeld ?_
          rotate_left
          · (intro wz hSw; (try dsimp only at hSw); go_simp; try with_reducible rfl)
          simp only [Act.put, List.getElem_toArray, List.getElem_cons_zero, List.getElem_cons_succ, List.setIfInBounds_toArray, List.set_cons_zero, List.set_cons_succ]
          refine wpAnyH_take (i := 4) (v := (.agg (x.map bv).toArray)) rfl (by kernel_rfl) (by kernel_rfl) (by kernel_rfl) (fun _ _ _ h => h) (yieldsIf_load_mid (by rfl) _ _ rfl _ _ rfl _ _ (fun w h => h.1) hu26 rfl hsx) hHeld ?_
          simp only [Act.put, List.getElem_toArray, List.getElem_cons_zero, List.getElem_cons_succ, List.setIfInBounds_toArray, List.set_cons_zero, List.set_cons_succ]
          refine wpAnyH_take (i := 5) (v := ?_) rfl (by kernel_rfl) (by kernel_rfl) (by kernel_rfl) (fun _ _ _ h => h) (Or.inl ⟨by rfl, ?_⟩) hHeld ?_
          rotate_left
          · (intro wz hSw; (try dsimp only at hSw); go_simp; try with_reducible rfl)
          simp only [Act.put, List.getElem_toArray, List.getElem_cons_zero, List.getElem_cons_succ, List.setIfInBounds_toArray, List.set_cons_zero, List.set_cons_succ]
          refine wpAnyH_take (i := 6) (v := ?_) rfl (by kernel_rfl) (by kernel_rfl) (by kernel_rfl) (fun _ _ _ h => h) (Or.inl ⟨by rfl, ?_⟩) hHeld ?_
          rotate_left
          · (intro wz hSw; (try dsimp only at hSw); go_simp; try with_reducible rfl)
          simp only [Act.put, List.getElem_toArray, List.getElem_cons_zero, List.getElem_cons_succ, List.setIfInBounds_toArray, List.set_cons_zero, List.set_cons_succ]
          refine wpAnyH_take (i := 7) (v := ?_) rfl (by kernel_rfl) (by kernel_rfl) (by kernel_rfl) (fun _ _ _ h => h) (Or.inl ⟨by rfl, ?_⟩) hHeld ?_
          rotate_left
          · (intro wz hSw; (try dsimp only at hSw); go_simp; try with_reducible rfl)
          simp only [Act.put, List.getElem_toArray, List.getElem_cons_zero, List.getElem_cons_succ, List.setIfInBounds_toArray, List.set_cons_zero, List.set_cons_succ]
          refine wpAnyH_take (i := 8) (v := ?_) rfl (by kernel_rfl) (by kernel_rfl) (by kernel_rfl) (fun _ _ _ h => h) (Or.inl ⟨by rfl, ?_⟩) hHeld ?_
          rotate_left
          · (intro wz hSw; (try dsimp only at hSw); go_simp; try with_reducible rfl)
          simp only [Act.put, List.getElem_toArray, List.getElem_cons_zero, List.getElem_cons_succ, List.setIfInBounds_toArray, List.set_cons_zero, List.set_cons_succ]
          refine wpAnyH_take (i := 9) (v := (.agg (x.map bv).toArray)) rfl (by kernel_rfl) (by kernel_rfl) (by kernel_rfl) (fun _ _ _ h => h) (yieldsIf_load_mid (by rfl) _ _ rfl _ _ rfl _ _ (fun w h => h.2.1) hu26 rfl hsx) hHeld ?_
          simp only [Act.put, List.getElem_toArray, List.getElem_cons_zero, List.getElem_cons_succ, List.setIfInBounds_toArray, List.set_cons_zero, List.set_cons_succ]
          refine wpAnyH_ready (rs := [10]) (by kernel_rfl) (by simp) (AllReadyH.cons rfl (fun K' hK => ?_) AllReadyH.nil)
          go_simp
          refine hK.out _ _ hHeld (fun hHeld => ?_)
          clear hK K'
          refine wpAnyH_done (by kernel_rfl) ?_ _
          go_wp2_with fail
          exact ⟨⟨j + 1, by omega, by first | rfl | (congr 1; omega), hbel.drew, hkr.drew⟩, by simp only [intOf]; omega⟩
        · obtain rfl : j = e := by omega
          have g1 : ¬ ((j : Int) < (j : Int)) := by omega
          go_wp2
          go_ret
          exact ⟨rfl, hbel⟩
end Go.Proofs.YtohknemfcohhfaaDoor
