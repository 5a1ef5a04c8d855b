/-
  What is proved here: Climb and Same of the reference
-/
import Derived.Test.YtohknemfcohhfaaDoorRows
import Derived.Test.YtohknemfcohhfaaDoorBaseC
import Derived.Test.YtohknemfcohhfaaDoorSha
import Derived.Test.YtohknemfcohhfaaDoorDigA
import Derived.Test.YtohknemfcohhfaaDoorDigB
import Derived.Test.YtohknemfcohhfaaDoorDigC
import Derived.Test.YtohknemfcohhfaaDoorDigD
import Derived.Test.YtohknemfcohhfaaDoorDigE
import Derived.Test.YtohknemfcohhfaaDoorDigF
import Derived.Test.YtohknemfcohhfaaDoorDigG
import Derived.Test.YtohknemfcohhfaaDoorDigL
import Derived.Test.YtohknemfcohhfaaDoorLawHalves
import Derived.Test.YtohknemfcohhfaaDoorDigW
import Derived.Test.YtohknemfcohhfaaDoorDigX
import Derived.Test.YtohknemfcohhfaaDoorDigZ
import Derived.Test.YtohknemfcohhfaaDoorDigY
import Derived.Test.YtohknemfcohhfaaDoorDigT
import Derived.Test.YtohknemfcohhfaaDoorDigR
import Derived.Great.BuildSlice
import Derived.Test.YtohknemfcohhfaaDoorDigQ
import Derived.Stop.BytesEq
import Derived.Test.YtohknemfcohhfaaDoorDigU
import Derived.Test.YtohknemfcohhfaaDoorDigV
import Derived.Lib.ConvBytes
import Derived.StillTailTactics
import Derived.Lib.AppendZerosOnto
import Derived.Deep.RegionHeld3
import Derived.Deep.MidRow
import Derived.Deep.RegionLaw
import Derived.Deep.DeepCutAuto
import Derived.Deep.QuietTactic
import Derived.BigQuiet
import Derived.Laws.EntriesVeiled
namespace Go.Proofs.YtohknemfcohhfaaDoor
open Go.RowKit Go.VS
set_option maxRecDepth 100000 in
set_option maxHeartbeats 1000000 in
theorem rclimbErr {sh : List UInt8 → List UInt8} (d : List UInt8) (hd : d.length = 32) (at_ n : Int) (A : Option Addr) (l c : Nat) (ps : List (List UInt8)) (D : Gh) (w : World) (hk : Keeps D w) (hp : DS D (.slice A l c) ps)
    (hbad : ¬ (0 ≤ at_ ∧ at_ < n ∧ n ≤ 1099511627776 ∧ ps.length = lenF at_.toNat n.toNat)) :
    Calls Tryd.prog 29 #[dg d, .int .i64 at_, .int .i64 n, .slice A l c] w fun e w' => e = .returned (.tuple #[dg (climbR sh d at_ n ps).1, .int .i64 (climbR sh d at_ n ps).2]) ∧ Below w.heap.size w w' := by
  obtain ⟨hnl, hnc, hcm⟩ := hp.len
  unfold maxLen at hcm
  have HR := Lib.hid (show climbR sh d at_ n ps = (zeros32, 1) by unfold climbR; rw [if_neg hbad])
  rw [dg_darr d hd]
  have hB := Box.new2 (hk.alloc (.cells (darr d) 26)) (g := w.heap.size + 1) (by simp) 26 (darr [])
  have hbelW : Below w.heap.size w ((w.alloc (.cells (darr d) 26)).alloc (.cells (darr []) 26)) := (by repeat (first | (with_reducible exact Below.refl _ _) | (with_reducible refine Below.drew ?_) | (with_reducible refine belowDrewN ?_ _) | (with_reducible refine belowAlloc ?_ _) | ((with_reducible refine belowSet2 ?_ ?_); omega) | (with_reducible assumption) | (with_reducible refine belowVia (by assumption) ?_) | (with_reducible refine belowVia (Grow.below (by assumption)) ?_)))
  have hz26 := sz26 zeros32 rfl
  rw [← darr_zero] at hz26
  by_cases h3 : 1099511627776 < n
  · have g3 : decide (1099511627776 < n) = true := by simp; omega
    clear hbad hnl
    go_enter Tryd.func29, Tryd.ntmps29
    go_wp2_with (refine wpList_store_row rfl 26 _ _ rfl (w.heap.size + 1) (darr []) rfl rfl 26 (darr []) hB.heap hz26 rfl (darr_one _) ?_)
    refine bodyPost_ret (results_cell_tmp rfl _ _ _ _ _ _ _ _ rfl rfl (hB.setRow _).heap Tryd.underlying26 rfl hz26) rfl ⟨?_, belowRow hbelW (by omega) _⟩
    rw [HR.out, dg_darr zeros32 rfl, ← darr_zero]
    rfl
  have g3 : decide (1099511627776 < n) = false := by simp; omega
  by_cases h1 : at_ < 0
  · have g1 : decide (at_ < 0) = true := by simp; omega
    clear hbad hnl
    go_enter Tryd.func29, Tryd.ntmps29
    go_wp2_with (refine wpList_store_row rfl 26 _ _ rfl (w.heap.size + 1) (darr []) rfl rfl 26 (darr []) hB.heap hz26 rfl (darr_one _) ?_)
    refine bodyPost_ret (results_cell_tmp rfl _ _ _ _ _ _ _ _ rfl rfl (hB.setRow _).heap Tryd.underlying26 rfl hz26) rfl ⟨?_, belowRow hbelW (by omega) _⟩
    rw [HR.out, dg_darr zeros32 rfl, ← darr_zero]
    rfl
  have g1 : decide (at_ < 0) = false := by simp; omega
  by_cases h2 : n ≤ at_
  · have g2 : decide (n ≤ at_) = true := by simp; omega
    clear hbad hnl
    go_enter Tryd.func29, Tryd.ntmps29
    go_wp2_with (refine wpList_store_row rfl 26 _ _ rfl (w.heap.size + 1) (darr []) rfl rfl 26 (darr []) hB.heap hz26 rfl (darr_one _) ?_)
    refine bodyPost_ret (results_cell_tmp rfl _ _ _ _ _ _ _ _ rfl rfl (hB.setRow _).heap Tryd.underlying26 rfl hz26) rfl ⟨?_, belowRow hbelW (by omega) _⟩
    rw [HR.out, dg_darr zeros32 rfl, ← darr_zero]
    rfl
  have g2 : decide (n ≤ at_) = false := by simp; omega
  obtain ⟨a, rfl⟩ := Int.eq_ofNat_of_zero_le (show 0 ≤ at_ by omega)
  obtain ⟨m, rfl⟩ := Int.eq_ofNat_of_zero_le (show 0 ≤ n by omega)
  have hl := rlength_c m a m (Nat.le_refl _) (by omega) (by omega)
  have g4 : ((l : Int) != (lenF a m : Int)) = true := by
    simp only [bne_iff_ne, ne_eq]
    intro e
    exact hbad ⟨by omega, by omega, by omega, by simp; omega⟩
  have g5 : decide (m ≤ a) = false := by simp; omega
  generalize lenF a m = L at g4 hl
  clear hbad hnl
  go_enter Tryd.func29, Tryd.ntmps29
  go_wp2_with fail
  refine (hl _).mono ?_
  rintro e W ⟨rfl, hW⟩
  have hW' : (w.alloc (.cells (darr d) 26)).alloc (.cells (darr []) 26) = W := hW
  rw [hW'] at hB hbelW
  clear hW hW'
  go_wp2_with (refine wpList_store_row rfl 26 _ _ rfl (w.heap.size + 1) (darr []) rfl rfl 26 (darr []) hB.heap hz26 rfl (darr_one _) ?_)
  refine bodyPost_ret (results_cell_tmp rfl _ _ _ _ _ _ _ _ rfl rfl (hB.setRow _).heap Tryd.underlying26 rfl hz26) rfl ⟨?_, belowRow hbelW (by omega) _⟩
  rw [HR.out, dg_darr zeros32 rfl, ← darr_zero]
  rfl

set_option maxRecDepth 100000 in
set_option maxHeartbeats 1000000 in
theorem rclimbOk {sh : List UInt8 → List UInt8} (hs : Sh sh) (d : List UInt8) (hd : d.length = 32) (a m : Nat) (A : Option Addr) (l c : Nat) (ps : List (List UInt8)) (D : Gh) (w : World) (hk : Keeps D w) (hp : DS D (.slice A l c) ps)
    (ham : a < m) (hm : m ≤ 1099511627776) (hlen : ps.length = lenF a m) :
    Calls Tryd.prog 29 #[dg d, .int .i64 a, .int .i64 m, .slice A l c] w fun e w' => e = .returned (.tuple #[dg (climbF (tagB sh) d a m ps), .int .i64 0]) ∧ Below w.heap.size w w' := by
  obtain ⟨hnl, hnc, hcm⟩ := hp.len
  unfold maxLen at hcm
  have HD := Lib.hid hd
  have hB1 := Box.new2 hk rfl 26 (darr d)
  have hB1' := hB1.alloc (.cells (darr []) 26)
  have hG1 := (Grow.refl hk).alloc (.cells (darr d) 26)
  have hB2 := Box.new2 hG1.keeps (g := w.heap.size + 1) (by simp) 26 (darr [])
  have hG3 := hG1.alloc (.cells (darr []) 26)
  have hl := rlength_c m a m (Nat.le_refl _) ham hm
  have g1 : decide ((a : Int) < 0) = false := by simp
  have g2 : decide ((m : Int) ≤ (a : Int)) = false := by simp; omega
  have g3 : decide (1099511627776 < (m : Int)) = false := by simp; omega
  have g4 : ((l : Int) != (lenF a m : Int)) = false := by simp; omega
  have g5 : decide (m ≤ a) = false := by simp; omega
  have HCL := Lib.hid (fun W hk => rclimb_c hs d hd m a m A l c ps D W hk hp ham (Nat.le_refl _) hm hlen)
  have hr32 := Lib.hid (climbF_len hs d a m ps)
  generalize climbF (tagB sh) d a m ps = r at *
  rw [dg_darr d hd, dg_darr r hr32.out] at HCL
  rw [dg_darr d hd, dg_darr r hr32.out]
  have hsr26 := sz26 r hr32.out
  have hsd26 := sz26 d hd
  have hsr : (darr []).size = (darr r).size := by rw [darr_size _ (by simp), darr_size _ (by rw [hr32.out]; omega)]
  generalize lenF a m = L at *
  clear hB1 hG1 hlen hnl hd
  go_enter Tryd.func29, Tryd.ntmps29
  go_wp2_with fail
  refine (hl _).mono ?_
  rintro e W ⟨rfl, hW⟩
  have hW' : (w.alloc (.cells (darr d) 26)).alloc (.cells (darr []) 26) = W := hW
  rw [hW'] at hB1' hB2 hG3
  clear hW hW'
  go_wp2_with (refine wpList_load_row rfl 26 _ rfl w.heap.size rfl 26 _ (0, 0) _ hB1'.heap Tryd.underlying26 rfl hsd26 ?_)
  refine (HCL.out _ hG3.keeps).mono ?_
  rintro e w3 ⟨rfl, hb3⟩
  have hB6 := hB2.below hb3 hB2.lt
  have hbel6 := belowVia hb3 hG3.below
  go_wp2_with (refine wpList_store_row rfl 26 _ _ rfl (w.heap.size + 1) (darr r) rfl rfl 26 (darr []) hB6.heap hsr26 hsr (darr_one _) ?_)
  refine bodyPost_ret (results_cell_tmp rfl _ _ _ _ _ _ _ _ rfl rfl (hB6.setRow _).heap Tryd.underlying26 rfl hsr26) rfl ⟨?_, belowRow hbel6 (by omega) _⟩
  rfl
theorem rclimbR_c {sh : List UInt8 → List UInt8} (hs : Sh sh) (d : List UInt8) (hd : d.length = 32) (at_ n : Int) (A : Option Addr) (l c : Nat) (ps : List (List UInt8)) (D : Gh) (w : World) (hk : Keeps D w) (hp : DS D (.slice A l c) ps) :
    Calls Tryd.prog 29 #[dg d, .int .i64 at_, .int .i64 n, .slice A l c] w fun e w' => e = .returned (.tuple #[dg (climbR sh d at_ n ps).1, .int .i64 (climbR sh d at_ n ps).2]) ∧ Below w.heap.size w w' := by
  by_cases h : 0 ≤ at_ ∧ at_ < n ∧ n ≤ 1099511627776 ∧ ps.length = lenF at_.toNat n.toNat
  · have HR : climbR sh d at_ n ps = (climbF (tagB sh) d at_.toNat n.toNat ps, 0) := by unfold climbR; rw [if_pos h]
    rw [HR]
    obtain ⟨h1, h2, h3, h4⟩ := h
    obtain ⟨a, rfl⟩ := Int.eq_ofNat_of_zero_le h1
    obtain ⟨m, rfl⟩ := Int.eq_ofNat_of_zero_le (show 0 ≤ n by omega)
    exact rclimbOk hs d hd a m A l c ps D w hk hp (by omega) (by omega) h4
  · exact rclimbErr d hd at_ n A l c ps D w hk hp h
set_option maxRecDepth 100000 in
set_option maxHeartbeats 1000000 in
theorem rsame27_c (A B : Option Addr) (n m c e0 : Nat) (xs : List (List UInt8)) (D : Gh) (w : World) (hk : Keeps D w) (ha : DS D (.slice A n c) xs) (hb : DS D (.slice B m e0) xs) :
    Calls Tryd.prog 27 #[.slice A n c, .slice B m e0] w fun e w' => e = .returned (.bool true) ∧ Below w.heap.size w w' := by
  obtain ⟨hnl, hnc, hcm⟩ := ha.len
  obtain ⟨hml, hmc, hem⟩ := hb.len
  unfold maxLen at hcm hem
  obtain rfl : m = n := by omega
  have HNL := Lib.hid hnl
  clear hnl hml
  have hu26 := Tryd.underlying26
  go_enter Tryd.func27, Tryd.ntmps27
  go_wp2_with fail
  go_loopw [5] (fun x wr => ∃ i : Nat, i ≤ m ∧ x = .int .i64 i ∧ Below w.heap.size w wr ∧ Keeps D wr) (fun x _ => m - (intOf x).toNat)
  case atStart => exact ⟨0, by omega, rfl, Below.refl _ _, hk⟩
  case round =>
    obtain ⟨i, him, rfl, hbel, hkr⟩ := hrel
    by_cases hlt : i < m
    · have g1 : (i : Int) < (m : Int) := by omega
      have g0 : (0 : Int) ≤ (i : Int) := by omega
      obtain ⟨b1, o1, rfl, h32, hr1⟩ := ds_range ha hkr.drew (k := i) (by rw [← HNL.out]; exact hlt)
      obtain ⟨b2, o2, rfl, _, hr2⟩ := ds_range hb hkr.drew (k := i) (by rw [← HNL.out]; exact hlt)
      rw [Nat.mul_comm] at hr1 hr2
      generalize xs[i]'(by rw [← HNL.out]; exact hlt) = x at *
      have hsx := sz26l x h32
      have heq : ∀ W, (Op.equalIn 10000 26 (.agg (x.map bv).toArray) (.agg (x.map bv).toArray)).run Tryd.prog W = .ok true W := fun W => by
        have := eq26 x x h32 h32 W
        rw [darr_full x h32] at this
        rw [this]; simp
      clear h32
      go_wp2_with fail
      refine wp_region_held_drew (S := fun W => W.rangeAt b1 (o1 + i * 32) (x.map bv) ∧ W.rangeAt b2 (o2 + i * 32) (x.map bv)) (by kernel_rfl) ⟨hr1, hr2⟩ (fun hHeld => ?_)
      refine wpAnyH_take (i := 0) (v := ?_) rfl (by kernel_rfl) (by kernel_rfl) (by kernel_rfl) (fun _ _ _ h => h) (Or.inl ⟨by rfl, ?_⟩) hHeld ?_
      rotate_left
      · (intro wz hSw; (try dsimp only at hSw); go_simp; try with_reducible rfl)
      simp only [Act.put, List.getElem_toArray, List.getElem_cons_zero, List.setIfInBounds_toArray, List.set_cons_zero, List.set_cons_succ]
      refine wpAnyH_take (i := 1) (v := ?_) rfl (by kernel_rfl) (by kernel_rfl) (by kernel_rfl) (fun _ _ _ h => h) (Or.inl ⟨by rfl, ?_⟩) hHeld ?_
      rotate_left
      · (intro wz hSw; (try dsimp only at hSw); go_simp; try with_reducible rfl)
      simp only [Act.put, List.getElem_toArray, List.getElem_cons_zero, List.getElem_cons_succ, List.setIfInBounds_toArray, List.set_cons_zero, List.set_cons_succ]
      refine wpAnyH_take (i := 2) (v := ?_) rfl (by kernel_rfl) (by kernel_rfl) (by kernel_rfl) (fun _ _ _ h => h) (Or.inl ⟨by rfl, ?_⟩) hHeld ?_
      rotate_left
      · (intro wz hSw; (try dsimp only at hSw); go_simp; try with_reducible rfl)
      simp only [Act.put, List.getElem_toArray, List.getElem_cons_zero, List.getElem_cons_succ, List.setIfInBounds_toArray, List.set_cons_zero, List.set_cons_succ]
      refine wpAnyH_take (i := 3) (v := (.agg (x.map bv).toArray)) rfl (by kernel_rfl) (by kernel_rfl) (by kernel_rfl) (fun _ _ _ h => h) (yieldsIf_load_mid (by rfl) _ _ rfl _ _ rfl _ _ (fun w h => h.1) hu26 rfl hsx) hHeld ?_
      simp only [Act.put, List.getElem_toArray, List.getElem_cons_zero, List.getElem_cons_succ, List.setIfInBounds_toArray, List.set_cons_zero, List.set_cons_succ]
      refine wpAnyH_take (i := 4) (v := ?_) rfl (by kernel_rfl) (by kernel_rfl) (by kernel_rfl) (fun _ _ _ h => h) (Or.inl ⟨by rfl, ?_⟩) hHeld ?_
      rotate_left
      · (intro wz hSw; (try dsimp only at hSw); go_simp; try with_reducible rfl)
      simp only [Act.put, List.getElem_toArray, List.getElem_cons_zero, List.getElem_cons_succ, List.setIfInBounds_toArray, List.set_cons_zero, List.set_cons_succ]
      refine wpAnyH_take (i := 5) (v := ?_) rfl (by kernel_rfl) (by kernel_rfl) (by kernel_rfl) (fun _ _ _ h => h) (Or.inl ⟨by rfl, ?_⟩) hHeld ?_
      rotate_left
      · (intro wz hSw; (try dsimp only at hSw); go_simp; try with_reducible rfl)
      simp only [Act.put, List.getElem_toArray, List.getElem_cons_zero, List.getElem_cons_succ, List.setIfInBounds_toArray, List.set_cons_zero, List.set_cons_succ]
      refine wpAnyH_take (i := 6) (v := ?_) rfl (by kernel_rfl) (by kernel_rfl) (by kernel_rfl) (fun _ _ _ h => h) (Or.inl ⟨by rfl, ?_⟩) hHeld ?_
      rotate_left
      · (intro wz hSw; (try dsimp only at hSw); go_simp; try with_reducible rfl)
      simp only [Act.put, List.getElem_toArray, List.getElem_cons_zero, List.getElem_cons_succ, List.setIfInBounds_toArray, List.set_cons_zero, List.set_cons_succ]
      refine wpAnyH_take (i := 7) (v := (.agg (x.map bv).toArray)) rfl (by kernel_rfl) (by kernel_rfl) (by kernel_rfl) (fun _ _ _ h => h) (yieldsIf_load_mid (by rfl) _ _ rfl _ _ rfl _ _ (fun w h => h.2) hu26 rfl hsx) hHeld ?_
      simp only [Act.put, List.getElem_toArray, List.getElem_cons_zero, List.getElem_cons_succ, List.setIfInBounds_toArray, List.set_cons_zero, List.set_cons_succ]
      refine wpAnyH_ready (rs := [8]) (by kernel_rfl) (by simp) (AllReadyH.cons rfl (fun K' hK => ?_) AllReadyH.nil)
      go_simp
      refine hK.out _ _ hHeld (fun hHeld => ?_)
      clear hK K'
      refine wpAnyH_done (by kernel_rfl) ?_ _
      go_wp2_with fail
      exact ⟨⟨i + 1, by omega, by first | rfl | (congr 1; omega), hbel.drew, hkr.drew⟩, by simp only [intOf]; omega⟩
    · obtain rfl : i = m := by omega
      have g1 : ¬ ((i : Int) < (i : Int)) := by omega
      go_wp2
      go_ret
      exact ⟨rfl, hbel⟩
end Go.Proofs.YtohknemfcohhfaaDoor
