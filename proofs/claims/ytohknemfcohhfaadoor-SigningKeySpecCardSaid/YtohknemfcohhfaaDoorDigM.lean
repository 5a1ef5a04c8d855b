/-
  What is proved here: Climb.
-/
import Derived.Test.YtohknemfcohhfaaDoorRows
import Derived.Test.YtohknemfcohhfaaDoorBaseC
import Derived.Test.YtohknemfcohhfaaDoorSha
import Derived.Test.YtohknemfcohhfaaDoorDigA
import Derived.Test.YtohknemfcohhfaaDoorDigC
import Derived.Test.YtohknemfcohhfaaDoorDigD
import Derived.Test.YtohknemfcohhfaaDoorDigE
import Derived.Test.YtohknemfcohhfaaDoorDigF
import Derived.Test.YtohknemfcohhfaaDoorDigG
import Derived.Test.YtohknemfcohhfaaDoorDigH
import Derived.Test.YtohknemfcohhfaaDoorDigI
import Derived.Test.YtohknemfcohhfaaDoorDigJ
import Derived.Test.YtohknemfcohhfaaDoorDigK
import Derived.Test.YtohknemfcohhfaaDoorDigL
import Derived.Test.YtohknemfcohhfaaDoorTree
import Derived.Test.YtohknemfcohhfaaDoorShelf
import Derived.Lib.ConvBytes
import Derived.StillTailTactics
import Derived.Lib.AppendZerosOnto
import Derived.Deep.RegionHeld3
import Derived.Deep.MidRow
import Derived.Deep.RegionLaw
import Derived.Deep.DeepCutAuto
import Derived.Deep.QuietTactic
import Derived.BigQuiet
import Derived.Laws.EntriesVeiled
namespace Go.Proofs.YtohknemfcohhfaaDoor
open Go.RowKit Go.VS
theorem results_cell_tmp {P : Program} {fn : Func} {p q : Tmp} {ty : TypeId} (h : fn.results = #[.cell p ty, .tmp q]) (tmps : Array Value) (w : World) (g : Nat) (t : TypeId) (cs : Array Value) (fr : Nat × Nat) (d : TypeDesc) (v : Value)
    (hp : tmps.getD p undef = .pointer (some ⟨g, 0, none⟩)) (hq : tmps.getD q undef = v) (hg : w.heap[g]? = some (.cells cs t fr))
    (hu : P.underlying ty = some d) (hd : (match d with | .struct _ | .array _ _ => true | _ => false) = true) (hi : (P.info? ty).map (·.size) = some cs.size) :
    (results fn tmps).run P w = .ok (.tuple #[.agg cs, v]) w := by
  have hp' : tmps[p]?.getD undef = .pointer (some ⟨g, 0, none⟩) := by simpa using hp
  have hq' : tmps[q]?.getD undef = v := by simpa using hq
  simp [results, h, hp', hq', asAddr, run_loadVar_row w g t ty cs fr d hg hu hd hi]
def zeros32 : List UInt8 := List.replicate 32 0
theorem darr_zero : darr [] = darr zeros32 := by rfl
/-- what Climb returns. -/
def climbR (sh : List UInt8 → List UInt8) (d : Dg) (at_ n : Int) (ps : List Dg) : Dg × Int :=
  if 0 ≤ at_ ∧ at_ < n ∧ n ≤ 1099511627776 ∧ ps.length = lenF at_.toNat n.toNat then (climbF (tagB sh) d at_.toNat n.toNat ps, 0) else (zeros32, 1)
set_option maxRecDepth 100000 in
set_option maxHeartbeats 1000000 in
theorem climbErr {sh : List UInt8 → List UInt8} (d : List UInt8) (hd : d.length = 32) (at_ n : Int) (A : Option Addr) (l c : Nat) (ps : List (List UInt8)) (D : Gh) (w : World) (hk : Keeps D w) (hp : DS D (.slice A l c) ps)
    (hbad : ¬ (0 ≤ at_ ∧ at_ < n ∧ n ≤ 1099511627776 ∧ ps.length = lenF at_.toNat n.toNat)) :
    Calls Tryd.prog 28 #[dg d, .int .i64 at_, .int .i64 n, .slice A l c] w fun e w' => e = .returned (.tuple #[dg (climbR sh d at_ n ps).1, .int .i64 (climbR sh d at_ n ps).2]) ∧ Below w.heap.size w w' := by
  obtain ⟨hnl, hnc, hcm⟩ := hp.len
  unfold maxLen at hcm
  have HR := Lib.hid (show climbR sh d at_ n ps = (zeros32, 1) by unfold climbR; rw [if_neg hbad])
  rw [dg_darr d hd]
  have hB := Box.new2 (hk.alloc (.cells (darr d) 26)) (g := w.heap.size + 1) (by simp) 26 (darr [])
  have hbelW : Below w.heap.size w ((w.alloc (.cells (darr d) 26)).alloc (.cells (darr []) 26)) := (by repeat (first | (with_reducible exact Below.refl _ _) | (with_reducible refine Below.drew ?_) | (with_reducible refine belowDrewN ?_ _) | (with_reducible refine belowAlloc ?_ _) | ((with_reducible refine belowSet2 ?_ ?_); omega) | (with_reducible assumption) | (with_reducible refine belowVia (by assumption) ?_) | (with_reducible refine belowVia (Grow.below (by assumption)) ?_)))
  have hz26 := sz26 zeros32 rfl
  rw [← darr_zero] at hz26
  by_cases h1 : at_ < 0
  · have g1 : decide (at_ < 0) = true := by simp; omega
    clear hbad hnl
    go_enter Tryd.func28, Tryd.ntmps28
    go_wp2_with (refine wpList_store_row rfl 26 _ _ rfl (w.heap.size + 1) (darr []) rfl rfl 26 (darr []) hB.heap hz26 rfl (darr_one _) ?_)
    refine bodyPost_ret (results_cell_tmp rfl _ _ _ _ _ _ _ _ rfl rfl (hB.setRow _).heap Tryd.underlying26 rfl hz26) rfl ⟨?_, belowRow hbelW (by omega) _⟩
    rw [HR.out, dg_darr zeros32 rfl, ← darr_zero]
    rfl
  have g1 : decide (at_ < 0) = false := by simp; omega
  by_cases h2 : n ≤ at_
  · have g2 : decide (n ≤ at_) = true := by simp; omega
    clear hbad hnl
    go_enter Tryd.func28, Tryd.ntmps28
    go_wp2_with (refine wpList_store_row rfl 26 _ _ rfl (w.heap.size + 1) (darr []) rfl rfl 26 (darr []) hB.heap hz26 rfl (darr_one _) ?_)
    refine bodyPost_ret (results_cell_tmp rfl _ _ _ _ _ _ _ _ rfl rfl (hB.setRow _).heap Tryd.underlying26 rfl hz26) rfl ⟨?_, belowRow hbelW (by omega) _⟩
    rw [HR.out, dg_darr zeros32 rfl, ← darr_zero]
    rfl
  have g2 : decide (n ≤ at_) = false := by simp; omega
  by_cases h3 : 1099511627776 < n
  · have g3 : decide (1099511627776 < n) = true := by simp; omega
    clear hbad hnl
    go_enter Tryd.func28, Tryd.ntmps28
    go_wp2_with (refine wpList_store_row rfl 26 _ _ rfl (w.heap.size + 1) (darr []) rfl rfl 26 (darr []) hB.heap hz26 rfl (darr_one _) ?_)
    refine bodyPost_ret (results_cell_tmp rfl _ _ _ _ _ _ _ _ rfl rfl (hB.setRow _).heap Tryd.underlying26 rfl hz26) rfl ⟨?_, belowRow hbelW (by omega) _⟩
    rw [HR.out, dg_darr zeros32 rfl, ← darr_zero]
    rfl
  have g3 : decide (1099511627776 < n) = false := by simp; omega
  obtain ⟨a, rfl⟩ := Int.eq_ofNat_of_zero_le (show 0 ≤ at_ by omega)
  obtain ⟨m, rfl⟩ := Int.eq_ofNat_of_zero_le (show 0 ≤ n by omega)
  have hl := length_c a m (by omega) (by omega)
  have g4 : ((l : Int) != (lenF a m : Int)) = true := by
    simp only [bne_iff_ne, ne_eq]
    intro e
    exact hbad ⟨by omega, by omega, by omega, by simp; omega⟩
  generalize lenF a m = L at g4 hl
  clear hbad hnl
  go_enter Tryd.func28, Tryd.ntmps28
  go_wp2_with fail
  refine (hl _).mono ?_
  rintro e W ⟨rfl, hW⟩
  have hW' : (w.alloc (.cells (darr d) 26)).alloc (.cells (darr []) 26) = W := hW
  rw [hW'] at hB hbelW
  clear hW hW'
  go_wp2_with (refine wpList_store_row rfl 26 _ _ rfl (w.heap.size + 1) (darr []) rfl rfl 26 (darr []) hB.heap hz26 rfl (darr_one _) ?_)
  refine bodyPost_ret (results_cell_tmp rfl _ _ _ _ _ _ _ _ rfl rfl (hB.setRow _).heap Tryd.underlying26 rfl hz26) rfl ⟨?_, belowRow hbelW (by omega) _⟩
  rw [HR.out, dg_darr zeros32 rfl, ← darr_zero]
  rfl

set_option maxRecDepth 100000 in
set_option maxHeartbeats 1000000 in
theorem climbOk {sh : List UInt8 → List UInt8} (hs : Sh sh) (d : List UInt8) (hd : d.length = 32) (a m : Nat) (A : Option Addr) (l c : Nat) (ps : List (List UInt8)) (D : Gh) (w : World) (hk : Keeps D w) (hT : Tab D) (hp : DS D (.slice A l c) ps)
    (ham : a < m) (hm : m ≤ 1099511627776) (hlen : ps.length = lenF a m) :
    Calls Tryd.prog 28 #[dg d, .int .i64 a, .int .i64 m, .slice A l c] w fun e w' => e = .returned (.tuple #[dg (climbF (tagB sh) d a m ps), .int .i64 0]) ∧ Below w.heap.size w w' := by
  obtain ⟨hnl, hnc, hcm⟩ := hp.len
  unfold maxLen at hcm
  have HD := Lib.hid hd
  rw [dg_darr d hd]
  have hB1 := Box.new2 hk rfl 26 (darr d)
  have hG1 := (Grow.refl hk).alloc (.cells (darr d) 26)
  obtain ⟨D2, hG2, hle2, hcl2, hoff2⟩ := hG1.pubBox hB1 (Nat.le_refl _)
  have hB2 := Box.new2 hG2.keeps (g := w.heap.size + 1) (by simp) 26 (darr [])
  have hG3 := hG2.alloc (.cells (darr []) 26)
  have hBf := Box.new2 hG3.keeps (g := w.heap.size + 1 + 1) (by simp) 77 #[climbV w.heap.size (w.heap.size + 1 + 1)]
  have hG4 := hG3.alloc (.cells #[climbV w.heap.size (w.heap.size + 1 + 1)] 77)
  have hB2' := hB2.alloc (.cells #[climbV w.heap.size (w.heap.size + 1 + 1)] 77)
  obtain ⟨D5, hG5, hle5, hcl5, hoff5⟩ := hG4.pubBox hBf (by omega)
  have hB5 := hB2'.le (hoff5 _ hB2'.off (by omega))
  have hgc : D5 (w.heap.size + 1 + 1) 0 = some (climbV w.heap.size (w.heap.size + 1 + 1)) := hcl5 0 _ rfl
  have hgd : ∀ o u, (darr d)[o]? = some u → D5 w.heap.size o = some u := fun o u e => hle5 _ _ _ (hcl2 o u e)
  have hl := length_c a m ham hm
  have g1 : decide ((a : Int) < 0) = false := by simp
  have g2 : decide ((m : Int) ≤ (a : Int)) = false := by simp; omega
  have g3 : decide (1099511627776 < (m : Int)) = false := by simp; omega
  have g4 : ((l : Int) != (lenF a m : Int)) = false := by simp; omega
  have HCL := Lib.hid (climb_c hs d hd w.heap.size (w.heap.size + 1 + 1) m a m A l c ps D5 _ hG5.keeps (hT.le hG5.le) (hp.le hG5.le) ham (Nat.le_refl _) hm hlen hgd hgc)
  have hr32 := Lib.hid (climbF_len hs d a m ps)
  generalize climbF (tagB sh) d a m ps = r at *
  rw [dg_darr r hr32.out] at HCL ⊢
  have hsr26 := sz26 r hr32.out
  have hsr : (darr []).size = (darr r).size := by rw [darr_size _ (by simp), darr_size _ (by rw [hr32.out]; omega)]
  generalize lenF a m = L at *
  clear hB1 hG1 hle2 hcl2 hoff2 hB2 hG2 hG3 hBf hG4 hB2' hle5 hcl5 hoff5 hgc hgd hlen hnl hd
  go_enter Tryd.func28, Tryd.ntmps28
  go_wp2_with fail
  refine (hl _).mono ?_
  rintro e W ⟨rfl, rfl⟩
  go_wp2_with fail
  refine HCL.out.mono ?_
  rintro e w3 ⟨rfl, hb3⟩
  have hB6 := hB5.below hb3 hB5.lt
  have hbel6 := belowVia hb3 hG5.below
  go_wp2_with (refine wpList_store_row rfl 26 _ _ rfl (w.heap.size + 1) (darr r) rfl rfl 26 (darr []) hB6.heap hsr26 hsr (darr_one _) ?_)
  refine bodyPost_ret (results_cell_tmp rfl _ _ _ _ _ _ _ _ rfl rfl (hB6.setRow _).heap Tryd.underlying26 rfl hsr26) rfl ⟨?_, belowRow hbel6 (by omega) _⟩
  rfl
theorem climbR_c {sh : List UInt8 → List UInt8} (hs : Sh sh) (d : List UInt8) (hd : d.length = 32) (at_ n : Int) (A : Option Addr) (l c : Nat) (ps : List (List UInt8)) (D : Gh) (w : World) (hk : Keeps D w) (hT : Tab D) (hp : DS D (.slice A l c) ps) :
    Calls Tryd.prog 28 #[dg d, .int .i64 at_, .int .i64 n, .slice A l c] w fun e w' => e = .returned (.tuple #[dg (climbR sh d at_ n ps).1, .int .i64 (climbR sh d at_ n ps).2]) ∧ Below w.heap.size w w' := by
  by_cases h : 0 ≤ at_ ∧ at_ < n ∧ n ≤ 1099511627776 ∧ ps.length = lenF at_.toNat n.toNat
  · have HR : climbR sh d at_ n ps = (climbF (tagB sh) d at_.toNat n.toNat ps, 0) := by unfold climbR; rw [if_pos h]
    rw [HR]
    obtain ⟨h1, h2, h3, h4⟩ := h
    obtain ⟨a, rfl⟩ := Int.eq_ofNat_of_zero_le h1
    obtain ⟨m, rfl⟩ := Int.eq_ofNat_of_zero_le (show 0 ≤ n by omega)
    exact climbOk hs d hd a m A l c ps D w hk hT hp (by omega) (by omega) h4
  · exact climbErr d hd at_ n A l c ps D w hk hp h
end Go.Proofs.YtohknemfcohhfaaDoor
