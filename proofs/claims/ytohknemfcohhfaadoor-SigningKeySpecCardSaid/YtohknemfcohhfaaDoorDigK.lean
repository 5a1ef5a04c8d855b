/-
  What is proved here: length of a path; whole digests in variables.
-/
import Derived.Test.YtohknemfcohhfaaDoorRows
import Derived.Test.YtohknemfcohhfaaDoorBaseC
import Derived.Test.YtohknemfcohhfaaDoorSha
import Derived.Test.YtohknemfcohhfaaDoorDigA
import Derived.Test.YtohknemfcohhfaaDoorDigC
import Derived.Test.YtohknemfcohhfaaDoorDigD
import Derived.Test.YtohknemfcohhfaaDoorDigE
import Derived.Test.YtohknemfcohhfaaDoorDigF
import Derived.Test.YtohknemfcohhfaaDoorDigG
import Derived.Test.YtohknemfcohhfaaDoorDigH
import Derived.Test.YtohknemfcohhfaaDoorDigI
import Derived.Test.YtohknemfcohhfaaDoorDigJ
import Derived.Test.YtohknemfcohhfaaDoorTree
import Derived.Test.YtohknemfcohhfaaDoorShelf
import Derived.Lib.ConvBytes
import Derived.StillTailTactics
import Derived.Lib.AppendZerosOnto
import Derived.Deep.RegionHeld3
import Derived.Deep.MidRow
import Derived.Deep.RegionLaw
import Derived.Deep.DeepCutAuto
import Derived.Deep.QuietTactic
import Derived.BigQuiet
import Derived.Laws.EntriesVeiled
namespace Go.Proofs.YtohknemfcohhfaaDoor
open Go.RowKit Go.VS
theorem bv_oneL (r : List UInt8) : ∀ v ∈ r.map bv, v.oneCell' = true := bv_one r
theorem box_there {w : World} {D : Gh} {g : Nat} {l : List UInt8} (hB : Box w D g 26 (darr l)) (hl : l.length ≤ 32) : w.there g 0 32 := fun j hj => by
  rw [Nat.zero_add, hB.cell]
  refine ⟨?_, hB.frozen j⟩
  rw [Array.getElem?_eq_getElem (by rw [darr_size l hl]; exact hj)]
  rfl
theorem setCells_row {w : World} {D : Gh} {g : Nat} {l r : List UInt8} (hB : Box w D g 26 (darr l)) (hl : l.length ≤ 32) (hr : r.length = 32) : w.setCells g 0 (r.map bv) = w.setRow g (darr r) := by
  have h1 := run_storeVar_row (P := Tryd.prog) w g 26 26 (darr l) (darr r) hB.heap (sz26 r hr) (by rw [darr_size _ hl, darr_size _ (by omega)]) (darr_one _)
  have h2 := run_storeVar_mid (P := Tryd.prog) w g 0 26 (darr r) (by rw [darr_size _ (by omega)]; exact box_there hB hl) (sz26 r hr) (darr_one _)
  rw [h1] at h2
  injection h2 with _ h2
  rw [h2]
  congr 1
  rw [darr_full r hr]
theorem box_range {w : World} {D : Gh} {g : Nat} {d : List UInt8} (hd : d.length = 32) (hD : ∀ o u, (darr d)[o]? = some u → D g o = some u) (hk : Keeps D w) : w.rangeAt g 0 (d.map bv) := fun j v hv => by
  refine hk g _ v (hD _ v ?_)
  rw [darr_full d hd, Nat.zero_add]
  simpa using hv
set_option maxHeartbeats 400000 in
theorem length_c (at_ n : Nat) (ha : at_ < n) (hn : n ≤ 1099511627776) (w : World) : Calls Tryd.prog 61 #[.int .i64 at_, .int .i64 n] w fun e w' => e = .returned (.int .i64 (lenF at_ n)) ∧ w = w' := by
  have hL := lenF_le 40 at_ n (by omega)
  generalize hl : lenF at_ n = L at hL ⊢
  have HL := Lib.hid hl
  clear hl
  go_enter Tryd.func61, Tryd.ntmps61
  go_wp2
  go_loop [0, 1, 4] (fun x y z => ∃ a m t : Nat, a < m ∧ m ≤ n ∧ x = .int .i64 a ∧ y = .int .i64 m ∧ z = .int .i64 t ∧ t + lenF a m = L) (fun _ y _ => (intOf y).toNat)
  case atStart => exact ⟨at_, n, 0, ha, Nat.le_refl _, rfl, rfl, rfl, by rw [HL.out]; omega⟩
  case round =>
    obtain ⟨a, m, t, ham, hmn, rfl, rfl, rfl, hrel⟩ := hrel
    by_cases h2 : 2 ≤ m
    · have hh1 := half_lt h2
      have hh2 := half_pos m
      have hsp := split_c m h2 (by omega)
      by_cases hlo : a < half m
      · have e := lenF_lo h2 hlo
        rw [e] at hrel
        clear e
        generalize half m = k at *
        go_wp2_with fail
        refine (hsp _).mono ?_
        rintro e w' ⟨rfl, rfl⟩
        go_wp2
        go_round
        case rel => exact ⟨a, k, t + 1, hlo, by omega, rfl, rfl, by go_num, by omega⟩
        case measure => simp [intOf]; omega
      · have e := lenF_hi h2 hlo
        rw [e] at hrel
        clear e
        generalize half m = k at *
        go_wp2_with fail
        refine (hsp _).mono ?_
        rintro e w' ⟨rfl, rfl⟩
        go_wp2
        go_round
        case rel => exact ⟨a - k, m - k, t + 1, by omega, by omega, by congr 1; omega, by congr 1; omega, by go_num, by omega⟩
        case measure => simp [intOf]; omega
    · have e := lenF_one a (n := m) (by omega)
      rw [e] at hrel
      have HR := Lib.hid hrel
      clear hrel e
      have hgt : ¬ ((1 : Int) < (m : Int)) := by omega
      go_wp2
      go_ret
      exact ⟨by rw [← HR.out]; rfl, rfl⟩
end Go.Proofs.YtohknemfcohhfaaDoor
