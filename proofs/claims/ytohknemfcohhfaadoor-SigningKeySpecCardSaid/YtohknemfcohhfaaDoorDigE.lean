/-
  What is proved here: arrays of 32 bytes in variables; small laws for the hash.
-/
import Derived.Test.YtohknemfcohhfaaDoorRows
import Derived.Test.YtohknemfcohhfaaDoorBaseC
import Derived.Test.YtohknemfcohhfaaDoorSha
import Derived.Test.YtohknemfcohhfaaDoorDigA
import Derived.Test.YtohknemfcohhfaaDoorDigC
import Derived.Test.YtohknemfcohhfaaDoorDigD
import Derived.StillTailTactics
import Derived.Lib.AppendZerosOnto
import Derived.Deep.RegionHeld3
import Derived.Deep.RegionLaw
import Derived.Deep.DeepCutAuto
import Derived.Deep.QuietTactic
import Derived.BigQuiet
import Derived.Laws.EntriesVeiled
namespace Go.Proofs.YtohknemfcohhfaaDoor
open Go.RowKit Go.VS
/-- the first bytes of a digest, and zeros behind them. -/
def darr (l : List UInt8) : Array Value := (l.map bv ++ List.replicate (32 - l.length) (Value.int .u8 0)).toArray
theorem darr_end (l : List UInt8) (h : l.length < 32) : (darr l)[l.length]? = some (.int .u8 0) := by
  simp only [darr, List.getElem?_toArray]
  rw [List.getElem?_append_right (by simp), List.getElem?_replicate, if_pos (by simp; omega)]
theorem darr_set (l : List UInt8) (x : UInt8) (h : l.length < 32) : (darr l).setIfInBounds l.length (bv x) = darr (l ++ [x]) := by
  unfold darr
  rw [List.setIfInBounds_toArray]
  congr 1
  rw [List.set_append_right _ _ (by simp), List.length_map, Nat.sub_self]
  have : 32 - l.length = (32 - (l ++ [x]).length) + 1 := by simp; omega
  rw [this, List.replicate_succ, List.set_cons_zero]
  simp
theorem darr_size (l : List UInt8) (h : l.length ≤ 32) : (darr l).size = 32 := by simp [darr]; omega
theorem darr_full (l : List UInt8) (h : l.length = 32) : darr l = (l.map bv).toArray := by simp [darr, h]
theorem darr_one (l : List UInt8) : (darr l).all (·.oneCell') = true := by
  rw [Array.all_eq_true_iff_forall_mem]
  intro v hv
  simp only [darr, List.mem_toArray, List.mem_append, List.mem_map, List.mem_replicate] at hv
  rcases hv with ⟨b, _, rfl⟩ | ⟨_, rfl⟩ <;> rfl
theorem outF_len (s : St) : (outF s).length = 32 := rfl
theorem _root_.Go.VS.Box.setRow {w : World} {D : Gh} {g : Nat} {t : TypeId} {cs : Array Value} (h : Box w D g t cs) (cs' : Array Value) : Box (w.setRow g cs') D g t cs' := ⟨setRow_heap w g cs cs' t _ h.heap, h.off⟩
theorem _root_.Go.VS.Box.farRow {w : World} {D : Gh} {g p : Nat} {t : TypeId} {cs : Array Value} (h : Box w D g t cs) (hp : g ≠ p) (cs' : Array Value) : Box (w.setRow p cs') D g t cs := ⟨(setRow_other w p g cs' hp).trans h.heap, h.off⟩
theorem belowRow {B g : Nat} {w M : World} (h : Below B w M) (hg : B ≤ g) (cs : Array Value) : Below B w (M.setRow g cs) :=
  ⟨h.os, h.tape, h.output, by simpa [World.setRow] using h.size, fun i hi => (setRow_other M g i cs (by omega)).trans (h.block i hi)⟩
theorem keepsRow {D : Gh} {w : World} (h : Keeps D w) {g : Nat} (hg : D.off g) (cs : Array Value) : Keeps D (w.setRow g cs) := fun b o v e => by
  have hb : b ≠ g := by rintro rfl; rw [hg o] at e; cases e
  exact (World.cell?_of_block (a := ⟨b, o, none⟩) (setRow_other w g b cs hb)).trans (h b o v e)
theorem growRow {w w' : World} {D D' : Gh} (h : Grow w D w' D') {g : Nat} (hg : w.heap.size ≤ g) (ho : D'.off g) (cs : Array Value) : Grow w D (w'.setRow g cs) D' := ⟨belowRow h.below hg cs, keepsRow h.keeps ho cs, h.le, h.old⟩
theorem Tab.le {D D' : Gh} (h : Tab D) (hd : D.le D') : Tab D' := fun i hi => hd _ _ _ (h i hi)
theorem bs_drop {D : Gh} {b o n c k : Nat} {bs : List UInt8} (h : BS D (.slice (some ⟨b, o, none⟩) n c) bs) (hk : k ≤ n) : BS D (.slice (if c = k then some ⟨b, o, none⟩ else some ⟨b, o + k, none⟩) (n - k) (c - k)) (bs.drop k) := by
  obtain ⟨hn, hnc, hcm⟩ := h.len
  unfold BS
  rw [List.map_drop]
  by_cases hc : c = k
  · rw [if_pos hc]
    have e1 : n - k = 0 := by omega
    have e2 : (bs.map bv).drop k = [] := List.drop_eq_nil_of_le (by simp; omega)
    rw [e1, e2]
    exact Sl.none_ _ (by omega) (by simp)
  · rw [if_neg hc]
    exact Sl.drop h hk
theorem bs_take {D : Gh} {a : Option Addr} {n c k : Nat} {bs : List UInt8} (h : BS D (.slice a n c) bs) (hk : k ≤ n) : BS D (.slice a k c) (bs.take k) := by
  unfold BS
  rw [List.map_take]
  exact Sl.take h hk
theorem pad_len (b : List UInt8) : (padF b).length % 64 = 0 ∧ 64 ≤ (padF b).length ∧ (padF b).length ≤ b.length + 72 := by
  simp only [padF, be8, List.length_append, List.length_cons, List.length_nil, List.length_replicate]
  omega
theorem out_at (s : St) (i k : Nat) (hi : i < 8) (hk : k < 4) : bv ((outF s).getD (4 * i + k) 0) = .int .u8 ((stL s).getD i 0 / 2 ^ (24 - 8 * k) % 256) := by
  have key : ∀ (x : Int) (j : Nat), bv (by1 x j) = .int .u8 (x / 2 ^ j % 256) := by
    intro x j
    unfold bv by1
    congr 1
    rw [UInt8.toNat_ofNat']
    omega
  obtain rfl | rfl | rfl | rfl | rfl | rfl | rfl | rfl : i = 0 ∨ i = 1 ∨ i = 2 ∨ i = 3 ∨ i = 4 ∨ i = 5 ∨ i = 6 ∨ i = 7 := by omega
  all_goals
    obtain rfl | rfl | rfl | rfl : k = 0 ∨ k = 1 ∨ k = 2 ∨ k = 3 := by omega
  all_goals exact key _ _
theorem index8 (s : St) (i : Nat) (hi : i < 8) (W : World) : (Instr.index 69 (.agg (stV s)) (.int .i64 (i : Int))).run Tryd.prog W = .ok (.int .u32 ((stL s).getD i 0)) W := by
  obtain rfl | rfl | rfl | rfl | rfl | rfl | rfl | rfl : i = 0 ∨ i = 1 ∨ i = 2 ∨ i = 3 ∨ i = 4 ∨ i = 5 ∨ i = 6 ∨ i = 7 := by omega
  all_goals kernel_rfl
theorem outF_take (s : St) (j : Nat) (h : j < 32) : (outF s).take (j + 1) = (outF s).take j ++ [(outF s).getD j 0] := by
  rw [List.take_add_one, List.getElem?_eq_getElem (by rw [outF_len]; exact h)]
  simp [List.getD, List.getElem?_eq_getElem (show j < (outF s).length by rw [outF_len]; exact h)]
end Go.Proofs.YtohknemfcohhfaaDoor
