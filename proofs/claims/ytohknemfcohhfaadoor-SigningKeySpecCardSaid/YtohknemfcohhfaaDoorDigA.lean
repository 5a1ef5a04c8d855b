/-
  What is proved here: rotations of a word; the schedule's variable; small laws on slices of bytes.
-/
import Derived.Test.YtohknemfcohhfaaDoorRows
import Derived.Test.YtohknemfcohhfaaDoorBaseC
import Derived.Test.YtohknemfcohhfaaDoorSha
import Derived.Deep.RegionHeld3
import Derived.Deep.RegionLaw
import Derived.Deep.DeepCutAuto
import Derived.Deep.QuietTactic
import Derived.BigQuiet
import Derived.Laws.EntriesVeiled
namespace Go.Proofs.YtohknemfcohhfaaDoor
open Go.RowKit Go.VS
def rotL : List Nat := [2, 6, 7, 11, 13, 17, 18, 19, 22, 25]
theorem negAnd : (bits .and .u64 (IntKind.u64.wrap (-2)) 31 = 30 ∧ bits .and .u64 (IntKind.u64.wrap (-6)) 31 = 26 ∧ bits .and .u64 (IntKind.u64.wrap (-7)) 31 = 25 ∧ bits .and .u64 (IntKind.u64.wrap (-11)) 31 = 21 ∧ bits .and .u64 (IntKind.u64.wrap (-13)) 31 = 19) ∧ (bits .and .u64 (IntKind.u64.wrap (-17)) 31 = 15 ∧ bits .and .u64 (IntKind.u64.wrap (-18)) 31 = 14 ∧ bits .and .u64 (IntKind.u64.wrap (-19)) 31 = 13 ∧ bits .and .u64 (IntKind.u64.wrap (-22)) 31 = 10 ∧ bits .and .u64 (IntKind.u64.wrap (-25)) 31 = 7) := by decide +kernel
set_option maxHeartbeats 1000000 in
theorem rot_c (x : Int) (n : Nat) (hn : n ∈ rotL) (w : World) : Calls Tryd.prog 78 #[.int .u32 x, .int .i64 n] w fun e w' => e = .returned (.int .u32 (rotI x n)) ∧ w = w' := by
  simp only [rotL, List.mem_cons, List.not_mem_nil, or_false] at hn
  have hN := negAnd
  rcases hn with rfl | rfl | rfl | rfl | rfl | rfl | rfl | rfl | rfl | rfl
  all_goals
    go_enter Tryd.func78, Tryd.ntmps78
    go_wp2
    go_ret
    exact ⟨by simp [rotI, orr], rfl⟩
theorem bor_comm (x y : Int) : bits .or .u32 x y = bits .or .u32 y x := by simp only [bits, BitVec.or_comm]
theorem bxor_comm (x y : Int) : bits .xor .u32 x y = bits .xor .u32 y x := by simp only [bits, BitVec.xor_comm]
set_option maxHeartbeats 1000000 in
theorem rrot_c (x : Int) (n : Nat) (hn : n ∈ rotL) (w : World) : Calls Tryd.prog 79 #[.int .u32 x, .int .i64 n] w fun e w' => e = .returned (.int .u32 (rotI x n)) ∧ ∃ m, w' = w.drewN m := by
  simp only [rotL, List.mem_cons, List.not_mem_nil, or_false] at hn
  rcases hn with rfl | rfl | rfl | rfl | rfl | rfl | rfl | rfl | rfl | rfl
  all_goals
    go_enter Tryd.func79, Tryd.ntmps79
    go_wp2
    go_quiet (fail)
    go_wp2
    go_ret
    exact ⟨by rw [bor_comm]; simp [rotI, orr], _, rfl⟩

def stV (s : St) : Array Value := #[.int .u32 s.a, .int .u32 s.b, .int .u32 s.c, .int .u32 s.d, .int .u32 s.e, .int .u32 s.f, .int .u32 s.g, .int .u32 s.h]
def zero8 : Array Value := stV ⟨0, 0, 0, 0, 0, 0, 0, 0⟩
/-- the first words of the schedule, and zeros behind them. -/
def warr (l : List Int) : Array Value := (l.map (Value.int .u32) ++ List.replicate (64 - l.length) (Value.int .u32 0)).toArray
theorem warr_size (l : List Int) (h : l.length ≤ 64) : (warr l).size = 64 := by simp [warr]; omega
theorem warr_at (l : List Int) (i : Nat) (h : i < l.length) : (warr l)[i]? = some (.int .u32 (l.getD i 0)) := by
  simp only [warr, List.getElem?_toArray]
  rw [List.getElem?_append_left (by simpa using h)]
  simp [h]
theorem warr_end (l : List Int) (h : l.length < 64) : (warr l)[l.length]? = some (.int .u32 0) := by
  simp only [warr, List.getElem?_toArray]
  rw [List.getElem?_append_right (by simp), List.getElem?_replicate, if_pos (by simp; omega)]
theorem warr_set (l : List Int) (x : Int) (h : l.length < 64) : (warr l).setIfInBounds l.length (.int .u32 x) = warr (l ++ [x]) := by
  unfold warr
  rw [List.setIfInBounds_toArray]
  congr 1
  rw [List.set_append_right _ _ (by simp), List.length_map, Nat.sub_self]
  have : 64 - l.length = (64 - (l ++ [x]).length) + 1 := by simp; omega
  rw [this, List.replicate_succ, List.set_cons_zero]
  simp
theorem _root_.Go.VS.Box.drewN {w : World} {D : Gh} {g : Nat} {t : TypeId} {cs : Array Value} (h : Box w D g t cs) (n : Nat) : Box (w.drewN n) D g t cs := ⟨h.heap, h.off⟩
/-- the table of the round constants is known. -/
def Tab (D : Gh) : Prop := ∀ i, i < 64 → D 0 i = some (.int .u32 (kT.getD i 0))
theorem _root_.Go.VS.Box.new2 {w : World} {D : Gh} (hk : Keeps D w) {g : Nat} (hg : g = w.heap.size) (t : TypeId) (cs : Array Value) : Box (w.alloc (.cells cs t)) D g t cs := hg ▸ Box.new hk t cs
theorem first_len (b : List UInt8) (k : Nat) : ((List.range k).map (at4 b)).length = k := by simp
theorem _root_.Go.VS.BS.all_ {D : Gh} {w : World} {a : Option Addr} {n c : Nat} {bs : List UInt8} (h : BS D (.slice a n c) bs) (hk : Keeps D w) (h0 : 0 < bs.length) :
    ∃ b o, a = some ⟨b, o, none⟩ ∧ ∀ k, k < bs.length → w.cell? ⟨b, o + k, none⟩ = some (.int .u8 ((bs.getD k 0).toNat : Int)) := by
  obtain ⟨hn, _, _, hc⟩ := Sl.cells hk h
  simp only [List.length_map] at hn
  obtain ⟨b, o, ha, hcc⟩ := hc (by omega)
  exact ⟨b, o, ha, fun k hk => hcc k _ (by simp [List.getElem?_eq_getElem hk, bv, List.getD])⟩
theorem run_slice_mid {P : Program} {t e : TypeId} (ht : P.underlying t = some (.slice e)) (hi : (P.info? e).map (·.size) = some 1) (b o n c lo hi' : Nat) (h1 : lo ≤ hi') (h2 : hi' ≤ c) (h3 : lo < c) (w : World) :
    (Instr.slice t (.slice (some ⟨b, o, none⟩) n c) (some (.int .i64 lo)) (some (.int .i64 hi')) none).run P w = .ok (.slice (some ⟨b, o + lo, none⟩) (hi' - lo) (c - lo)) w := by
  obtain ⟨i, hi', hs⟩ : ∃ i, P.info? e = some i ∧ i.size = 1 := by
    cases h : P.info? e with
    | none => rw [h] at hi; cases hi
    | some i => rw [h] at hi; exact ⟨i, rfl, by simpa using hi⟩
  have h4 : ¬ c = lo := by omega
  simp [Instr.slice, run_underlying ht, Instr.sliceBounds, Instr.sliceBound, asIntOf, h1, h2, h4, sizeOf, typeInfo, hi', hs, Addr.add_lit]
end Go.Proofs.YtohknemfcohhfaaDoor
