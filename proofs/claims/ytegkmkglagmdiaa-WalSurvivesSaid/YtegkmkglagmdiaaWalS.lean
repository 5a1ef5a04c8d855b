/-
  What is proved here: writes one after another, in plain Lean
-/
import Derived.Test.YtegkmkglagmdiaaRows
import Derived.Test.YtegkmkglagmdiaaBaseB
import Derived.Test.YtegkmkglagmdiaaCrc
import Derived.Test.YtegkmkglagmdiaaWalP
import Derived.Test.YtegkmkglagmdiaaWalA
import Derived.Test.YtegkmkglagmdiaaWalB
import Derived.Test.YtegkmkglagmdiaaWalC
import Derived.Test.YtegkmkglagmdiaaWalD
import Derived.Test.YtegkmkglagmdiaaWalE
import Derived.Test.YtegkmkglagmdiaaDiskF
import Derived.Test.YtegkmkglagmdiaaDiskH
import Derived.Test.YtegkmkglagmdiaaWalF
import Derived.Test.YtegkmkglagmdiaaRangeF
import Derived.Test.YtegkmkglagmdiaaWalG
import Derived.Test.YtegkmkglagmdiaaWalH
import Derived.Test.YtegkmkglagmdiaaWalI
import Derived.Test.YtegkmkglagmdiaaWalJ
import Derived.Test.YtegkmkglagmdiaaWalK
import Derived.Test.YtegkmkglagmdiaaWalL
import Derived.OwnWalkIn
import Derived.TacticsInMore
import Derived.LoopNIn
import Derived.LoopIn
import Derived.Scope
import Derived.Shelf.Abstract
import Derived.RangeFuncCalls
import Derived.Laws.BitsAllLaws
import Derived.Deep.RegionHeld3
import Derived.Deep.RegionLaw
import Derived.Deep.DeepCutAuto
import Derived.Deep.QuietTactic
import Derived.BigQuiet
import Derived.Laws.EntriesVeiled
import Derived.Deep.MidRow
import Derived.Laws.CopyRow
namespace Go.Proofs.Ytegkmkglagmdiaa
open Go.RowKit Go.VS
/-- writes one after another, until one fails. -/
def syncW (d : Dsk) (a : Nat) : List (List UInt8) → Dsk × Int
  | [] => (d, 0)
  | y :: r => if (writeF d (a : Nat) y).2 = 0 then syncW (writeF d (a : Nat) y).1 (a + 1) r else writeF d (a : Nat) y
theorem syncW_app (ys : List (List UInt8)) : ∀ (xs : List (List UInt8)) (d d' : Dsk) (a : Nat), syncW d a xs = (d', 0) → syncW d a (xs ++ ys) = syncW d' (a + xs.length) ys
  | [], d, d', a, h => by
    simp only [syncW, Prod.mk.injEq] at h
    rw [← h.1]; rfl
  | y :: r, d, d', a, h => by
    rw [syncW] at h
    rw [List.cons_append, syncW]
    split at h
    · rename_i h0
      rw [if_pos h0, syncW_app ys r _ d' (a + 1) h, List.length_cons, Nat.add_assoc, Nat.add_comm 1]
    · rename_i h0
      exact absurd (congrArg Prod.snd h) h0
theorem syncW_next {d d' : Dsk} {a p : Nat} {all : List (List UInt8)} {y : List UInt8} (h : syncW d a (all.take p) = (d', 0)) (hy : all[p]? = some y) :
    ((writeF d' ((a + p : Nat) : Int) y).2 = 0 → syncW d a (all.take (p + 1)) = ((writeF d' ((a + p : Nat) : Int) y).1, 0)) ∧ ((writeF d' ((a + p : Nat) : Int) y).2 ≠ 0 → syncW d a all = writeF d' ((a + p : Nat) : Int) y) := by
  have hp : p < all.length := by
    rcases Nat.lt_or_ge p all.length with h | h
    · exact h
    · rw [List.getElem?_eq_none h] at hy; cases hy
  have hl : (all.take p).length = p := by rw [List.length_take]; omega
  constructor
  · intro h0
    rw [List.take_add_one, hy, syncW_app _ _ _ _ _ h, hl]
    simp only [Option.toList, syncW]
    rw [if_pos h0]
  · intro h0
    have e : all = all.take p ++ (y :: all.drop (p + 1)) := by
      have := List.drop_eq_getElem_cons hp
      rw [List.getElem?_eq_getElem hp] at hy
      injection hy with hy
      rw [hy] at this
      rw [← this, List.take_append_drop]
    rw [e, syncW_app _ _ _ _ _ h, hl]
    simp only [syncW]
    rw [if_neg h0]
theorem writeF_left {d : Dsk} {a : Int} {b : List UInt8} {M : Int} (h0 : 0 ≤ M) (h : d.left ≤ M) : (writeF d a b).1.left ≤ M := by
  unfold writeF
  split
  · simp [zeroD]; exact h0
  · split
    · exact h
    · split
      · exact h
      · simp only; split <;> omega
theorem recsS_at (N : Nat) (rs : List (List UInt8)) (k j i : Nat) (b : List UInt8) (hb : rs[j]? = some b) (hi : i < occ b.length) :
    (recsS N k rs)[occs (rs.take j) + i]? = some (encS N (k + occs (rs.take j) + i) (flagP (occ b.length) true i) (pieceS b i)) := by
  have hj : j < rs.length := by
    rcases Nat.lt_or_ge j rs.length with h | h
    · exact h
    · rw [List.getElem?_eq_none h] at hb; cases hb
  have e : rs = rs.take j ++ (b :: rs.drop (j + 1)) := by
    have := List.drop_eq_getElem_cons hj
    rw [List.getElem?_eq_getElem hj] at hb
    injection hb with hb
    rw [hb] at this
    rw [← this, List.take_append_drop]
  have e2 : recsS N k rs = recsS N k (rs.take j) ++ recsS N (k + occs (rs.take j)) (b :: rs.drop (j + 1)) := by
    rw [← recsS_append, ← e]
  rw [e2, List.getElem?_append_right (by rw [recsS_len]; omega), recsS_len, Nat.add_sub_cancel_left, recsS]
  have hl := recS_len N _ (k + occs (rs.take j)) true b rfl
  rw [List.getElem?_append_left (by omega), recS_range N _ _ true b rfl, List.getElem?_map, List.getElem?_range hi]
  rfl
theorem pieceS_len (b : List UInt8) (i : Nat) : (pieceS b i).length ≤ 112 := by unfold pieceS; rw [List.length_take]; omega
theorem flagP_le (m i : Nat) : flagP m true i ≤ 3 := by unfold flagP; split <;> split <;> omega
theorem low_ss {D : Gh} {A : Option Addr} {n c : Nat} {xs : List (List UInt8)} (h : SS D (.slice A n c) xs) (s : Nat) (hs : s ≤ n) : SS D (.slice (if c = s then A else A.map fun x => x.add s) (n - s) (c - s)) (xs.drop s) := by
  obtain ⟨vs, hsl, hl, he⟩ := h
  obtain ⟨a', c', hv, h1, h2, h3, h4⟩ := hsl
  cases hv
  refine ⟨vs.drop s, ⟨if c = s then A else A.map fun x => x.add s, c - s, by rw [List.length_drop], by rw [List.length_drop]; omega, by omega, fun ha => ?_, fun hp => ?_⟩, by rw [List.length_drop, List.length_drop, hl], fun j x u e1 e2 => ?_⟩
  · by_cases hc : c = s
    · omega
    · rw [if_neg hc] at ha
      have := h3 (by simpa using ha)
      omega
  · rw [List.length_drop] at hp
    obtain ⟨b, o, rfl, hc⟩ := h4 (by omega)
    rw [if_neg (by omega)]
    refine ⟨b, o + s, by simp [Addr.add_lit], fun j u e => ?_⟩
    rw [List.getElem?_drop] at e
    rw [Nat.add_assoc]
    exact hc _ u e
  · rw [List.getElem?_drop] at e1 e2
    exact he _ _ _ e1 e2
theorem take_ss {D : Gh} {A : Option Addr} {n c : Nat} {xs : List (List UInt8)} (h : SS D (.slice A n c) xs) (s : Nat) (hs : s ≤ n) : SS D (.slice A s c) (xs.take s) := by
  obtain ⟨vs, hsl, hl, he⟩ := h
  refine ⟨vs.take s, hsl.take hs, by rw [List.length_take, List.length_take, hl], fun j x u e1 e2 => ?_⟩
  rw [List.getElem?_take] at e1 e2
  split at e1
  · rw [if_pos (by assumption)] at e2
    exact he _ _ _ e1 e2
  · cases e1
end Go.Proofs.Ytegkmkglagmdiaa
