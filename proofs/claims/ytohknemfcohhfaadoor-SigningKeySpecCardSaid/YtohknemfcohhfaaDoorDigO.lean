/-
  What is proved here: a list turned round; elements of a row of digests loaded and stored.
-/
import Derived.Test.YtohknemfcohhfaaDoorRows
import Derived.Test.YtohknemfcohhfaaDoorBaseC
import Derived.Test.YtohknemfcohhfaaDoorSha
import Derived.Test.YtohknemfcohhfaaDoorDigA
import Derived.Test.YtohknemfcohhfaaDoorDigC
import Derived.Test.YtohknemfcohhfaaDoorDigD
import Derived.Test.YtohknemfcohhfaaDoorDigE
import Derived.Test.YtohknemfcohhfaaDoorDigF
import Derived.Test.YtohknemfcohhfaaDoorDigG
import Derived.Test.YtohknemfcohhfaaDoorDigH
import Derived.Test.YtohknemfcohhfaaDoorDigI
import Derived.Test.YtohknemfcohhfaaDoorDigJ
import Derived.Test.YtohknemfcohhfaaDoorDigK
import Derived.Test.YtohknemfcohhfaaDoorDigL
import Derived.Test.YtohknemfcohhfaaDoorDigM
import Derived.Test.YtohknemfcohhfaaDoorDigN
import Derived.Test.YtohknemfcohhfaaDoorTree
import Derived.Test.YtohknemfcohhfaaDoorShelf
import Derived.Lib.ConvBytes
import Derived.StillTailTactics
import Derived.Lib.AppendZerosOnto
import Derived.Deep.RegionHeld3
import Derived.Great.BuildSlice
import Derived.Deep.MidRow
import Derived.Deep.RegionLaw
import Derived.Deep.DeepCutAuto
import Derived.Deep.QuietTactic
import Derived.BigQuiet
import Derived.Laws.EntriesVeiled
namespace Go.Proofs.YtohknemfcohhfaaDoor
open Go.RowKit Go.VS
theorem row_load {w : World} {base g n c : Nat} {qs : List (List UInt8)} (hown : w.ownsRow base 26 32 (.slice (some ⟨g, 0, none⟩) n c) n (flat qs)) (hall : ∀ p ∈ qs, p.length = 32) (i : Nat) (hi : i < qs.length) :
    (loadCellsFrom ⟨g, i * 32, none⟩ 0 32 #[]).run Tryd.prog w = .ok (qs[i].map bv).toArray w := by
  have h32 : qs[i].length = 32 := hall _ (List.getElem_mem hi)
  have := run_loadCells_list (P := Tryd.prog) w ⟨g, i * 32, none⟩ (qs[i].map bv) (fun j v hv => by
    have hj : j < 32 := by
      rcases Nat.lt_or_ge j 32 with h | h
      · exact h
      · rw [List.getElem?_eq_none (by simp; omega)] at hv; cases hv
    have hc := hown.cells (g := g) rfl (32 * i + j) v (by rw [flat_at qs hall i hi j hj]; exact hv)
    rw [Addr.add_lit] at hc ⊢
    rw [Nat.zero_add] at hc
    rw [show i * 32 + j = 32 * i + j by omega]
    exact hc)
  rw [List.length_map, h32] at this
  simpa [loadCells] using this
theorem flat_set (qs : List (List UInt8)) (hall : ∀ p ∈ qs, p.length = 32) (i : Nat) (hi : i < qs.length) (x : List UInt8) : flat (qs.set i x) = (flat qs).take (i * 32) ++ x.map bv ++ (flat qs).drop (i * 32 + 32) := by
  rw [flat_take qs hall, show i * 32 + 32 = (i + 1) * 32 by omega, flat_drop qs hall]
  rw [List.set_eq_take_append_cons_drop, if_pos hi, flat_append]
  simp [flat]
theorem row_store {w : World} {base g n c : Nat} {qs : List (List UInt8)} (hown : w.ownsRow base 26 32 (.slice (some ⟨g, 0, none⟩) n c) n (flat qs)) (hall : ∀ p ∈ qs, p.length = 32) (hl : qs.length = n) (i : Nat) (hi : i < qs.length) (x : List UInt8) (hx : x.length = 32) :
    ∃ w', (storeCells ⟨g, i * 32, none⟩ (x.map bv)).run Tryd.prog w = .ok () w' ∧ w'.ownsRow base 26 32 (.slice (some ⟨g, 0, none⟩) n c) n (flat (qs.set i x)) ∧ w.grownBy w' (some g) := by
  rcases hown.2 with ⟨hv, _⟩ | ⟨g', cap, cur, hv, hb, hg, hnc, hcm, hsz, htk⟩
  · cases hv
  · cases hv
    have hfl := flat_length qs hall
    have hcl : cur.toList.length = c * 32 := by simp; omega
    have hst := run_storeCells_at (P := Tryd.prog) g (i * 32) 26 (x.map bv) 0 cur w hg (by simp; omega) (bv_one x)
    have hall' : ∀ p ∈ qs.set i x, p.length = 32 := fun p hp => by
      rcases List.mem_or_eq_of_mem_set hp with h | h
      · exact hall p h
      · rw [h]; exact hx
    simp only [Nat.add_zero, List.length_map, hx] at hst
    refine ⟨_, hst, ⟨by rw [flat_length _ hall']; simp [hl], .inr ⟨g, c, _, rfl, hb, setRow_heap w g cur _ 26 _ hg, hnc, hcm, ?_, ?_⟩⟩, ⟨rfl, rfl, rfl, by simp [World.setRow], fun k _ hk => setRow_other w g k _ (fun e => hk (by simp [e]))⟩⟩
    · simp only [List.size_toArray, List.length_append, List.length_take, List.length_drop, List.length_map, hx, hcl]
      omega
    · rw [flat_set qs hall i hi x, ← htk]
      rw [List.take_take, List.drop_take]
      rw [Nat.min_eq_left (by omega)]
      have e : n * 32 = (cur.toList.take (i * 32) ++ x.map bv).length + (n * 32 - (i * 32 + 32)) := by
        rw [List.length_append, List.length_take, List.length_map, hx, hcl]; omega
      show (cur.toList.take (i * 32) ++ x.map bv ++ cur.toList.drop (i * 32 + 32)).take (n * 32) = _
      conv => lhs; rw [e]
      rw [List.take_length_add_append]

/-- a list turned round as far as i at both ends. -/
def halfRev (ps : List (List UInt8)) (i : Nat) : List (List UInt8) := ps.reverse.take i ++ (ps.drop i).take (ps.length - 2 * i) ++ ps.reverse.drop (ps.length - i)
theorem halfRev_len (ps : List (List UInt8)) (i : Nat) (h : 2 * i ≤ ps.length) : (halfRev ps i).length = ps.length := by
  simp [halfRev]; omega
theorem halfRev_mem (ps : List (List UInt8)) (i : Nat) (hall : ∀ p ∈ ps, p.length = 32) : ∀ p ∈ halfRev ps i, p.length = 32 := by
  intro p hp
  simp only [halfRev, List.mem_append] at hp
  rcases hp with (hp | hp) | hp
  · exact hall p (List.mem_reverse.1 (List.mem_of_mem_take hp))
  · exact hall p (List.mem_of_mem_drop (List.mem_of_mem_take hp))
  · exact hall p (List.mem_reverse.1 (List.mem_of_mem_drop hp))
theorem halfRev_get (ps : List (List UInt8)) (i t : Nat) (h : 2 * i ≤ ps.length) (ht : t < ps.length) : (halfRev ps i)[t]? = if t < i ∨ ps.length - i ≤ t then ps[ps.length - 1 - t]? else ps[t]? := by
  unfold halfRev
  by_cases h1 : t < i
  · rw [if_pos (.inl h1), List.append_assoc, List.getElem?_append_left (by simp; omega), List.getElem?_take, if_pos h1, List.getElem?_reverse (by omega)]
  · by_cases h2 : ps.length - i ≤ t
    · rw [if_pos (.inr h2), List.getElem?_append_right (by simp; omega), List.getElem?_drop, List.getElem?_reverse (by simp; omega)]
      congr 1
      simp; omega
    · rw [if_neg (by omega), List.getElem?_append_left (by simp; omega), List.getElem?_append_right (by simp; omega), List.getElem?_take, if_pos (by simp; omega), List.getElem?_drop]
      congr 1
      simp; omega
theorem halfRev_swap (ps : List (List UInt8)) (i : Nat) (h : 2 * i + 1 < ps.length) (x y : List UInt8) (hx : ps[i]? = some x) (hy : ps[ps.length - 1 - i]? = some y) : ((halfRev ps i).set i y).set (ps.length - 1 - i) x = halfRev ps (i + 1) := by
  apply List.ext_getElem?
  intro t
  by_cases ht : t < ps.length
  · rw [halfRev_get ps (i + 1) t (by omega) ht, List.getElem?_set, List.length_set, halfRev_len ps i (by omega), List.getElem?_set, halfRev_len ps i (by omega), halfRev_get ps i t (by omega) ht]
    by_cases e1 : ps.length - 1 - i = t
    · rw [if_pos e1, if_pos (by omega), if_pos (by omega), ← hx]
      congr 1; omega
    · rw [if_neg e1]
      by_cases e2 : i = t
      · rw [if_pos e2, if_pos (by omega), if_pos (by omega), ← hy]
        congr 1; omega
      · rw [if_neg e2]
        by_cases e3 : t < i ∨ ps.length - i ≤ t
        · rw [if_pos e3, if_pos (by omega)]
        · rw [if_neg e3, if_neg (by omega)]
  · rw [List.getElem?_eq_none (by simp [halfRev_len ps i (by omega)]; omega), List.getElem?_eq_none (by rw [halfRev_len ps (i + 1) (by omega)]; omega)]
theorem halfRev_end (ps : List (List UInt8)) (i : Nat) (h : 2 * i ≤ ps.length) (h2 : ps.length ≤ 2 * i + 1) : halfRev ps i = ps.reverse := by
  apply List.ext_getElem?
  intro t
  by_cases ht : t < ps.length
  · rw [halfRev_get ps i t h ht, List.getElem?_reverse ht]
    by_cases e : t < i ∨ ps.length - i ≤ t
    · rw [if_pos e]
    · rw [if_neg e]; congr 1; omega
  · rw [List.getElem?_eq_none (by rw [halfRev_len ps i h]; omega), List.getElem?_eq_none (by simp; omega)]
end Go.Proofs.YtohknemfcohhfaaDoor
