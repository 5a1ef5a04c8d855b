/-
  What is proved here: append(append([]Digest(nil), p...), d) in whatever order its parts come up.
-/
import Derived.Test.YtohknemfcohhfaaDoorRows
import Derived.Test.YtohknemfcohhfaaDoorBaseC
import Derived.Test.YtohknemfcohhfaaDoorSha
import Derived.Test.YtohknemfcohhfaaDoorDigA
import Derived.Test.YtohknemfcohhfaaDoorDigC
import Derived.Test.YtohknemfcohhfaaDoorDigD
import Derived.Test.YtohknemfcohhfaaDoorDigE
import Derived.Test.YtohknemfcohhfaaDoorDigF
import Derived.Test.YtohknemfcohhfaaDoorDigG
import Derived.Test.YtohknemfcohhfaaDoorDigH
import Derived.Test.YtohknemfcohhfaaDoorDigI
import Derived.Test.YtohknemfcohhfaaDoorDigJ
import Derived.Test.YtohknemfcohhfaaDoorDigK
import Derived.Test.YtohknemfcohhfaaDoorDigL
import Derived.Test.YtohknemfcohhfaaDoorDigM
import Derived.Test.YtohknemfcohhfaaDoorDigN
import Derived.Test.YtohknemfcohhfaaDoorDigO
import Derived.Test.YtohknemfcohhfaaDoorDigP
import Derived.Test.YtohknemfcohhfaaDoorDigQ
import Derived.Test.YtohknemfcohhfaaDoorDigR
import Derived.Test.YtohknemfcohhfaaDoorDigS
import Derived.Test.YtohknemfcohhfaaDoorDigT
import Derived.Test.YtohknemfcohhfaaDoorLawTags
import Derived.Test.YtohknemfcohhfaaDoorSigA
import Derived.Test.YtohknemfcohhfaaDoorSigB
import Derived.Test.YtohknemfcohhfaaDoorSigC
import Derived.Test.YtohknemfcohhfaaDoorSigD
import Derived.Test.YtohknemfcohhfaaDoorSigE
import Derived.Test.YtohknemfcohhfaaDoorSigP
import Derived.Test.YtohknemfcohhfaaDoorSigF
import Derived.Test.YtohknemfcohhfaaDoorSigG
import Derived.Test.YtohknemfcohhfaaDoorTree
import Derived.Test.YtohknemfcohhfaaDoorSign
import Derived.Test.YtohknemfcohhfaaDoorShelf
import Derived.Lib.ConvBytes
import Derived.StillTailTactics
import Derived.Lib.AppendZerosOnto
import Derived.Deep.RegionHeld3
import Derived.Stop.BytesEq
import Derived.Great.BuildSlice
import Derived.Deep.MidRow
import Derived.Deep.RegionLaw
import Derived.Deep.DeepCutAuto
import Derived.Deep.QuietTactic
import Derived.BigQuiet
import Derived.Laws.EntriesVeiled
namespace Go.Proofs.YtohknemfcohhfaaDoor
open Go.RowKit Go.VS
/-- in the midst of append(append([]Digest{}, p...), d): nothing older than w1 has changed; the row so far; where d's block stands. -/
structure Ap (w1 : World) (r : List UInt8) (v : Value) (n : Nat) (xs : List (List UInt8)) (O : Option Nat) (W : World) : Prop where
  below : Below w1.heap.size w1 W
  own : W.ownsRow w1.heap.size 26 32 v n (flat xs)
  blk : ∀ go, O = some go → W.heap[go]? = some (.cells (darr r) 26 (0, 0)) ∧ w1.heap.size ≤ go ∧ v.ownBlock ≠ some go
theorem heap_lt {W : World} {g : Nat} {o : Obj} (h : W.heap[g]? = some o) : g < W.heap.size := by
  rcases Nat.lt_or_ge g W.heap.size with hlt | hge
  · exact hlt
  · rw [Array.getElem?_eq_none hge] at h; cases h
theorem Ap.start (w1 : World) (r : List UInt8) : Ap w1 r (.slice none 0 0) 0 [] none w1 := ⟨Below.refl _ _, World.ownsRow_nil _ _ _ _, fun _ h => by cases h⟩
theorem Ap.build0 {w1 W : World} {r : List UInt8} {O : Option Nat} (h : Ap w1 r (.slice none 0 0) 0 [] O W) : Ap w1 r (.slice (some ⟨W.heap.size, 0, none⟩) 0 0) 0 [] O (W.alloc (.cells #[] 26)) :=
  ⟨h.below.alloc h.below.size _, own_emptyN h.below.size (heap_alloc_new W _), fun go e => by
    obtain ⟨a, b, _⟩ := h.blk go e
    have hl := heap_lt a
    refine ⟨(Below.heap_alloc W _ go hl).trans a, b, ?_⟩
    simp only [Value.ownBlock]
    intro e'
    injection e' with e'
    omega⟩
theorem Ap.build1 {w1 W : World} {r : List UInt8} {v : Value} {n : Nat} {xs : List (List UInt8)} (h : Ap w1 r v n xs none W) : Ap w1 r v n xs (some W.heap.size) (W.alloc (.cells (darr r) 26)) :=
  ⟨h.below.alloc h.below.size _, h.own.alloc _, fun go e => by
    injection e with e
    subst e
    refine ⟨heap_alloc_new W _, h.below.size, fun e' => ?_⟩
    have := (h.own.lt _ e').2
    omega⟩
theorem Ap.app1 {w1 W : World} {r : List UInt8} {v : Value} {O : Option Nat} (h : Ap w1 r v 0 [] O W) (D : Gh) (hk : Keeps D w1) (A : Option Addr) (m c : Nat) (ds : List (List UInt8)) (hds : DS D (.slice A m c) ds) (hm : m ≤ 1000) :
    ∃ A' c' W', (Builtin.append_ #[30, 30] 30 #[v, .slice A m c]).run Tryd.prog W = .ok (.slice A' m c') W' ∧ Ap w1 r (.slice A' m c') m ds O W' := by
  have hkW := hk.below h.below (Nat.le_refl _)
  have hl := hds.len.1
  subst hl
  obtain ⟨A', c', W', hrun, hown, hg, hob⟩ := run_append_dg W h.own D hkW A _ c ds hds.2 (by omega) h.below.size
  rw [Nat.zero_add] at hrun hown hob
  refine ⟨A', c', W', hrun, h.below.grown hg h.below.size (fun g e => (h.own.lt g e).1), hown, fun go e => ?_⟩
  obtain ⟨a, b, cc⟩ := h.blk go e
  have hlt := heap_lt a
  refine ⟨(hg.block go hlt (fun e' => cc e'.symm)).trans a, b, fun e' => ?_⟩
  rcases hob with h1 | h1
  · exact cc (h1.symm.trans e')
  · have := h1.symm.trans e'
    injection this with this
    omega
theorem Ap.app2 {w1 W : World} {r : List UInt8} (hr : r.length = 32) {v : Value} {n : Nat} {xs : List (List UInt8)} {go : Nat} (h : Ap w1 r v n xs (some go) W) (hn : n ≤ 1000) :
    ∃ A' c' W', (Builtin.append_ #[30, 30] 30 #[v, .slice (some ⟨go, 0, none⟩) 1 1]).run Tryd.prog W = .ok (.slice A' (n + 1) c') W' ∧ Ap w1 r (.slice A' (n + 1) c') (n + 1) (xs ++ [r]) none W' := by
  obtain ⟨a, b, cc⟩ := h.blk go rfl
  obtain ⟨D1, hk1, hs1⟩ := one_ds (D := fun _ _ => none) ⟨a, fun _ => rfl⟩ hr
  obtain ⟨A', c', W', hrun, hown, hg, hob⟩ := run_append_dg W h.own D1 hk1 _ 1 1 [r] hs1 (by omega) h.below.size
  exact ⟨A', c', W', hrun, h.below.grown hg h.below.size (fun g e => (h.own.lt g e).1), by rw [flat_append]; exact hown, fun _ e => by cases e⟩
/-- the row is known from now on. -/
theorem Ap.pub {w1 W : World} {r : List UInt8} {v : Value} {n : Nat} {xs : List (List UInt8)} (h : Ap w1 r v n xs none W) (hall : ∀ d ∈ xs, d.length = 32) (D : Gh) (hk : Keeps D w1) : ∃ D', Grow w1 D W D' ∧ DS D' v xs := by
  have hG := Grow.of_below hk h.below
  obtain ⟨D', hG', _, hs, _⟩ := hG.pubN h.own (Nat.le_refl _) (fun g e => hk.offNew (h.own.lt g e).1)
  refine ⟨D', hG', hall, ?_⟩
  have hl := h.own.1
  rw [flat_length xs hall] at hl
  rw [show xs.length = n by omega]
  exact hs
end Go.Proofs.YtohknemfcohhfaaDoor
