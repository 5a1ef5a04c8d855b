/-
  What is proved here: append(append([]Digest(nil), p...), d) in whatever order its parts come up, beside other new blocks.
-/
import Derived.Test.YtohknemfcohhfaaDoorRows
import Derived.Test.YtohknemfcohhfaaDoorBaseC
import Derived.Test.YtohknemfcohhfaaDoorSha
import Derived.Test.YtohknemfcohhfaaDoorDigA
import Derived.Test.YtohknemfcohhfaaDoorDigC
import Derived.Test.YtohknemfcohhfaaDoorDigD
import Derived.Test.YtohknemfcohhfaaDoorDigE
import Derived.Test.YtohknemfcohhfaaDoorDigF
import Derived.Test.YtohknemfcohhfaaDoorDigG
import Derived.Test.YtohknemfcohhfaaDoorDigH
import Derived.Test.YtohknemfcohhfaaDoorDigI
import Derived.Test.YtohknemfcohhfaaDoorDigJ
import Derived.Test.YtohknemfcohhfaaDoorDigK
import Derived.Test.YtohknemfcohhfaaDoorDigL
import Derived.Test.YtohknemfcohhfaaDoorDigM
import Derived.Test.YtohknemfcohhfaaDoorDigN
import Derived.Test.YtohknemfcohhfaaDoorDigO
import Derived.Test.YtohknemfcohhfaaDoorDigP
import Derived.Test.YtohknemfcohhfaaDoorDigQ
import Derived.Test.YtohknemfcohhfaaDoorDigR
import Derived.Test.YtohknemfcohhfaaDoorDigS
import Derived.Test.YtohknemfcohhfaaDoorDigT
import Derived.Test.YtohknemfcohhfaaDoorLawTags
import Derived.Test.YtohknemfcohhfaaDoorTree
import Derived.Test.YtohknemfcohhfaaDoorShelf
import Derived.Lib.ConvBytes
import Derived.StillTailTactics
import Derived.Lib.AppendZerosOnto
import Derived.Deep.RegionHeld3
import Derived.Stop.BytesEq
import Derived.Great.BuildSlice
import Derived.Deep.MidRow
import Derived.Deep.RegionLaw
import Derived.Deep.DeepCutAuto
import Derived.Deep.QuietTactic
import Derived.BigQuiet
import Derived.Laws.EntriesVeiled
namespace Go.Proofs.YtohknemfcohhfaaDoor
open Go.RowKit Go.VS
theorem heap_lt2 {W : World} {g : Nat} {o : Obj} (h : W.heap[g]? = some o) : g < W.heap.size := by
  rcases Nat.lt_or_ge g W.heap.size with hlt | hge
  · exact hlt
  · rw [Array.getElem?_eq_none hge] at h; cases h
/-- in the midst of append(append([]Digest{}, p...), d), with new blocks beside it that stand as they are. -/
structure Aq (w1 : World) (v : Value) (n : Nat) (xs : List (List UInt8)) (Bs : List (Nat × Array Value)) (W : World) : Prop where
  below : Below w1.heap.size w1 W
  own : W.ownsRow w1.heap.size 26 32 v n (flat xs)
  blk : ∀ go cs, (go, cs) ∈ Bs → W.heap[go]? = some (.cells cs 26 (0, 0)) ∧ w1.heap.size ≤ go ∧ v.ownBlock ≠ some go
theorem Aq.start (w1 : World) : Aq w1 (.slice none 0 0) 0 [] [] w1 := ⟨Below.refl _ _, World.ownsRow_nil _ _ _ _, fun _ _ h => by cases h⟩
theorem Aq.build0 {w1 W : World} {Bs : List (Nat × Array Value)} (h : Aq w1 (.slice none 0 0) 0 [] Bs W) : Aq w1 (.slice (some ⟨W.heap.size, 0, none⟩) 0 0) 0 [] Bs (W.alloc (.cells #[] 26)) :=
  ⟨h.below.alloc h.below.size _, own_emptyN h.below.size (heap_alloc_new W _), fun go cs e => by
    obtain ⟨a, b, _⟩ := h.blk go cs e
    have hl := heap_lt2 a
    refine ⟨(Below.heap_alloc W _ go hl).trans a, b, ?_⟩
    simp only [Value.ownBlock]
    intro e'
    injection e' with e'
    omega⟩
theorem Aq.build {w1 W : World} {v : Value} {n : Nat} {xs : List (List UInt8)} {Bs : List (Nat × Array Value)} (h : Aq w1 v n xs Bs W) (cs : Array Value) : Aq w1 v n xs ((W.heap.size, cs) :: Bs) (W.alloc (.cells cs 26)) :=
  ⟨h.below.alloc h.below.size _, h.own.alloc _, fun go cs' e => by
    rcases List.mem_cons.1 e with e | e
    · injection e with e1 e2
      subst e1 e2
      refine ⟨heap_alloc_new W _, h.below.size, fun e' => ?_⟩
      have := (h.own.lt _ e').2
      omega
    · obtain ⟨a, b, cc⟩ := h.blk go cs' e
      exact ⟨(Below.heap_alloc W _ go (heap_lt2 a)).trans a, b, cc⟩⟩
theorem Aq.app {w1 W : World} {v : Value} {n : Nat} {xs : List (List UInt8)} {Bs : List (Nat × Array Value)} (h : Aq w1 v n xs Bs W) (D : Gh) (hkW : Keeps D W) (A : Option Addr) (m c : Nat) (ds : List (List UInt8)) (hds : SlN D 32 (.slice A m c) m (flat ds)) (hm : n + m ≤ 2000) :
    ∃ A' c' W', (Builtin.append_ #[30, 30] 30 #[v, .slice A m c]).run Tryd.prog W = .ok (.slice A' (n + m) c') W' ∧ Aq w1 (.slice A' (n + m) c') (n + m) (xs ++ ds) Bs W' := by
  obtain ⟨A', c', W', hrun, hown, hg, hob⟩ := run_append_dg W h.own D hkW A _ c ds hds (by omega) h.below.size
  refine ⟨A', c', W', hrun, h.below.grown hg h.below.size (fun g e => (h.own.lt g e).1), by rw [flat_append]; exact hown, fun go cs e => ?_⟩
  obtain ⟨a, b, cc⟩ := h.blk go cs e
  have hlt := heap_lt2 a
  refine ⟨(hg.block go hlt (fun e' => cc e'.symm)).trans a, b, fun e' => ?_⟩
  rcases hob with h1 | h1
  · exact cc (h1.symm.trans e')
  · have := h1.symm.trans e'
    injection this with this
    omega
theorem Aq.app1 {w1 W : World} {v : Value} {Bs : List (Nat × Array Value)} (h : Aq w1 v 0 [] Bs W) (D : Gh) (hk : Keeps D w1) (A : Option Addr) (m c : Nat) (ds : List (List UInt8)) (hds : DS D (.slice A m c) ds) (hm : m ≤ 1000) :
    ∃ A' c' W', (Builtin.append_ #[30, 30] 30 #[v, .slice A m c]).run Tryd.prog W = .ok (.slice A' m c') W' ∧ Aq w1 (.slice A' m c') m ds Bs W' := by
  have hl := hds.len.1
  subst hl
  obtain ⟨A', c', W', hrun, ha⟩ := h.app D (hk.below h.below (Nat.le_refl _)) A _ c ds hds.2 (by omega)
  rw [Nat.zero_add, List.nil_append] at ha
  rw [Nat.zero_add] at hrun
  exact ⟨A', c', W', hrun, ha⟩
theorem Aq.app2 {w1 W : World} {r : List UInt8} (hr : r.length = 32) {v : Value} {n : Nat} {xs : List (List UInt8)} {Bs : List (Nat × Array Value)} {go : Nat} (h : Aq w1 v n xs Bs W) (hgo : (go, darr r) ∈ Bs) (hn : n ≤ 1000) :
    ∃ A' c' W', (Builtin.append_ #[30, 30] 30 #[v, .slice (some ⟨go, 0, none⟩) 1 1]).run Tryd.prog W = .ok (.slice A' (n + 1) c') W' ∧ Aq w1 (.slice A' (n + 1) c') (n + 1) (xs ++ [r]) Bs W' := by
  obtain ⟨a, b, cc⟩ := h.blk go _ hgo
  obtain ⟨D1, hk1, hs1⟩ := one_ds (D := fun _ _ => none) ⟨a, fun _ => rfl⟩ hr
  exact h.app D1 hk1 _ 1 1 [r] hs1 (by omega)
theorem Aq.call {w1 W W' : World} {v : Value} {n : Nat} {xs : List (List UInt8)} {Bs : List (Nat × Array Value)} (h : Aq w1 v n xs Bs W) (hb : Below W.heap.size W W') : Aq w1 v n xs Bs W' :=
  ⟨h.below.trans (hb.mono h.below.size), own_belowN h.own hb, fun go cs e => by
    obtain ⟨a, b, cc⟩ := h.blk go cs e
    exact ⟨(hb.block go (heap_lt2 a)).trans a, b, cc⟩⟩
/-- the row is known from now on. -/
theorem Aq.pub {w1 W : World} {v : Value} {n : Nat} {xs : List (List UInt8)} {Bs : List (Nat × Array Value)} (h : Aq w1 v n xs Bs W) (hall : ∀ d ∈ xs, d.length = 32) (D : Gh) (hk : Keeps D w1) : ∃ D', Grow w1 D W D' ∧ DS D' v xs := by
  have hG := Grow.of_below hk h.below
  obtain ⟨D', hG', _, hs, _⟩ := hG.pubN h.own (Nat.le_refl _) (fun g e => hk.offNew (h.own.lt g e).1)
  refine ⟨D', hG', hall, ?_⟩
  have hl := h.own.1
  rw [flat_length xs hall] at hl
  rw [show xs.length = n by omega]
  exact hs
/-- a new block that is still zero: what a store into it does. -/
theorem Aq.store {w1 W : World} {v : Value} {n : Nat} {xs : List (List UInt8)} {Bs : List (Nat × Array Value)} (h : Aq w1 v n xs Bs W) {gz : Nat} (hgz : (gz, darr []) ∈ Bs) (r : List UInt8) (hr : r.length = 32) :
    (storeCells ⟨gz, 0, none⟩ (darr r).toList).run Tryd.prog W = .ok () (W.setRow gz (darr r)) ∧ Below w1.heap.size w1 (W.setRow gz (darr r)) := by
  obtain ⟨a, b, _⟩ := h.blk gz _ hgz
  have hB : Box W (fun _ _ => none) gz 26 (darr []) := ⟨a, fun _ => rfl⟩
  exact ⟨store_run hB hr, belowRow h.below b _⟩
theorem foldzL2 (r : List UInt8) (hr : r.length = 32) : List.foldl (fun (cs : Array Value) (x : Value × Nat) => cs.setIfInBounds x.snd x.fst) (darr []) (r.map bv).zipIdx = darr r := by
  have h := fold_set (r.map bv) 0 (darr []) (by simp [hr, darr_size [] (by simp)])
  refine Eq.trans h ?_
  rw [darr_full r hr, List.drop_eq_nil_of_le (by simp [hr, darr_size [] (by simp)])]
  simp
end Go.Proofs.YtohknemfcohhfaaDoor
