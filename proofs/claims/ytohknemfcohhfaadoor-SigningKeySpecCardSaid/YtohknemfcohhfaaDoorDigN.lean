/-
  What is proved here: a slice literal of one digest, appended.
-/
import Derived.Test.YtohknemfcohhfaaDoorRows
import Derived.Test.YtohknemfcohhfaaDoorBaseC
import Derived.Test.YtohknemfcohhfaaDoorSha
import Derived.Test.YtohknemfcohhfaaDoorDigA
import Derived.Test.YtohknemfcohhfaaDoorDigC
import Derived.Test.YtohknemfcohhfaaDoorDigD
import Derived.Test.YtohknemfcohhfaaDoorDigE
import Derived.Test.YtohknemfcohhfaaDoorDigF
import Derived.Test.YtohknemfcohhfaaDoorDigG
import Derived.Test.YtohknemfcohhfaaDoorDigH
import Derived.Test.YtohknemfcohhfaaDoorDigI
import Derived.Test.YtohknemfcohhfaaDoorDigJ
import Derived.Test.YtohknemfcohhfaaDoorDigK
import Derived.Test.YtohknemfcohhfaaDoorDigL
import Derived.Test.YtohknemfcohhfaaDoorDigM
import Derived.Test.YtohknemfcohhfaaDoorTree
import Derived.Test.YtohknemfcohhfaaDoorShelf
import Derived.Lib.ConvBytes
import Derived.StillTailTactics
import Derived.Lib.AppendZerosOnto
import Derived.Deep.RegionHeld3
import Derived.Great.BuildSlice
import Derived.Deep.MidRow
import Derived.Deep.RegionLaw
import Derived.Deep.DeepCutAuto
import Derived.Deep.QuietTactic
import Derived.BigQuiet
import Derived.Laws.EntriesVeiled
namespace Go.Proofs.YtohknemfcohhfaaDoor
open Go.RowKit Go.VS
theorem fold_set : ∀ (l : List Value) (k : Nat) (a : Array Value), k + l.length ≤ a.size → (l.zipIdx k).foldl (fun cs p => cs.setIfInBounds p.2 p.1) a = (a.toList.take k ++ l ++ a.toList.drop (k + l.length)).toArray
  | [], k, a, _ => by simp
  | v :: l, k, a, h => by
    simp only [List.length_cons] at h
    rw [List.zipIdx_cons, List.foldl_cons, fold_set l (k + 1) (a.setIfInBounds k v) (by simp; omega)]
    congr 1
    rw [Array.toList_setIfInBounds]
    have hk : k < a.toList.length := by simp; omega
    have e1 : (a.toList.set k v).take (k + 1) = a.toList.take k ++ [v] := by
      rw [List.take_set, List.take_add_one, List.getElem?_eq_getElem hk, List.set_append_right _ _ (by simp; omega)]
      have : k - (a.toList.take k).length = 0 := by rw [List.length_take]; omega
      rw [this]; rfl
    have e2 : (a.toList.set k v).drop (k + 1 + l.length) = a.toList.drop (k + (v :: l).length) := by
      rw [List.drop_set_of_lt (by omega)]
      congr 1
      simp; omega
    rw [e1, e2]
    simp
theorem fill_one (s : Nat) (zs cs : Array Value) (h1 : cs.size = s) (h2 : zs.size = s) : Instr.fill (fun i => some (i * s, s)) zs [(0, .agg cs)] = some cs := by
  have hc : (Value.agg cs).cells = cs := rfl
  have key : (cs.zipIdx.foldl (fun a (p : Value × Nat) => a.setIfInBounds (0 * s + p.2) p.1) zs) = cs := by
    rw [← Array.foldl_toList]
    have := fold_set cs.toList 0 zs (by simp; omega)
    simp only [Nat.zero_mul, Nat.zero_add, Array.toList_zipIdx]
    rw [this, show zs.toList.drop (0 + cs.toList.length) = [] from List.drop_eq_nil_of_le (by simp; omega)]
    simp
  simp only [Instr.fill, hc]
  rw [if_neg (by simp; omega)]
  exact congrArg some key
theorem info26 : (Tryd.prog.info? 26).map (fun i => (i.zero, i.size, i.bytes)) = some (some (.agg (darr [])), 32, 32) := by kernel_rfl
theorem build1 (r : List UInt8) (hr : r.length = 32) (W : World) : (Instr.buildSlice 30 1 #[(0, dg r)]).run Tryd.prog W = .ok (.slice (some ⟨W.heap.size, 0, none⟩) 1 1) (W.alloc (.cells (darr r) 26)) := by
  obtain ⟨i0, hi, hz0, hz1, hz2⟩ := info_parts info26
  refine run_buildSlice (P := Tryd.prog) W 30 26 1 _ (darr r) i0 _ Tryd.underlying30 hi hz0 (by rw [hz1]; decide) (by rw [hz1]; decide) ?_
  rw [hz1, dg_darr r hr]
  exact fill_one 32 _ (darr r) (darr_size r (by omega)) (by simp)
/-- a row of one digest: known as a list of one. -/
theorem one_ds {w : World} {D : Gh} {g : Nat} {r : List UInt8} (hB : Box w D g 26 (darr r)) (hr : r.length = 32) : ∃ D' : Gh, Keeps D' w ∧ SlN D' 32 (.slice (some ⟨g, 0, none⟩) 1 1) 1 (flat [r]) := by
  refine ⟨fun b o => if b = g then (darr r)[o]? else none, fun b o v h => ?_, ⟨by simp [flat, hr], some ⟨g, 0, none⟩, 1, rfl, Nat.le_refl _, by simp [maxLen], by simp, fun _ => ⟨g, 0, rfl, fun j u e => ?_⟩⟩⟩
  · dsimp only at h
    split at h
    · rename_i hb; subst hb; rw [hB.cell]; exact h
    · cases h
  · dsimp only
    rw [if_pos rfl, Nat.zero_add, darr_full r hr]
    simpa [flat] using e
section
variable {P : Program} (w : World)
theorem run_append_dg {base : Nat} {v : Value} {n : Nat} {xs : List Value} (hown : w.ownsRow base 26 32 v n xs) (D : Gh) (hk : Keeps D w) (A : Option Addr) (m c : Nat) (ds : List (List UInt8)) (hr : SlN D 32 (.slice A m c) m (flat ds))
    (h63 : n + m ≤ 1000000) (hbase : base ≤ w.heap.size) :
    ∃ A' cap' w', (Builtin.append_ #[30, 30] 30 #[v, .slice A m c]).run Tryd.prog w = .ok (.slice A' (n + m) cap') w' ∧ w'.ownsRow base 26 32 (.slice A' (n + m) cap') (n + m) (xs ++ flat ds) ∧ w.grownBy w' v.ownBlock ∧
      (Value.ownBlock (.slice A' (n + m) cap') = v.ownBlock ∨ Value.ownBlock (.slice A' (n + m) cap') = some w.heap.size) := by
  obtain ⟨i0, hi, hz0, hz1, hz2⟩ := info_parts info26
  exact run_append_slN (P := Tryd.prog) w base 30 30 26 i0 (.agg (darr [])) 32 32 Tryd.underlying30 hi hz0 hz1 hz2 (darr_size [] (by simp)) (by omega) v n xs hown D hk A m c (flat ds) hr (flat_one _) (by unfold maxLen; omega) (by omega) hbase
theorem step_append_run {ops : Array Oper} {o : Oper} {a : Act} {K : Act → World → Prop} {Q : Exit → Act → World → Prop} {E : Prop} (hgd : o.guard = none) (s x : Operand) (t tn : TypeId)
    (ho : o.op = .call { callee := .builtin .append, args := #[s, x], argTypes := #[t, tn] }) (vs vx : Value) (hs : a.eval s = vs) (hx : a.eval x = vx)
    (v' : Value) (w' : World) (hr : (Builtin.append_ #[t, tn] o.type #[vs, vx]).run P w = .ok v' w') (h : K (a.put o.dst v') w') : if Region.wanted o (yielded ops a.tmps) = true then Oper.wp P o a w K Q else E := by
  have hw : Region.wanted o (yielded ops a.tmps) = true := by simp [Region.wanted, hgd]
  rw [if_pos hw]
  exact Lib.wp_append_run w s x t tn ho vs vx hs hx v' w' hr h
end
theorem own_belowN {w w' : World} {base : Nat} {e : TypeId} {s : Nat} {v : Value} {n : Nat} {xs : List Value} (h : w.ownsRow base e s v n xs) (hb : Below w.heap.size w w') : w'.ownsRow base e s v n xs :=
  h.kept (row := none) ⟨hb.os, hb.tape, hb.output, hb.size, fun k hk _ => hb.block k hk⟩ (by cases v.ownBlock <;> simp)
/-- append(p, r), r a digest that a call has just made. -/
theorem app_step {w wr w1 : World} {D : Gh} {v : Value} {n : Nat} {xs : List (List UInt8)} (r : List UInt8) (hr : r.length = 32) (hk : Keeps D w) (hown : wr.ownsRow w.heap.size 26 32 v n (flat xs)) (hG : Grow w D wr D) (hb1 : Below wr.heap.size wr w1) (hn : n ≤ 100000) :
    ∃ A' cap' w', (Builtin.append_ #[30, 30] 30 #[v, .slice (some ⟨w1.heap.size, 0, none⟩) 1 1]).run Tryd.prog (w1.alloc (.cells (darr r) 26)) = .ok (.slice A' (n + 1) cap') w' ∧ w'.ownsRow w.heap.size 26 32 (.slice A' (n + 1) cap') (n + 1) (flat (xs ++ [r])) ∧ Grow w D w' D := by
  have hG1 : Grow w D w1 D := hG.trans (Grow.of_below hG.keeps hb1)
  have hown1 := (own_belowN hown hb1).alloc (.cells (darr r) 26)
  obtain ⟨D1, hk1, hs1⟩ := one_ds (Box.new2 hG1.keeps rfl 26 (darr r)) hr
  obtain ⟨A', cap', w', hrun, hown', hg, _⟩ := run_append_dg (w1.alloc (.cells (darr r) 26)) hown1 D1 hk1 _ 1 1 [r] hs1 (by omega) (by have := hG1.below.size; simp; omega)
  refine ⟨A', cap', w', hrun, by rw [flat_append]; exact hown', (hG1.alloc _).row hg (fun k h => (hown1.lt k h).1) (fun k h => hk.offNew (hown1.lt k h).1)⟩
theorem foldz (r : List UInt8) (hr : r.length = 32) : Array.foldl (fun (cs : Array Value) (x : Value × Nat) => cs.setIfInBounds x.snd x.fst) #[.int .u8 0, .int .u8 0, .int .u8 0, .int .u8 0, .int .u8 0, .int .u8 0, .int .u8 0, .int .u8 0, .int .u8 0, .int .u8 0, .int .u8 0, .int .u8 0, .int .u8 0, .int .u8 0, .int .u8 0, .int .u8 0, .int .u8 0, .int .u8 0, .int .u8 0, .int .u8 0, .int .u8 0, .int .u8 0, .int .u8 0, .int .u8 0, .int .u8 0, .int .u8 0, .int .u8 0, .int .u8 0, .int .u8 0, .int .u8 0, .int .u8 0, .int .u8 0] (darr r).zipIdx 0 32 = darr r := by
  have h := fold_set (darr r).toList 0 (darr []) (by simp [darr_size r (by omega), darr_size [] (by simp)])
  have hz : (darr r).zipIdx.size = 32 := by simp [darr_size r (by omega)]
  have e : Array.foldl (fun (cs : Array Value) (x : Value × Nat) => cs.setIfInBounds x.snd x.fst) (darr []) (darr r).zipIdx 0 32 = Array.foldl (fun (cs : Array Value) (x : Value × Nat) => cs.setIfInBounds x.snd x.fst) (darr []) (darr r).zipIdx := by rw [hz]
  refine Eq.trans e ?_
  rw [← Array.foldl_toList, Array.toList_zipIdx]
  refine h.trans ?_
  rw [show (darr []).toList.drop (0 + (darr r).toList.length) = [] from List.drop_eq_nil_of_le (by simp [darr_size r (by omega), darr_size [] (by simp)])]
  simp
end Go.Proofs.YtohknemfcohhfaaDoor
