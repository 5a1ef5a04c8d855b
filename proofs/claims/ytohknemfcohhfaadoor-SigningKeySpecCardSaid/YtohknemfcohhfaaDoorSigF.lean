/-
  What is proved here: Verify: what it answers for a signature of the right shape.
-/
import Derived.Test.YtohknemfcohhfaaDoorRows
import Derived.Test.YtohknemfcohhfaaDoorBaseC
import Derived.Test.YtohknemfcohhfaaDoorSha
import Derived.Test.YtohknemfcohhfaaDoorDigA
import Derived.Test.YtohknemfcohhfaaDoorDigC
import Derived.Test.YtohknemfcohhfaaDoorDigD
import Derived.Test.YtohknemfcohhfaaDoorDigE
import Derived.Test.YtohknemfcohhfaaDoorDigF
import Derived.Test.YtohknemfcohhfaaDoorDigG
import Derived.Test.YtohknemfcohhfaaDoorDigH
import Derived.Test.YtohknemfcohhfaaDoorDigI
import Derived.Test.YtohknemfcohhfaaDoorDigJ
import Derived.Test.YtohknemfcohhfaaDoorDigK
import Derived.Test.YtohknemfcohhfaaDoorDigL
import Derived.Test.YtohknemfcohhfaaDoorDigM
import Derived.Test.YtohknemfcohhfaaDoorDigN
import Derived.Test.YtohknemfcohhfaaDoorDigO
import Derived.Test.YtohknemfcohhfaaDoorDigP
import Derived.Test.YtohknemfcohhfaaDoorDigQ
import Derived.Test.YtohknemfcohhfaaDoorDigR
import Derived.Test.YtohknemfcohhfaaDoorDigS
import Derived.Test.YtohknemfcohhfaaDoorDigT
import Derived.Test.YtohknemfcohhfaaDoorLawTags
import Derived.Test.YtohknemfcohhfaaDoorSigA
import Derived.Test.YtohknemfcohhfaaDoorSigB
import Derived.Test.YtohknemfcohhfaaDoorSigC
import Derived.Test.YtohknemfcohhfaaDoorSigD
import Derived.Test.YtohknemfcohhfaaDoorSigE
import Derived.Test.YtohknemfcohhfaaDoorSigP
import Derived.Test.YtohknemfcohhfaaDoorTree
import Derived.Test.YtohknemfcohhfaaDoorSign
import Derived.Test.YtohknemfcohhfaaDoorShelf
import Derived.Lib.ConvBytes
import Derived.StillTailTactics
import Derived.Lib.AppendZerosOnto
import Derived.Deep.RegionHeld3
import Derived.Stop.BytesEq
import Derived.Great.BuildSlice
import Derived.Deep.MidRow
import Derived.Deep.RegionLaw
import Derived.Deep.DeepCutAuto
import Derived.Deep.QuietTactic
import Derived.BigQuiet
import Derived.Laws.EntriesVeiled
namespace Go.Proofs.YtohknemfcohhfaaDoor
open Go.RowKit Go.VS
theorem wpList_gload_row {P : Program} {ops : Array Oper} {rest : List Oper} {o : Oper} {a : Act} {w : World} {Q : Exit → Act → World → Prop} (hw : Region.wanted o (yielded ops a.tmps) = true) (ty : TypeId) (x : Operand) (ho : o.op = .load ty x)
    (g : Nat) (hx : a.eval x = .pointer (some ⟨g, 0, none⟩)) (t : TypeId) (cs : Array Value) (fr : Nat × Nat) (d : TypeDesc) (hg : w.heap[g]? = some (.cells cs t fr))
    (hu : P.underlying ty = some d) (hd : (match d with | .struct _ | .array _ _ => true | _ => false) = true) (hi : (P.info? ty).map (·.size) = some cs.size)
    (h : wpList P ops Q rest (a.put o.dst (.agg cs)) w) : wpList P ops Q (o :: rest) a w :=
  wpList_step fun K hK => by rw [if_pos hw]; exact wp_load_row ty x ho g hx t cs fr d hg hu hd hi (hK _ _ h)
/-- two variables of the call's own stand; nothing old has changed. -/
structure B2 (D : Gh) (w : World) (g1 : Nat) (t1 : TypeId) (c1 : Array Value) (g2 : Nat) (t2 : TypeId) (c2 : Array Value) (W : World) : Prop where
  keeps : Keeps D W
  below : Below w.heap.size w W
  b1 : Box W D g1 t1 c1
  b2 : Box W D g2 t2 c2
theorem B2.alloc {D : Gh} {w : World} {g1 g2 : Nat} {t1 t2 : TypeId} {c1 c2 : Array Value} {W : World} (h : B2 D w g1 t1 c1 g2 t2 c2 W) (o : Obj) : B2 D w g1 t1 c1 g2 t2 c2 (W.alloc o) := ⟨h.keeps.alloc o, belowAlloc h.below o, h.b1.alloc o, h.b2.alloc o⟩
theorem B2.call {D : Gh} {w : World} {g1 g2 : Nat} {t1 t2 : TypeId} {c1 c2 : Array Value} {W W' : World} (h : B2 D w g1 t1 c1 g2 t2 c2 W) (hb : Below W.heap.size W W') : B2 D w g1 t1 c1 g2 t2 c2 W' := ⟨h.keeps.below hb (Nat.le_refl _), belowVia hb h.below, h.b1.below hb h.b1.lt, h.b2.below hb h.b2.lt⟩
theorem B2.drew {D : Gh} {w : World} {g1 g2 : Nat} {t1 t2 : TypeId} {c1 c2 : Array Value} {W : World} (h : B2 D w g1 t1 c1 g2 t2 c2 W) : B2 D w g1 t1 c1 g2 t2 c2 W.drew := ⟨h.keeps.drew, h.below.drew, h.b1.drew, h.b2.drew⟩
theorem B2.row {D : Gh} {w : World} {g1 g2 : Nat} {t1 t2 : TypeId} {c1 c2 : Array Value} {W : World} (h : B2 D w g1 t1 c1 g2 t2 c2 W) {g : Nat} (h1 : g ≠ g1) (h2 : g ≠ g2) (hg : w.heap.size ≤ g) (ho : D.off g) (cs : Array Value) : B2 D w g1 t1 c1 g2 t2 c2 (W.setRow g cs) := ⟨keepsRow h.keeps ho cs, belowRow h.below hg cs, h.b1.farRow (Ne.symm h1) cs, h.b2.farRow (Ne.symm h2) cs⟩
/-- an opened one-time key as cells. -/
def opA (i : Int) (B : Option Addr) (b d : Nat) (l : List Int) : Array Value := #[.int .i64 i, .slice B b d] ++ lI l
theorem fold_set2 : ∀ (l : List Value) (k s : Nat) (z : Array Value), k + s + l.length ≤ z.size →
    ((l.zipIdx s).foldl (fun (cs : Array Value) (x : Value × Nat) => cs.setIfInBounds (k + x.snd) x.fst) z).toList = z.toList.take (k + s) ++ l ++ z.toList.drop (k + s + l.length)
  | [], k, s, z, _ => by simp
  | v :: l, k, s, z, h => by
    simp only [List.zipIdx_cons, List.foldl_cons]
    rw [fold_set2 l k (s + 1) (z.setIfInBounds (k + s) v) (by simp at h ⊢; omega)]
    simp only [List.length_cons] at h
    simp only [Array.toList_setIfInBounds, List.length_cons]
    rw [show k + (s + 1) = k + s + 1 by omega, List.take_add_one, List.take_set, List.set_eq_of_length_le (by simp; omega), List.getElem?_set_self (by simp; omega), List.drop_set_of_lt (by omega), show k + s + 1 + l.length = k + s + (l.length + 1) by omega]
    simp
theorem lI_size (L : List Int) (h : L.length = 67) : (lI L).size = 67 := by simp [lI, h]
theorem foldo (a b : Value) (L : List Int) (h : L.length = 67) : Array.foldl (fun (cs : Array Value) (x : Value × Nat) => cs.setIfInBounds (2 + x.snd) x.fst) ((Tryd.zeroCells88.setIfInBounds 0 a).setIfInBounds 1 b) (lI L).zipIdx 0 67 = #[a, b] ++ lI L := by
  have hs := lI_size L h
  have hz : (lI L).zipIdx.size = 67 := by simp [hs]
  have hZ : Tryd.zeroCells88.size = 69 := by rfl
  have e : Array.foldl (fun (cs : Array Value) (x : Value × Nat) => cs.setIfInBounds (2 + x.snd) x.fst) ((Tryd.zeroCells88.setIfInBounds 0 a).setIfInBounds 1 b) (lI L).zipIdx 0 67 = Array.foldl (fun (cs : Array Value) (x : Value × Nat) => cs.setIfInBounds (2 + x.snd) x.fst) ((Tryd.zeroCells88.setIfInBounds 0 a).setIfInBounds 1 b) (lI L).zipIdx := by rw [hz]
  refine Eq.trans e ?_
  apply Array.toList_inj.1
  rw [← Array.foldl_toList, Array.toList_zipIdx]
  refine (fold_set2 (lI L).toList 2 0 _ (by simp [hs, hZ])).trans ?_
  have hl : (lI L).toList.length = 67 := by simp [hs]
  rw [List.drop_eq_nil_of_le (by simp [hZ, hs]), List.append_nil]
  simp only [Nat.add_zero, Array.toList_append]
  congr 1
theorem store_run88 {w : World} {D : Gh} {g : Nat} {old : Array Value} (hB : Box w D g 88 old) (cs : Array Value) (hs : cs.size = 69) (h1 : cs.all (·.oneCell') = true) (ho : old.size = 69 := by rfl) : (storeCells ⟨g, 0, none⟩ cs.toList).run Tryd.prog w = .ok () (w.setRow g cs) := by
  have hz : (Tryd.prog.info? 88).map (·.size) = some cs.size := by rw [hs]; kernel_rfl
  have h := run_storeVar_row (P := Tryd.prog) w g 88 88 old cs hB.heap hz (by omega) h1
  cases hq : Tryd.prog.info? 88 with
  | none => rw [hq] at hz; cases hz
  | some i =>
    have hi : i.size = 69 := by rw [hq, hs] at hz; simpa using hz
    simpa [storeVar, sizeOf, typeInfo, hq, Value.cells, hs, hi] using h
theorem opA_at (u : Int) (B : Option Addr) (b d : Nat) (L : List Int) (j : Nat) (h : j < L.length) : (#[Value.int .i64 u, .slice B b d] ++ lI L)[2 + j]? = some (.int .i64 (L.getD j 0)) := by
  rw [Array.getElem?_append_right (by simp)]
  simp [lI, h]
set_option maxRecDepth 100000 in
set_option maxHeartbeats 1000000 in
theorem open_c {sh : List UInt8 → List UInt8} (hs : Sh sh) (u : Nat) (B : Option Addr) (d : Nat) (L : List Int) (hL : L.length = 67) (parts : List (List UInt8)) (O : Array Value) (hO : O = #[Value.int .i64 u, .slice B 67 d] ++ lI L) (D : Gh) (hT : Tab D) (hB : DS D (.slice B 67 d) parts)
    (j : Nat) (hj : j < 67) (h0 : 0 ≤ L.getD j 0) (h15 : L.getD j 0 ≤ 15) (w : World) (hk : Keeps D w) :
    Calls Tryd.prog 76 #[.agg O, .int .i64 j] w fun e w' => e = .returned (dg (adv (tagB sh) u j (L.getD j 0) 15 (parts.getD j []))) ∧ Below w.heap.size w w' := by
  have hO69 : O.size = 69 := by rw [hO]; simp [lI, hL]
  have hoj := opA_at u B 67 d L j (by omega)
  rw [← hO] at hoj
  have hpl : parts.length = 67 := by have := hB.len.1; omega
  have ho0 : O[0]? = some (.int .i64 u) := by rw [hO, Array.getElem?_append_left (by simp)]; rfl
  have ho1 : O[1]? = some (.slice B 67 d) := by rw [hO, Array.getElem?_append_left (by simp)]; rfl
  have HO69 := Lib.hid hO69
  clear hO hO69 hL
  generalize L.getD j 0 = x at *
  have hS0 : B2 D w w.heap.size 88 O (w.heap.size + 1) 26 (darr []) ((w.alloc (.cells O 88)).alloc (.cells (darr []) 26)) := ⟨(by repeat (with_reducible first | assumption | refine Keeps.drew ?_ | refine Keeps.drewN ?_ _ | refine Keeps.alloc ?_ _ | exact Grow.keeps (by assumption))), (by repeat (first | (with_reducible exact Below.refl _ _) | (with_reducible refine Below.drew ?_) | (with_reducible refine belowDrewN ?_ _) | (with_reducible refine belowAlloc ?_ _) | ((with_reducible refine belowSet2 ?_ ?_); omega) | (with_reducible assumption) | (with_reducible refine belowVia (by assumption) ?_) | (with_reducible refine belowVia (Grow.below (by assumption)) ?_))), (Box.new2 hk rfl 88 O).alloc _, Box.new2 (hk.alloc (.cells O 88)) (g := w.heap.size + 1) (by simp) 26 (darr [])⟩
  obtain ⟨b, o, rfl, h32, hrange⟩ := ds_range hB hk (k := j) (by omega)
  have hrangeD : Hid (∀ W, Keeps D W → W.rangeAt b (o + j * 32) (parts[j].map bv)) := fun W hkW => by
    obtain ⟨b', o', e, _, hr⟩ := ds_range hB hkW (k := j) (by omega)
    cases e
    rw [Nat.mul_comm]; exact hr
  have hgp : parts.getD j [] = parts[j] := by simp [List.getD, List.getElem?_eq_getElem (show j < parts.length by omega)]
  rw [hgp]
  clear hrange hgp
  generalize parts[j] = y at *
  have HA := Lib.hid (fun W hk => adv_c hs u j x 15 h0 (by omega) (by omega) (by omega) y h32 D W hk hT)
  have hr32 := Lib.hid (adv_len hs u j x 15 y h32)
  generalize hr : adv (tagB sh) u j x 15 y = r at *
  have HR := Lib.hid hr
  clear hr
  rw [dg_darr r hr32.out] at HA
  unfold dg at HA
  have hszy := sz26l y h32
  have H32 := Lib.hid h32
  have HPL := Lib.hid hpl
  clear h32 hpl
  have q0 := hS0.b1.cell 0
  have g0 : (0 : Int) ≤ (j : Int) := by omega
  have g1 : (j : Int) < 67 := by omega
  go_enter Tryd.func76, Tryd.ntmps76
  go_wp2_with fail
  have hS0d := hS0.drew
  have SH : Hid (∀ W, Keeps D W → Box W D w.heap.size 88 O → (W.rangeAt b (o + j * 32) (y.map bv) ∧ W.cell? ⟨w.heap.size, 0, none⟩ = some (.int .i64 u) ∧ W.cell? ⟨w.heap.size, 1, none⟩ = some (.slice (some ⟨b, o, none⟩) 67 d) ∧ W.cell? ⟨w.heap.size, 2 + j, none⟩ = some (.int .i64 x))) := fun W hkW h => ⟨hrangeD.out W hkW, (h.cell 0).trans ho0, (h.cell 1).trans ho1, (h.cell (2 + j)).trans hoj⟩
  clear q0 ho0 ho1 hoj
  have hu26 := Tryd.underlying26
  refine wp_region_held_drew (S := fun W => W.rangeAt b (o + j * 32) (y.map bv) ∧ W.cell? ⟨w.heap.size, 0, none⟩ = some (.int .i64 u) ∧ W.cell? ⟨w.heap.size, 1, none⟩ = some (.slice (some ⟨b, o, none⟩) 67 d) ∧ W.cell? ⟨w.heap.size, 2 + j, none⟩ = some (.int .i64 x)) (by kernel_rfl) (SH.out _ hS0d.keeps hS0d.b1) (fun hHeld => ?_)
  refine wpAnyH_take (i := 0) (v := ?_) rfl (by kernel_rfl) (by kernel_rfl) (by kernel_rfl) (fun _ _ _ h => h) (Or.inl ⟨by rfl, ?_⟩) hHeld ?_
  rotate_left
  · (intro wz hSw; (try dsimp only at hSw); go_simp; try with_reducible rfl)
  simp only [Act.put, List.getElem_toArray, List.getElem_cons_zero, List.setIfInBounds_toArray, List.set_cons_zero, List.set_cons_succ]
  refine wpAnyH_take (i := 1) (v := ?_) rfl (by kernel_rfl) (by kernel_rfl) (by kernel_rfl) (fun _ _ _ h => h) (Or.inl ⟨by rfl, ?_⟩) hHeld ?_
  rotate_left
  · (intro wz hSw; (try dsimp only at hSw); go_simp; try with_reducible rfl)
  simp only [Act.put, List.getElem_toArray, List.getElem_cons_zero, List.getElem_cons_succ, List.setIfInBounds_toArray, List.set_cons_zero, List.set_cons_succ]
  refine wpAnyH_take (i := 2) (v := ?_) rfl (by kernel_rfl) (by kernel_rfl) (by kernel_rfl) (fun _ _ _ h => h) (Or.inl ⟨by rfl, ?_⟩) hHeld ?_
  rotate_left
  · (intro wz hSw; (try dsimp only at hSw); go_simp; try with_reducible rfl)
  simp only [Act.put, List.getElem_toArray, List.getElem_cons_zero, List.getElem_cons_succ, List.setIfInBounds_toArray, List.set_cons_zero, List.set_cons_succ]
  refine wpAnyH_take (i := 3) (v := ?_) rfl (by kernel_rfl) (by kernel_rfl) (by kernel_rfl) (fun _ _ _ h => h) (Or.inl ⟨by rfl, ?_⟩) hHeld ?_
  rotate_left
  · (intro wz hSw; (try dsimp only at hSw); go_simp; try with_reducible rfl)
  simp only [Act.put, List.getElem_toArray, List.getElem_cons_zero, List.getElem_cons_succ, List.setIfInBounds_toArray, List.set_cons_zero, List.set_cons_succ]
  refine wpAnyH_take (i := 4) (v := ?_) rfl (by kernel_rfl) (by kernel_rfl) (by kernel_rfl) (fun _ _ _ h => h) (Or.inl ⟨by rfl, ?_⟩) hHeld ?_
  rotate_left
  · (intro wz hSw; (try dsimp only at hSw); go_simp; try with_reducible rfl)
  simp only [Act.put, List.getElem_toArray, List.getElem_cons_zero, List.getElem_cons_succ, List.setIfInBounds_toArray, List.set_cons_zero, List.set_cons_succ]
  refine wpAnyH_take (i := 5) (v := ?_) rfl (by kernel_rfl) (by kernel_rfl) (by kernel_rfl) (fun _ _ _ h => h) (Or.inl ⟨by rfl, ?_⟩) hHeld ?_
  rotate_left
  · (intro wz hSw; (try dsimp only at hSw); go_simp; try with_reducible rfl)
  simp only [Act.put, List.getElem_toArray, List.getElem_cons_zero, List.getElem_cons_succ, List.setIfInBounds_toArray, List.set_cons_zero, List.set_cons_succ]
  refine wpAnyH_take (i := 6) (v := ?_) rfl (by kernel_rfl) (by kernel_rfl) (by kernel_rfl) (fun _ _ _ h => h) (Or.inl ⟨by rfl, ?_⟩) hHeld ?_
  rotate_left
  · (intro wz hSw; (try dsimp only at hSw); go_simp; try with_reducible rfl)
  simp only [Act.put, List.getElem_toArray, List.getElem_cons_zero, List.getElem_cons_succ, List.setIfInBounds_toArray, List.set_cons_zero, List.set_cons_succ]
  refine wpAnyH_take (i := 7) (v := ?_) rfl (by kernel_rfl) (by kernel_rfl) (by kernel_rfl) (fun _ _ _ h => h) (Or.inl ⟨by rfl, ?_⟩) hHeld ?_
  rotate_left
  · (intro wz hSw; (try dsimp only at hSw); go_simp; try with_reducible rfl)
  simp only [Act.put, List.getElem_toArray, List.getElem_cons_zero, List.getElem_cons_succ, List.setIfInBounds_toArray, List.set_cons_zero, List.set_cons_succ]
  refine wpAnyH_take (i := 8) (v := ?_) rfl (by kernel_rfl) (by kernel_rfl) (by kernel_rfl) (fun _ _ _ h => h) (Or.inl ⟨by rfl, ?_⟩) hHeld ?_
  rotate_left
  · (intro wz hSw; (try dsimp only at hSw); go_simp; try with_reducible rfl)
  simp only [Act.put, List.getElem_toArray, List.getElem_cons_zero, List.getElem_cons_succ, List.setIfInBounds_toArray, List.set_cons_zero, List.set_cons_succ]
  refine wpAnyH_take (i := 9) (v := ?_) rfl (by kernel_rfl) (by kernel_rfl) (by kernel_rfl) (fun _ _ _ h => h) (Or.inl ⟨by rfl, ?_⟩) hHeld ?_
  rotate_left
  · (intro wz hSw; (try dsimp only at hSw); go_simp; try with_reducible rfl)
  simp only [Act.put, List.getElem_toArray, List.getElem_cons_zero, List.getElem_cons_succ, List.setIfInBounds_toArray, List.set_cons_zero, List.set_cons_succ]
  refine wpAnyH_take (i := 10) (v := ?_) rfl (by kernel_rfl) (by kernel_rfl) (by kernel_rfl) (fun _ _ _ h => h) (Or.inl ⟨by rfl, ?_⟩) hHeld ?_
  rotate_left
  · (intro wz hSw; (try dsimp only at hSw); go_simp; try with_reducible rfl)
  simp only [Act.put, List.getElem_toArray, List.getElem_cons_zero, List.getElem_cons_succ, List.setIfInBounds_toArray, List.set_cons_zero, List.set_cons_succ]
  refine wpAnyH_take (i := 11) (v := (.agg (y.map bv).toArray)) rfl (by kernel_rfl) (by kernel_rfl) (by kernel_rfl) (fun _ _ _ h => h) (yieldsIf_load_mid (by rfl) _ _ rfl _ _ rfl _ _ (fun w h => h.1) hu26 rfl hszy) hHeld ?_
  simp only [Act.put, List.getElem_toArray, List.getElem_cons_zero, List.getElem_cons_succ, List.setIfInBounds_toArray, List.set_cons_zero, List.set_cons_succ]
  refine wpAnyH_ready (rs := [12]) (by kernel_rfl) (by simp) (AllReadyH.cons rfl (fun K' hK => ?_) AllReadyH.nil)
  go_simp
  go_wp2_with ((go_at_call 84; refine (HA.out _ hS0d.keeps).mono ?_; rintro e w1 ⟨rfl, hb1⟩))
  have hS1 := hS0d.call hb1
  refine hK.out _ _ (SH.out _ hS1.keeps hS1.b1) (fun hHeld => ?_)
  clear hK K'
  have hst := store_run hS1.b2 hr32.out
  have hsr26 := sz26 r hr32.out
  have hs32 : (darr r).size = 32 := darr_size r (by rw [hr32.out]; omega)
  refine wpAnyH_ready (rs := [13]) (by kernel_rfl) (by simp) (AllReadyH.cons rfl (fun K' hK => ?_) AllReadyH.nil)
  go_simp
  refine hK.out _ _ (SH.out _ (keepsRow hS1.keeps hS1.b2.off _) (hS1.b1.farRow (by omega) _)) (fun hHeld => ?_)
  clear hK K'
  refine wpAnyH_done (by kernel_rfl) ?_ _
  go_wp2_with fail
  refine bodyPost_ret (results_cell_row rfl _ _ _ _ _ _ _ rfl (hS1.b2.setRow _).heap Tryd.underlying26 rfl hsr26) rfl ⟨?_, belowRow hS1.below (by omega) _⟩
  rw [dg_darr r hr32.out]
theorem openF_len (T : List UInt8 → List UInt8 → List UInt8) (parts : List (List UInt8)) (i : Int) (l : List Int) : (openF T parts i l).length = 67 := by simp [openF]
theorem openF_at (T : List UInt8 → List UInt8 → List UInt8) (parts : List (List UInt8)) (i : Int) (l : List Int) (j : Nat) (h : j < 67) : (openF T parts i l).getD j [] = adv T i j (l.getD j 0) 15 (parts.getD j []) := by
  unfold openF
  rw [List.getD_eq_getElem?_getD, List.getElem?_map, List.getElem?_range h]
  rfl
theorem climbR_len {sh : List UInt8 → List UInt8} (hs : Sh sh) (d : List UInt8) (at_ n : Int) (ps : List (List UInt8)) : (climbR sh d at_ n ps).1.length = 32 := by
  unfold climbR
  split
  · show (climbF (tagB sh) d at_.toNat n.toNat ps).length = 32
    by_cases h : 2 ≤ n.toNat
    · by_cases h1 : at_.toNat < half n.toNat
      · rw [climbF_lo _ _ _ h h1]; exact hs.len _
      · rw [climbF_hi _ _ _ h h1]; exact hs.len _
    · rw [climbF_one _ _ _ _ (by omega)]; exact hs.len _
  · rfl
/-- does a signature verify? -/
def verF (sh : List UInt8 → List UInt8) (p : List UInt8) (m u : Nat) (msg : List UInt8) (parts path : List (List UInt8)) : Bool :=
  decide ((climbR sh (oneF (tagB sh) (openF (tagB sh) parts u (digF (hashF (tagB sh) p u msg)))) u m path).2 = 0) && (climbR sh (oneF (tagB sh) (openF (tagB sh) parts u (digF (hashF (tagB sh) p u msg)))) u m path).1 == p
set_option maxRecDepth 100000 in
set_option maxHeartbeats 1000000 in
theorem verify_ok {sh : List UInt8 → List UInt8} (hs : Sh sh) (p : List UInt8) (hp : p.length = 32) (m : Nat) (A : Option Addr) (n c : Nat) (msg : List UInt8) (hn : n ≤ 65536) (u : Nat) (B : Option Addr) (d : Nat) (parts : List (List UInt8)) (E : Option Addr) (e f : Nat) (path : List (List UInt8)) (D : Gh) (w : World) (hk : Keeps D w) (hT : Tab D)
    (hA : BS D (.slice A n c) msg) (hB : DS D (.slice B 67 d) parts) (hE : DS D (.slice E e f) path) (hm : m ≤ 256) (hu : u < m) :
    Calls Tryd.prog 37 #[.agg (darr p), .int .i64 m, .slice A n c, sigV u B 67 d E e f] w fun x w' => x = .returned (.bool (verF sh p m u msg parts path)) ∧ Below w.heap.size w w' := by
  have hP := Lib.hid hp
  have hS0 : B2 D w w.heap.size 26 (darr p) (w.heap.size + 1) 49 #[.int .i64 u, .slice B 67 d, .slice E e f] ((w.alloc (.cells (darr p) 26)).alloc (.cells #[.int .i64 u, .slice B 67 d, .slice E e f] 49)) := ⟨(by repeat (with_reducible first | assumption | refine Keeps.drew ?_ | refine Keeps.drewN ?_ _ | refine Keeps.alloc ?_ _ | exact Grow.keeps (by assumption))), (by repeat (first | (with_reducible exact Below.refl _ _) | (with_reducible refine Below.drew ?_) | (with_reducible refine belowDrewN ?_ _) | (with_reducible refine belowAlloc ?_ _) | ((with_reducible refine belowSet2 ?_ ?_); omega) | (with_reducible assumption) | (with_reducible refine belowVia (by assumption) ?_) | (with_reducible refine belowVia (Grow.below (by assumption)) ?_))), (Box.new2 hk rfl 26 (darr p)).alloc (.cells #[.int .i64 u, .slice B 67 d, .slice E e f] 49), Box.new2 (hk.alloc (.cells (darr p) 26)) (g := w.heap.size + 1) (by simp) 49 #[.int .i64 u, .slice B 67 d, .slice E e f]⟩
  have g1 : ¬ ((m : Int) < 1) := by omega
  have g2 : ¬ (256 < (m : Int)) := by omega
  have g3 : ¬ ((u : Int) < 0) := by omega
  have g4 : ¬ ((m : Int) ≤ (u : Int)) := by omega
  have g5 : ¬ (65536 < (n : Int)) := by omega
  have q0 := hS0.b2.cell 0
  have q1 := hS0.b2.cell 1
  have q2 := hS0.b2.cell 2
  go_enter Tryd.func37, Tryd.ntmps37
  go_wp2_with fail
  clear q0 q1 q2
  have hS0d := hS0.drew
  generalize (w.alloc (.cells (darr p) 26)).alloc (.cells #[.int .i64 u, .slice B 67 d, .slice E e f] 49) = W0 at *
  have HHC := Lib.hid (fun W hk => hash_c hs p hP.out u A n c msg hn D W hk hT hA)
  have HH32 := Lib.hid (show (hashF (tagB sh) p u msg).length = 32 from hs.len _)
  rw [dg_darr _ HH32.out] at HHC
  unfold dg at HHC
  have HDC := Lib.hid (fun W hk => digits_c _ HH32.out D W hk)
  rw [dg_darr _ HH32.out] at HDC
  have hl67 := Lib.hid (digF_len _ HH32.out)
  have HDR := Lib.hid (fun k hk => digF_range _ HH32.out k hk)
  have HVF := Lib.hid (show verF sh p m u msg parts path = (decide ((climbR sh (oneF (tagB sh) (openF (tagB sh) parts u (digF (hashF (tagB sh) p u msg)))) u m path).2 = 0) && (climbR sh (oneF (tagB sh) (openF (tagB sh) parts u (digF (hashF (tagB sh) p u msg)))) u m path).1 == p) from rfl)
  generalize digF (hashF (tagB sh) p u msg) = L at *
  have hls := lI_size L hl67.out
  have hfo := foldo (.int .i64 u) (.slice B 67 d) L hl67.out
  generalize hashF (tagB sh) p u msg = h at *
  have hu26 := Tryd.underlying26
  have hszr := sz26l p hP.out
  have SH : Hid (∀ W, B2 D w w.heap.size 26 (darr p) (w.heap.size + 1) 49 #[.int .i64 u, .slice B 67 d, .slice E e f] W → (B2 D w w.heap.size 26 (darr p) (w.heap.size + 1) 49 #[.int .i64 u, .slice B 67 d, .slice E e f] W ∧ W.rangeAt w.heap.size 0 (p.map bv) ∧ W.cell? ⟨w.heap.size + 1, 0, none⟩ = some (.int .i64 u) ∧ W.cell? ⟨w.heap.size + 1, 1, none⟩ = some (.slice B 67 d))) := fun W h => ⟨h, fun j v hv => by
    rw [Nat.zero_add, h.b1.cell, darr_full p hP.out]; simpa using hv, h.b2.cell 0, h.b2.cell 1⟩
  obtain ⟨O, hO⟩ : ∃ O, O = #[Value.int .i64 u, .slice B 67 d] ++ lI L := ⟨_, rfl⟩
  have hone69 : O.all (·.oneCell') = true := by
    rw [hO, Array.all_append, Bool.and_eq_true]
    refine ⟨by simp [Value.oneCell'], ?_⟩
    simp [lI]; intro x _; rfl
  have hO69 : O.size = 69 := by rw [hO]; simp [hls]
  have HST := Lib.hid (fun (X : World) (g9 : Nat) (hX : Box X D g9 88 Tryd.zeroCells88) => store_run88 hX O hO69 hone69)
  rw [← hO] at hfo
  have HO := Lib.hid hO
  have HO69 := Lib.hid hO69
  have HONE := Lib.hid hone69
  clear hO hO69 hone69
  go_cut [9] (fun x wx => ∃ g9 : Nat, x = .pointer (some ⟨g9, 0, none⟩) ∧ B2 D w w.heap.size 26 (darr p) (w.heap.size + 1) 49 #[.int .i64 u, .slice B 67 d, .slice E e f] wx ∧ Box wx D g9 88 O)
  case rest =>
    obtain ⟨g9, rfl, hB2, hB9⟩ := hcut
    clear HHC HDC HST hfo hls hS0 hS0d
    obtain ⟨OL, hOL⟩ : ∃ OL : List Value, O = OL.toArray := ⟨O.toList, by simp⟩
    have HOP := Lib.hid (fun j W (hj : j < 67) hk => open_c hs u B d L hl67.out parts O HO.out D hT hB j hj (HDR.out j (by omega)).1 (HDR.out j (by omega)).2 W hk)
    have HONE := Lib.hid (fun W hk => one76_c hs (.agg O) (openF (tagB sh) parts u L) (openF_len _ _ _ _) (fun j hj => by rw [openF_at _ _ _ _ _ hj]; exact adv_len hs _ _ _ _ _ (by
      have hl : j < parts.length := by have := hB.len.1; omega
      rw [List.getD_eq_getElem?_getD, List.getElem?_eq_getElem hl]
      exact hB.1 _ (List.getElem_mem hl))) D W hk hT (fun j W' hj hk' => by rw [openF_at _ _ _ _ _ hj]; exact HOP.out j W' hj hk'))
    have ho32 := Lib.hid (show (oneF (tagB sh) (openF (tagB sh) parts u L)).length = 32 from hs.len _)
    generalize oneF (tagB sh) (openF (tagB sh) parts u L) = one at *
    have HCL := Lib.hid (fun W hk => climbR_c hs one ho32.out u m E e f path D W hk hT hE)
    have hc32 := Lib.hid (climbR_len hs one u m path)
    generalize (climbR sh one u m path).2 = c2 at *
    generalize (climbR sh one u m path).1 = c1 at *
    rw [dg_darr one ho32.out] at HONE HCL
    rw [dg_darr c1 hc32.out] at HCL
    have hsz9 : (Tryd.prog.info? 88).map (·.size) = some OL.length := by
      rw [show OL.length = 69 by have := HO69.out; rw [hOL] at this; simpa using this]; kernel_rfl
    have hu88 := Tryd.underlying88
    subst hOL
    have hrow9 : Hid (∀ W, Box W D g9 88 OL.toArray → W.rangeAt g9 0 OL) := fun W h j v hv => by
      rw [Nat.zero_add, h.cell]; simpa using hv
    have hB2d := hB2.drew
    have hB9d := hB9.drew
    have SH : Hid (∀ W, B2 D w w.heap.size 26 (darr p) (w.heap.size + 1) 49 #[.int .i64 u, .slice B 67 d, .slice E e f] W → Box W D g9 88 OL.toArray → (W.rangeAt g9 0 OL ∧ W.cell? ⟨w.heap.size + 1, 0, none⟩ = some (.int .i64 u) ∧ W.cell? ⟨w.heap.size + 1, 2, none⟩ = some (.slice E e f))) := fun W h h9 => ⟨hrow9.out W h9, h.b2.cell 0, h.b2.cell 2⟩
    go_wp2_with fail
    go_cut [10, 11] (fun x y wx => ∃ g10 : Nat, x = .pointer (some ⟨g10, 0, none⟩) ∧ y = .int .i64 c2 ∧ Below w.heap.size w wx ∧ Box wx D w.heap.size 26 (darr p) ∧ Box wx D g10 26 (darr c1))
    case rest =>
      obtain ⟨g10, rfl, rfl, hbelX, hBp, hBc⟩ := hcut
      clear hB2 hB9 hB2d hB9d SH HONE HCL hrow9
      have heq : ∀ W, (Op.equalIn 10000 26 (.agg (darr c1)) (.agg (darr p))).run Tryd.prog W = .ok (c1 == p) W := fun W => eq26 c1 p hc32.out hP.out W
      have hsc := sz26 c1 hc32.out
      have hsp := sz26 p hP.out
      by_cases h0 : c2 = 0
      · subst h0
        go_wp2_with (first | ((with_reducible show wpList _ _ _ ((⟨_, .load 26 _, _, _, _, _⟩ : Oper) :: _) _ _); refine wpList_gload_row (by first | rfl | (simp [Region.wanted, yielded]; done)) 26 _ rfl (g10) rfl 26 _ (0, 0) _ (hBc.heap) Tryd.underlying26 rfl (hsc) ?_) | ((with_reducible show wpList _ _ _ ((⟨_, .load 26 _, _, _, _, _⟩ : Oper) :: _) _ _); refine wpList_gload_row (by first | rfl | (simp [Region.wanted, yielded]; done)) 26 _ rfl (w.heap.size) rfl 26 _ (0, 0) _ (hBp.heap) Tryd.underlying26 rfl (hsp) ?_))
        go_ret
        exact ⟨by rw [HVF.out]; simp, hbelX⟩
      · have hd0 : (c2 == 0) = false := by simpa using h0
        go_wp2
        go_ret
        exact ⟨by rw [HVF.out]; simp [h0], hbelX⟩
    refine wp_region_held_drew (S := fun W => W.rangeAt g9 0 OL ∧ W.cell? ⟨w.heap.size + 1, 0, none⟩ = some (.int .i64 u) ∧ W.cell? ⟨w.heap.size + 1, 2, none⟩ = some (.slice E e f)) (by kernel_rfl) (SH.out _ hB2d hB9d) (fun hHeld => ?_)
    refine wpAnyH_take (i := 0) (v := (.agg OL.toArray)) rfl (by kernel_rfl) (by kernel_rfl) (by kernel_rfl) (fun _ _ _ h => h) (yieldsIf_load_mid (by rfl) _ _ rfl _ _ rfl _ _ (fun w h => h.1) hu88 rfl hsz9) hHeld ?_
    simp only [Act.put, List.getElem_toArray, List.getElem_cons_zero, List.setIfInBounds_toArray, List.set_cons_zero, List.set_cons_succ]
    refine wpAnyH_take (i := 1) (v := ?_) rfl (by kernel_rfl) (by kernel_rfl) (by kernel_rfl) (fun _ _ _ h => h) (Or.inl ⟨by rfl, ?_⟩) hHeld ?_
    rotate_left
    · (intro wz hSw; (try dsimp only at hSw); go_simp; try with_reducible rfl)
    simp only [Act.put, List.getElem_toArray, List.getElem_cons_zero, List.getElem_cons_succ, List.setIfInBounds_toArray, List.set_cons_zero, List.set_cons_succ]
    refine wpAnyH_take (i := 3) (v := ?_) rfl (by kernel_rfl) (by kernel_rfl) (by kernel_rfl) (fun _ _ _ h => h) (Or.inl ⟨by rfl, ?_⟩) hHeld ?_
    rotate_left
    · (intro wz hSw; (try dsimp only at hSw); go_simp; try with_reducible rfl)
    simp only [Act.put, List.getElem_toArray, List.getElem_cons_zero, List.getElem_cons_succ, List.setIfInBounds_toArray, List.set_cons_zero, List.set_cons_succ]
    refine wpAnyH_take (i := 4) (v := ?_) rfl (by kernel_rfl) (by kernel_rfl) (by kernel_rfl) (fun _ _ _ h => h) (Or.inl ⟨by rfl, ?_⟩) hHeld ?_
    rotate_left
    · (intro wz hSw; (try dsimp only at hSw); go_simp; try with_reducible rfl)
    simp only [Act.put, List.getElem_toArray, List.getElem_cons_zero, List.getElem_cons_succ, List.setIfInBounds_toArray, List.set_cons_zero, List.set_cons_succ]
    refine wpAnyH_take (i := 5) (v := ?_) rfl (by kernel_rfl) (by kernel_rfl) (by kernel_rfl) (fun _ _ _ h => h) (Or.inl ⟨by rfl, ?_⟩) hHeld ?_
    rotate_left
    · (intro wz hSw; (try dsimp only at hSw); go_simp; try with_reducible rfl)
    simp only [Act.put, List.getElem_toArray, List.getElem_cons_zero, List.getElem_cons_succ, List.setIfInBounds_toArray, List.set_cons_zero, List.set_cons_succ]
    refine wpAnyH_take (i := 6) (v := ?_) rfl (by kernel_rfl) (by kernel_rfl) (by kernel_rfl) (fun _ _ _ h => h) (Or.inl ⟨by rfl, ?_⟩) hHeld ?_
    rotate_left
    · (intro wz hSw; (try dsimp only at hSw); go_simp; try with_reducible rfl)
    simp only [Act.put, List.getElem_toArray, List.getElem_cons_zero, List.getElem_cons_succ, List.setIfInBounds_toArray, List.set_cons_zero, List.set_cons_succ]
    refine wpAnyH_take (i := 7) (v := ?_) rfl (by kernel_rfl) (by kernel_rfl) (by kernel_rfl) (fun _ _ _ h => h) (Or.inl ⟨by rfl, ?_⟩) hHeld ?_
    rotate_left
    · (intro wz hSw; (try dsimp only at hSw); go_simp; try with_reducible rfl)
    simp only [Act.put, List.getElem_toArray, List.getElem_cons_zero, List.getElem_cons_succ, List.setIfInBounds_toArray, List.set_cons_zero, List.set_cons_succ]
    refine wpAnyH_ready (rs := [2, 12]) (by kernel_rfl) (by simp) (AllReadyH.cons rfl (fun K' hK => ?_) (AllReadyH.cons rfl (fun K' hK => ?_) AllReadyH.nil))
    · go_simp
      go_wp2_with ((go_at_call 75; refine (HONE.out _ hB2d.keeps).mono ?_; rintro e w1 ⟨rfl, hb1⟩))
      have hB2e := hB2d.call hb1
      have hB9e := hB9d.below hb1 hB9d.lt
      refine hK.out _ _ (SH.out _ hB2e hB9e) (fun hHeld => ?_)
      clear hK K'
      refine wpAnyH_ready (rs := [8, 12]) (by kernel_rfl) (by simp) (AllReadyH.cons rfl (fun K' hK => ?_) (AllReadyH.cons rfl (fun K' hK => ?_) AllReadyH.nil))
      · go_simp
        go_wp2_with ((go_at_call 28; refine (HCL.out _ hB2e.keeps).mono ?_; rintro e w2 ⟨rfl, hb2⟩))
        have hB2f := hB2e.call hb2
        have hB9f := hB9e.below hb2 hB9e.lt
        refine hK.out _ _ (SH.out _ hB2f hB9f) (fun hHeld => ?_)
        clear hK K'
        refine wpAnyH_take (i := 9) (v := ?_) rfl (by kernel_rfl) (by kernel_rfl) (by kernel_rfl) (fun _ _ _ h => h) (Or.inl ⟨by rfl, ?_⟩) hHeld ?_
        rotate_left
        · (intro wz hSw; (try dsimp only at hSw); go_simp; try with_reducible rfl)
        simp only [Act.put, List.getElem_toArray, List.getElem_cons_zero, List.getElem_cons_succ, List.setIfInBounds_toArray, List.set_cons_zero, List.set_cons_succ]
        refine wpAnyH_take (i := 10) (v := ?_) rfl (by kernel_rfl) (by kernel_rfl) (by kernel_rfl) (fun _ _ _ h => h) (Or.inl ⟨by rfl, ?_⟩) hHeld ?_
        rotate_left
        · (intro wz hSw; (try dsimp only at hSw); go_simp; try with_reducible rfl)
        simp only [Act.put, List.getElem_toArray, List.getElem_cons_zero, List.getElem_cons_succ, List.setIfInBounds_toArray, List.set_cons_zero, List.set_cons_succ]
        refine wpAnyH_take (i := 11) (v := ?_) rfl (by kernel_rfl) (by kernel_rfl) (by kernel_rfl) (fun _ _ _ h => h) (Or.inl ⟨by rfl, ?_⟩) hHeld ?_
        rotate_left
        · (intro wz hSw; (try dsimp only at hSw); go_simp; try with_reducible rfl)
        simp only [Act.put, List.getElem_toArray, List.getElem_cons_zero, List.getElem_cons_succ, List.setIfInBounds_toArray, List.set_cons_zero, List.set_cons_succ]
        refine wpAnyH_ready (rs := [12]) (by kernel_rfl) (by simp) (AllReadyH.cons rfl (fun K' hK => ?_) AllReadyH.nil)
        go_simp
        have hg2 := hB2f.b2.lt
        have hg9 := hB9f.lt
        have hB10 : Box (w2.alloc (.cells (darr []) 26)) D w2.heap.size 26 (darr []) := Box.new hB2f.keeps 26 (darr [])
        have hBB := hB2f.alloc (.cells (darr []) 26)
        have hB9B := hB9f.alloc (.cells (darr []) 26)
        have hl1 := hB2f.b1.lt
        have hl3 := hB2f.below.size
        refine hK.out _ _ (SH.out _ hBB hB9B) (fun hHeld => ?_)
        clear hK K'
        change wpAnyH _ _ _ _ _ _ _ _ (w2.alloc (.cells (darr []) 26))
        generalize w2.alloc (.cells (darr []) 26) = X at *
        have hst := store_run hB10 hc32.out
        have hs32 : (darr c1).size = 32 := darr_size c1 (by rw [hc32.out]; omega)
        refine wpAnyH_ready (rs := [13]) (by kernel_rfl) (by simp) (AllReadyH.cons rfl (fun K' hK => ?_) AllReadyH.nil)
        go_simp
        refine hK.out _ _ (SH.out _ (hBB.row (by omega) (by omega) (by omega) hB10.off _) (hB9B.farRow (by omega) _)) (fun hHeld => ?_)
        clear hK K' hst
        refine wpAnyH_ready (rs := [14]) (by kernel_rfl) (by simp) (AllReadyH.cons rfl (fun K' hK => ?_) AllReadyH.nil)
        go_simp
        refine hK.out _ _ hHeld (fun hHeld => ?_)
        clear hK K'
        refine wpAnyH_done (by kernel_rfl) ?_ _
        go_wp2_with fail
        go_meet
        exact ⟨_, rfl, rfl, belowRow hBB.below (by omega) _, hBB.b1.farRow (by omega) _, hB10.setRow _⟩
      · go_simp
        have hg2 := hB2e.b2.lt
        have hg9 := hB9e.lt
        have hB10 : Box (w1.alloc (.cells (darr []) 26)) D w1.heap.size 26 (darr []) := Box.new hB2e.keeps 26 (darr [])
        have hBB := hB2e.alloc (.cells (darr []) 26)
        have hB9B := hB9e.alloc (.cells (darr []) 26)
        have hl1 := hB2e.b1.lt
        have hl3 := hB2e.below.size
        refine hK.out _ _ (SH.out _ hBB hB9B) (fun hHeld => ?_)
        clear hK K'
        change wpAnyH _ _ _ _ _ _ _ _ (w1.alloc (.cells (darr []) 26))
        generalize w1.alloc (.cells (darr []) 26) = X1 at *
        refine wpAnyH_ready (rs := [8]) (by kernel_rfl) (by simp) (AllReadyH.cons rfl (fun K' hK => ?_) AllReadyH.nil)
        go_simp
        go_wp2_with ((go_at_call 28; refine (HCL.out _ hBB.keeps).mono ?_; rintro e w2 ⟨rfl, hb2⟩))
        replace hBB := hBB.call hb2
        replace hB9B := hB9B.below hb2 hB9B.lt
        replace hB10 := hB10.below hb2 hB10.lt
        refine hK.out _ _ (SH.out _ hBB hB9B) (fun hHeld => ?_)
        clear hK K'
        refine wpAnyH_take (i := 9) (v := ?_) rfl (by kernel_rfl) (by kernel_rfl) (by kernel_rfl) (fun _ _ _ h => h) (Or.inl ⟨by rfl, ?_⟩) hHeld ?_
        rotate_left
        · (intro wz hSw; (try dsimp only at hSw); go_simp; try with_reducible rfl)
        simp only [Act.put, List.getElem_toArray, List.getElem_cons_zero, List.getElem_cons_succ, List.setIfInBounds_toArray, List.set_cons_zero, List.set_cons_succ]
        refine wpAnyH_take (i := 10) (v := ?_) rfl (by kernel_rfl) (by kernel_rfl) (by kernel_rfl) (fun _ _ _ h => h) (Or.inl ⟨by rfl, ?_⟩) hHeld ?_
        rotate_left
        · (intro wz hSw; (try dsimp only at hSw); go_simp; try with_reducible rfl)
        simp only [Act.put, List.getElem_toArray, List.getElem_cons_zero, List.getElem_cons_succ, List.setIfInBounds_toArray, List.set_cons_zero, List.set_cons_succ]
        refine wpAnyH_take (i := 11) (v := ?_) rfl (by kernel_rfl) (by kernel_rfl) (by kernel_rfl) (fun _ _ _ h => h) (Or.inl ⟨by rfl, ?_⟩) hHeld ?_
        rotate_left
        · (intro wz hSw; (try dsimp only at hSw); go_simp; try with_reducible rfl)
        simp only [Act.put, List.getElem_toArray, List.getElem_cons_zero, List.getElem_cons_succ, List.setIfInBounds_toArray, List.set_cons_zero, List.set_cons_succ]
        have hst := store_run hB10 hc32.out
        have hs32 : (darr c1).size = 32 := darr_size c1 (by rw [hc32.out]; omega)
        refine wpAnyH_ready (rs := [13]) (by kernel_rfl) (by simp) (AllReadyH.cons rfl (fun K' hK => ?_) AllReadyH.nil)
        go_simp
        refine hK.out _ _ (SH.out _ (hBB.row (by omega) (by omega) (by omega) hB10.off _) (hB9B.farRow (by omega) _)) (fun hHeld => ?_)
        clear hK K' hst
        refine wpAnyH_ready (rs := [14]) (by kernel_rfl) (by simp) (AllReadyH.cons rfl (fun K' hK => ?_) AllReadyH.nil)
        go_simp
        refine hK.out _ _ hHeld (fun hHeld => ?_)
        clear hK K'
        refine wpAnyH_done (by kernel_rfl) ?_ _
        go_wp2_with fail
        go_meet
        exact ⟨_, rfl, rfl, belowRow hBB.below (by omega) _, hBB.b1.farRow (by omega) _, hB10.setRow _⟩
    · go_simp
      have hg2 := hB2.b2.lt
      have hg9 := hB9.lt
      have hB10 : Box (wc.alloc (.cells (darr []) 26)).drew D wc.heap.size 26 (darr []) := (Box.new hB2.keeps 26 (darr [])).drew
      have hBB := (hB2.alloc (.cells (darr []) 26)).drew
      have hB9B := (hB9.alloc (.cells (darr []) 26)).drew
      have hl1 := hB2.b1.lt
      have hl3 := hB2.below.size
      refine hK.out _ _ (SH.out _ hBB hB9B) (fun hHeld => ?_)
      clear hK K'
      change wpAnyH _ _ _ _ _ _ _ _ (wc.alloc (.cells (darr []) 26)).drew
      generalize (wc.alloc (.cells (darr []) 26)).drew = X0 at *
      refine wpAnyH_ready (rs := [2]) (by kernel_rfl) (by simp) (AllReadyH.cons rfl (fun K' hK => ?_) AllReadyH.nil)
      go_simp
      go_wp2_with ((go_at_call 75; refine (HONE.out _ hBB.keeps).mono ?_; rintro e w1 ⟨rfl, hb1⟩))
      replace hBB := hBB.call hb1
      replace hB9B := hB9B.below hb1 hB9B.lt
      replace hB10 := hB10.below hb1 hB10.lt
      refine hK.out _ _ (SH.out _ hBB hB9B) (fun hHeld => ?_)
      clear hK K'
      refine wpAnyH_ready (rs := [8]) (by kernel_rfl) (by simp) (AllReadyH.cons rfl (fun K' hK => ?_) AllReadyH.nil)
      go_simp
      go_wp2_with ((go_at_call 28; refine (HCL.out _ hBB.keeps).mono ?_; rintro e w2 ⟨rfl, hb2⟩))
      replace hBB := hBB.call hb2
      replace hB9B := hB9B.below hb2 hB9B.lt
      replace hB10 := hB10.below hb2 hB10.lt
      refine hK.out _ _ (SH.out _ hBB hB9B) (fun hHeld => ?_)
      clear hK K'
      refine wpAnyH_take (i := 9) (v := ?_) rfl (by kernel_rfl) (by kernel_rfl) (by kernel_rfl) (fun _ _ _ h => h) (Or.inl ⟨by rfl, ?_⟩) hHeld ?_
      rotate_left
      · (intro wz hSw; (try dsimp only at hSw); go_simp; try with_reducible rfl)
      simp only [Act.put, List.getElem_toArray, List.getElem_cons_zero, List.getElem_cons_succ, List.setIfInBounds_toArray, List.set_cons_zero, List.set_cons_succ]
      refine wpAnyH_take (i := 10) (v := ?_) rfl (by kernel_rfl) (by kernel_rfl) (by kernel_rfl) (fun _ _ _ h => h) (Or.inl ⟨by rfl, ?_⟩) hHeld ?_
      rotate_left
      · (intro wz hSw; (try dsimp only at hSw); go_simp; try with_reducible rfl)
      simp only [Act.put, List.getElem_toArray, List.getElem_cons_zero, List.getElem_cons_succ, List.setIfInBounds_toArray, List.set_cons_zero, List.set_cons_succ]
      refine wpAnyH_take (i := 11) (v := ?_) rfl (by kernel_rfl) (by kernel_rfl) (by kernel_rfl) (fun _ _ _ h => h) (Or.inl ⟨by rfl, ?_⟩) hHeld ?_
      rotate_left
      · (intro wz hSw; (try dsimp only at hSw); go_simp; try with_reducible rfl)
      simp only [Act.put, List.getElem_toArray, List.getElem_cons_zero, List.getElem_cons_succ, List.setIfInBounds_toArray, List.set_cons_zero, List.set_cons_succ]
      have hst := store_run hB10 hc32.out
      have hs32 : (darr c1).size = 32 := darr_size c1 (by rw [hc32.out]; omega)
      refine wpAnyH_ready (rs := [13]) (by kernel_rfl) (by simp) (AllReadyH.cons rfl (fun K' hK => ?_) AllReadyH.nil)
      go_simp
      refine hK.out _ _ (SH.out _ (hBB.row (by omega) (by omega) (by omega) hB10.off _) (hB9B.farRow (by omega) _)) (fun hHeld => ?_)
      clear hK K' hst
      refine wpAnyH_ready (rs := [14]) (by kernel_rfl) (by simp) (AllReadyH.cons rfl (fun K' hK => ?_) AllReadyH.nil)
      go_simp
      refine hK.out _ _ hHeld (fun hHeld => ?_)
      clear hK K'
      refine wpAnyH_done (by kernel_rfl) ?_ _
      go_wp2_with fail
      go_meet
      exact ⟨_, rfl, rfl, belowRow hBB.below (by omega) _, hBB.b1.farRow (by omega) _, hB10.setRow _⟩
  refine wp_region_held_drew (S := fun W => B2 D w w.heap.size 26 (darr p) (w.heap.size + 1) 49 #[.int .i64 u, .slice B 67 d, .slice E e f] W ∧ W.rangeAt w.heap.size 0 (p.map bv) ∧ W.cell? ⟨w.heap.size + 1, 0, none⟩ = some (.int .i64 u) ∧ W.cell? ⟨w.heap.size + 1, 1, none⟩ = some (.slice B 67 d)) (by kernel_rfl) (SH.out _ hS0d) (fun hHeld => ?_)
  refine wpAnyH_take (i := 0) (v := ?_) rfl (by kernel_rfl) (by kernel_rfl) (by kernel_rfl) (fun _ _ _ h => h) (Or.inl ⟨by rfl, ?_⟩) hHeld ?_
  rotate_left
  · (intro wz hSw; (try dsimp only at hSw); go_simp; try with_reducible rfl)
  simp only [Act.put, List.getElem_toArray, List.getElem_cons_zero, List.setIfInBounds_toArray, List.set_cons_zero, List.set_cons_succ]
  refine wpAnyH_take (i := 1) (v := ?_) rfl (by kernel_rfl) (by kernel_rfl) (by kernel_rfl) (fun _ _ _ h => h) (Or.inl ⟨by rfl, ?_⟩) hHeld ?_
  rotate_left
  · (intro wz hSw; (try dsimp only at hSw); go_simp; try with_reducible rfl)
  simp only [Act.put, List.getElem_toArray, List.getElem_cons_zero, List.getElem_cons_succ, List.setIfInBounds_toArray, List.set_cons_zero, List.set_cons_succ]
  refine wpAnyH_take (i := 2) (v := ?_) rfl (by kernel_rfl) (by kernel_rfl) (by kernel_rfl) (fun _ _ _ h => h) (Or.inl ⟨by rfl, ?_⟩) hHeld ?_
  rotate_left
  · (intro wz hSw; (try dsimp only at hSw); go_simp; try with_reducible rfl)
  simp only [Act.put, List.getElem_toArray, List.getElem_cons_zero, List.getElem_cons_succ, List.setIfInBounds_toArray, List.set_cons_zero, List.set_cons_succ]
  refine wpAnyH_take (i := 3) (v := ?_) rfl (by kernel_rfl) (by kernel_rfl) (by kernel_rfl) (fun _ _ _ h => h) (Or.inl ⟨by rfl, ?_⟩) hHeld ?_
  rotate_left
  · (intro wz hSw; (try dsimp only at hSw); go_simp; try with_reducible rfl)
  simp only [Act.put, List.getElem_toArray, List.getElem_cons_zero, List.getElem_cons_succ, List.setIfInBounds_toArray, List.set_cons_zero, List.set_cons_succ]
  refine wpAnyH_take (i := 4) (v := (.agg (p.map bv).toArray)) rfl (by kernel_rfl) (by kernel_rfl) (by kernel_rfl) (fun _ _ _ h => h) (yieldsIf_load_mid (by rfl) _ _ rfl _ _ rfl _ _ (fun w h => h.2.1) hu26 rfl hszr) hHeld ?_
  simp only [Act.put, List.getElem_toArray, List.getElem_cons_zero, List.getElem_cons_succ, List.setIfInBounds_toArray, List.set_cons_zero, List.set_cons_succ]
  refine wpAnyH_take (i := 5) (v := ?_) rfl (by kernel_rfl) (by kernel_rfl) (by kernel_rfl) (fun _ _ _ h => h) (Or.inl ⟨by rfl, ?_⟩) hHeld ?_
  rotate_left
  · (intro wz hSw; (try dsimp only at hSw); go_simp; try with_reducible rfl)
  simp only [Act.put, List.getElem_toArray, List.getElem_cons_zero, List.getElem_cons_succ, List.setIfInBounds_toArray, List.set_cons_zero, List.set_cons_succ]
  refine wpAnyH_take (i := 6) (v := ?_) rfl (by kernel_rfl) (by kernel_rfl) (by kernel_rfl) (fun _ _ _ h => h) (Or.inl ⟨by rfl, ?_⟩) hHeld ?_
  rotate_left
  · (intro wz hSw; (try dsimp only at hSw); go_simp; try with_reducible rfl)
  simp only [Act.put, List.getElem_toArray, List.getElem_cons_zero, List.getElem_cons_succ, List.setIfInBounds_toArray, List.set_cons_zero, List.set_cons_succ]
  refine wpAnyH_take (i := 7) (v := ?_) rfl (by kernel_rfl) (by kernel_rfl) (by kernel_rfl) (fun _ _ _ h => h) (Or.inl ⟨by rfl, ?_⟩) hHeld ?_
  rotate_left
  · (intro wz hSw; (try dsimp only at hSw); go_simp; try with_reducible rfl)
  simp only [Act.put, List.getElem_toArray, List.getElem_cons_zero, List.getElem_cons_succ, List.setIfInBounds_toArray, List.set_cons_zero, List.set_cons_succ]
  refine wpAnyH_ready (rs := [8, 11]) (by kernel_rfl) (by simp) (AllReadyH.cons rfl (fun K' hK => ?_) (AllReadyH.cons rfl (fun K' hK => ?_) AllReadyH.nil))
  · go_simp
    go_wp2_with ((go_at_call 68; refine (HHC.out _ hHeld.1.keeps).mono ?_; rintro e w1 ⟨rfl, hb1⟩))
    refine hK.out _ _ (SH.out _ (hHeld.1.call hb1)) (fun hHeld => ?_)
    clear hK K'
    refine wpAnyH_ready (rs := [9, 11]) (by kernel_rfl) (by simp) (AllReadyH.cons rfl (fun K' hK => ?_) (AllReadyH.cons rfl (fun K' hK => ?_) AllReadyH.nil))
    · go_simp
      go_wp2_with ((go_at_call 67; refine (HDC.out _ hHeld.1.keeps).mono ?_; rintro e w2 ⟨rfl, hb2⟩))
      refine hK.out _ _ (SH.out _ (hHeld.1.call hb2)) (fun hHeld => ?_)
      clear hK K'
      refine wpAnyH_take (i := 10) (v := ?_) rfl (by kernel_rfl) (by kernel_rfl) (by kernel_rfl) (fun _ _ _ h => h) (Or.inl ⟨by rfl, ?_⟩) hHeld ?_
      rotate_left
      · (intro wz hSw; (try dsimp only at hSw); go_simp; try with_reducible rfl)
      simp only [Act.put, List.getElem_toArray, List.getElem_cons_zero, List.getElem_cons_succ, List.setIfInBounds_toArray, List.set_cons_zero, List.set_cons_succ]
      refine wpAnyH_ready (rs := [11]) (by kernel_rfl) (by simp) (AllReadyH.cons rfl (fun K' hK => ?_) AllReadyH.nil)
      go_simp
      have hb9 := Box.new hHeld.1.keeps 88 Tryd.zeroCells88
      have hl1 := hHeld.1.b1.lt
      have hl2 := hHeld.1.b2.lt
      have hl3 := hHeld.1.below.size
      refine hK.out _ _ (SH.out _ (hHeld.1.alloc _)) (fun hHeld => ?_)
      clear hK K'
      have hst := HST.out _ _ hb9
      have hos := HO69.out
      refine wpAnyH_ready (rs := [12]) (by kernel_rfl) (by simp) (AllReadyH.cons rfl (fun K' hK => ?_) AllReadyH.nil)
      go_simp
      refine hK.out _ _ (SH.out _ (hHeld.1.row (by omega) (by omega) (by omega) hb9.off O)) (fun hHeld => ?_)
      clear hK K' hst
      have hb9r := hb9.setRow O
      refine wpAnyH_done (by kernel_rfl) ?_ _
      go_wp2_with fail
      go_meet
      exact ⟨_, rfl, hHeld.1, hb9r⟩
    · go_simp
      have hb9 := Box.new hHeld.1.keeps 88 Tryd.zeroCells88
      have hl1 := hHeld.1.b1.lt
      have hl2 := hHeld.1.b2.lt
      have hl3 := hHeld.1.below.size
      refine hK.out _ _ (SH.out _ (hHeld.1.alloc _)) (fun hHeld => ?_)
      clear hK K'
      refine wpAnyH_ready (rs := [9]) (by kernel_rfl) (by simp) (AllReadyH.cons rfl (fun K' hK => ?_) AllReadyH.nil)
      go_simp
      go_wp2_with ((go_at_call 67; refine (HDC.out _ hHeld.1.keeps).mono ?_; rintro e w2 ⟨rfl, hb2⟩))
      refine hK.out _ _ (SH.out _ (hHeld.1.call hb2)) (fun hHeld => ?_)
      clear hK K'
      replace hb9 := hb9.below hb2 hb9.lt
      refine wpAnyH_take (i := 10) (v := ?_) rfl (by kernel_rfl) (by kernel_rfl) (by kernel_rfl) (fun _ _ _ h => h) (Or.inl ⟨by rfl, ?_⟩) hHeld ?_
      rotate_left
      · (intro wz hSw; (try dsimp only at hSw); go_simp; try with_reducible rfl)
      simp only [Act.put, List.getElem_toArray, List.getElem_cons_zero, List.getElem_cons_succ, List.setIfInBounds_toArray, List.set_cons_zero, List.set_cons_succ]
      have hst := HST.out _ _ hb9
      have hos := HO69.out
      refine wpAnyH_ready (rs := [12]) (by kernel_rfl) (by simp) (AllReadyH.cons rfl (fun K' hK => ?_) AllReadyH.nil)
      go_simp
      refine hK.out _ _ (SH.out _ (hHeld.1.row (by omega) (by omega) (by omega) hb9.off O)) (fun hHeld => ?_)
      clear hK K' hst
      have hb9r := hb9.setRow O
      refine wpAnyH_done (by kernel_rfl) ?_ _
      go_wp2_with fail
      go_meet
      exact ⟨_, rfl, hHeld.1, hb9r⟩
  · go_simp
    have hb9 : Box (W0.alloc (.cells Tryd.zeroCells88 88)).drew D W0.heap.size 88 Tryd.zeroCells88 := (Box.new hS0.keeps 88 Tryd.zeroCells88).drew
    have hl1 := hS0.b1.lt
    have hl2 := hS0.b2.lt
    have hl3 := hS0.below.size
    refine hK.out _ _ (SH.out _ (hS0.alloc _).drew) (fun hHeld => ?_)
    clear hK K'
    refine wpAnyH_ready (rs := [8]) (by kernel_rfl) (by simp) (AllReadyH.cons rfl (fun K' hK => ?_) AllReadyH.nil)
    go_simp
    go_wp2_with ((go_at_call 68; refine (HHC.out _ hHeld.1.keeps).mono ?_; rintro e w1 ⟨rfl, hb1⟩))
    refine hK.out _ _ (SH.out _ (hHeld.1.call hb1)) (fun hHeld => ?_)
    clear hK K'
    replace hb9 := hb9.below hb1 hb9.lt
    refine wpAnyH_ready (rs := [9]) (by kernel_rfl) (by simp) (AllReadyH.cons rfl (fun K' hK => ?_) AllReadyH.nil)
    go_simp
    go_wp2_with ((go_at_call 67; refine (HDC.out _ hHeld.1.keeps).mono ?_; rintro e w2 ⟨rfl, hb2⟩))
    refine hK.out _ _ (SH.out _ (hHeld.1.call hb2)) (fun hHeld => ?_)
    clear hK K'
    replace hb9 := hb9.below hb2 hb9.lt
    refine wpAnyH_take (i := 10) (v := ?_) rfl (by kernel_rfl) (by kernel_rfl) (by kernel_rfl) (fun _ _ _ h => h) (Or.inl ⟨by rfl, ?_⟩) hHeld ?_
    rotate_left
    · (intro wz hSw; (try dsimp only at hSw); go_simp; try with_reducible rfl)
    simp only [Act.put, List.getElem_toArray, List.getElem_cons_zero, List.getElem_cons_succ, List.setIfInBounds_toArray, List.set_cons_zero, List.set_cons_succ]
    have hst := HST.out _ _ hb9
    have hos := HO69.out
    refine wpAnyH_ready (rs := [12]) (by kernel_rfl) (by simp) (AllReadyH.cons rfl (fun K' hK => ?_) AllReadyH.nil)
    go_simp
    refine hK.out _ _ (SH.out _ (hHeld.1.row (by omega) (by omega) (by omega) hb9.off O)) (fun hHeld => ?_)
    clear hK K' hst
    have hb9r := hb9.setRow O
    refine wpAnyH_done (by kernel_rfl) ?_ _
    go_wp2_with fail
    go_meet
    exact ⟨_, rfl, hHeld.1, hb9r⟩
end Go.Proofs.YtohknemfcohhfaaDoor
