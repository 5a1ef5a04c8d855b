/-
  What is proved here: Tree.
-/
import Derived.Test.YtohknemfcohhfaaDoorRows
import Derived.Test.YtohknemfcohhfaaDoorBaseC
import Derived.Test.YtohknemfcohhfaaDoorSha
import Derived.Test.YtohknemfcohhfaaDoorDigA
import Derived.Test.YtohknemfcohhfaaDoorDigC
import Derived.Test.YtohknemfcohhfaaDoorDigD
import Derived.Test.YtohknemfcohhfaaDoorDigE
import Derived.Test.YtohknemfcohhfaaDoorDigF
import Derived.Test.YtohknemfcohhfaaDoorDigG
import Derived.Test.YtohknemfcohhfaaDoorDigH
import Derived.Test.YtohknemfcohhfaaDoorDigI
import Derived.Test.YtohknemfcohhfaaDoorTree
import Derived.Test.YtohknemfcohhfaaDoorShelf
import Derived.Lib.ConvBytes
import Derived.StillTailTactics
import Derived.Lib.AppendZerosOnto
import Derived.Deep.RegionHeld3
import Derived.Deep.MidRow
import Derived.Deep.RegionLaw
import Derived.Deep.DeepCutAuto
import Derived.Deep.QuietTactic
import Derived.BigQuiet
import Derived.Laws.EntriesVeiled
namespace Go.Proofs.YtohknemfcohhfaaDoor
open Go.RowKit Go.VS
/-- a store of a whole digest into a variable, as a region's walk meets it. -/
theorem store_run {w : World} {D : Gh} {g : Nat} {r : List UInt8} (hB : Box w D g 26 (darr [])) (hr : r.length = 32) : (storeCells ⟨g, 0, none⟩ (darr r).toList).run Tryd.prog w = .ok () (w.setRow g (darr r)) := by
  have h := run_storeVar_row (P := Tryd.prog) w g 26 26 (darr []) (darr r) hB.heap (sz26 r hr) (by rw [darr_size _ (by simp), darr_size _ (by omega)]) (darr_one _)
  have hs : (darr r).size = 32 := darr_size _ (by omega)
  cases hq : Tryd.prog.info? 26 with
  | none => have := sz26 r hr; rw [hq] at this; cases this
  | some i =>
    have hi : i.size = 32 := by have := sz26 r hr; rw [hq, hs] at this; simpa using this
    simpa [storeVar, sizeOf, typeInfo, hq, Value.cells, hs, hi] using h
theorem ds_range {D : Gh} {w : World} {a : Option Addr} {n c : Nat} {ds : List (List UInt8)} (h : DS D (.slice a n c) ds) (hk : Keeps D w) {k : Nat} (hlt : k < ds.length) :
    ∃ b o, a = some ⟨b, o, none⟩ ∧ ds[k].length = 32 ∧ w.rangeAt b (o + 32 * k) (ds[k].map bv) := h.at_ hk hlt
theorem sz26l (d : List UInt8) (h : d.length = 32) : (Tryd.prog.info? 26).map (·.size) = some (d.map bv).length := by rw [List.length_map, h]; kernel_rfl
theorem darr_eq (d : List UInt8) (h : d.length = 32) : Value.agg (d.map bv).toArray = .agg (darr d) := by rw [darr_full d h]
theorem info26s : (Tryd.prog.info? 26).map (·.size) = some 32 := by kernel_rfl
theorem run_slice_highN {P : Program} {t e : TypeId} {s : Nat} (ht : P.underlying t = some (.slice e)) (hi : (P.info? e).map (·.size) = some s) (a : Option Addr) (n c k : Nat) (hk : k ≤ c) (w : World) :
    (Instr.slice t (.slice a n c) none (some (.int .i64 k)) none).run P w = .ok (.slice a k c) w := by
  obtain ⟨i, hi'⟩ : ∃ i, P.info? e = some i := by
    cases h : P.info? e with
    | none => rw [h] at hi; cases hi
    | some i => exact ⟨i, rfl⟩
  rcases a with _ | ⟨b, o, p⟩
  · simp [Instr.slice, run_underlying ht, Instr.sliceBounds, Instr.sliceBound, asIntOf, hk, sizeOf, typeInfo, hi']
  · simp [Instr.slice, run_underlying ht, Instr.sliceBounds, Instr.sliceBound, asIntOf, hk, sizeOf, typeInfo, hi', Addr.add]
theorem run_slice_lowN {P : Program} {t e : TypeId} {s : Nat} (ht : P.underlying t = some (.slice e)) (hi : (P.info? e).map (·.size) = some s) (b o n c k : Nat) (hk : k ≤ n) (w : World) :
    (Instr.slice t (.slice (some ⟨b, o, none⟩) n c) (some (.int .i64 k)) none none).run P w = .ok (.slice (if c = k then some ⟨b, o, none⟩ else some ⟨b, o + k * s, none⟩) (n - k) (c - k)) w := by
  obtain ⟨i, hi', hs⟩ : ∃ i, P.info? e = some i ∧ i.size = s := by
    cases h : P.info? e with
    | none => rw [h] at hi; cases hi
    | some i => rw [h] at hi; exact ⟨i, rfl, by simpa using hi⟩
  simp [Instr.slice, run_underlying ht, Instr.sliceBounds, Instr.sliceBound, asIntOf, hk, sizeOf, typeInfo, hi', hs, Addr.add_lit]
/-- the tail of a list of digests. -/
theorem ds_tail {D : Gh} {b o n c k : Nat} {ds : List (List UInt8)} (h : DS D (.slice (some ⟨b, o, none⟩) n c) ds) (hk : k ≤ n) :
    ∃ Ad, (∀ w, (Instr.slice 30 (.slice (some ⟨b, o, none⟩) n c) (some (.int .i64 (k : Int))) none none).run Tryd.prog w = .ok (.slice Ad (n - k) (c - k)) w) ∧ DS D (.slice Ad (n - k) (c - k)) (ds.drop k) := by
  obtain ⟨hn, hnc, hcm⟩ := h.len
  refine ⟨_, fun w => run_slice_lowN Tryd.underlying30 info26s b o n c k hk w, ?_⟩
  by_cases hc : c = k
  · rw [if_pos hc]
    have e1 : n - k = 0 := by omega
    have e2 : ds.drop k = [] := List.drop_eq_nil_of_le (by omega)
    rw [e1, e2]
    exact ⟨fun d hd => by simp at hd, SlN.empty D 32 _ _ (by omega) (by simp)⟩
  · rw [if_neg hc]
    have := DS.drop h (k := k) (by omega)
    exact this
theorem ds_head {D : Gh} {a : Option Addr} {n c k : Nat} {ds : List (List UInt8)} (h : DS D (.slice a n c) ds) (hk : k ≤ n) :
    (∀ w, (Instr.slice 30 (.slice a n c) none (some (.int .i64 (k : Int))) none).run Tryd.prog w = .ok (.slice a k c) w) ∧ DS D (.slice a k c) (ds.take k) := by
  obtain ⟨hn, hnc, hcm⟩ := h.len
  exact ⟨fun w => run_slice_highN Tryd.underlying30 info26s a n c k (by omega) w, DS.take h (by omega)⟩
/-- the closure of Tree. -/
def foldV (g : Nat) : Value := .func (.func 53) #[] #[.pointer (some ⟨g, 0, none⟩)]
theorem treeF_len {sh : List UInt8 → List UInt8} (hs : Sh sh) (ds : List (List UInt8)) : (treeF (tagB sh) ds).length = 32 := by
  by_cases h : 2 ≤ ds.length
  · rw [treeF_two _ h]; exact hs.len _
  · match ds, h with
    | [], _ => rw [treeF_nil]; exact hs.len _
    | [d], _ => rw [treeF_one]; exact hs.len _
    | a :: b :: r, h => simp at h

set_option maxRecDepth 100000 in
set_option maxHeartbeats 1000000 in
theorem fold_c {sh : List UInt8 → List UInt8} (hs : Sh sh) : ∀ (m : Nat) (A : Option Addr) (n c g : Nat) (ds : List (List UInt8)) (D : Gh) (w : World), Keeps D w → Tab D → DS D (.slice A n c) ds → 1 ≤ n → n ≤ m → n ≤ 1000000 → D g 0 = some (foldV g) →
    Calls Tryd.prog 53 #[.slice A n c, .pointer (some ⟨g, 0, none⟩)] w fun e w' => e = .returned (dg (treeF (tagB sh) ds)) ∧ Below w.heap.size w w' := by
  intro m
  induction m with
  | zero => intro A n c g ds D w hk hT hd h1 hm; omega
  | succ m ih =>
    intro A n c g ds D w hk hT hd h1 hm hlim hg
    obtain ⟨hnl, hnc, hcm⟩ := hd.len
    unfold maxLen at hcm
    have HN := Lib.hid hnl
    clear hnl
    have hB := Box.new2 hk rfl 26 (darr [])
    have hk0 := hk.alloc (.cells (darr []) 26)
    obtain ⟨b, o, rfl, h32, hrange⟩ := ds_range hd hk0 (k := 0) (by rw [← HN.out]; omega)
    by_cases h2 : n = 1
    · subst h2
      obtain ⟨x, rfl⟩ : ∃ x, ds = [x] := by
        match ds, HN.out with
        | [x], _ => exact ⟨x, rfl⟩
      have htr : treeF (tagB sh) [x] = tagB sh leafT x := treeF_one _ _
      have HTR := Lib.hid htr
      clear htr
      simp only [List.getElem_cons_zero, Nat.mul_zero, Nat.add_zero] at h32 hrange
      have H32 := Lib.hid h32
      have hsz := sz26l x h32
      clear h32
      go_enter Tryd.func53, Tryd.ntmps53
      go_wp2_with (refine wpList_load_mid rfl 26 _ rfl b o rfl _ _ hrange Tryd.underlying26 rfl hsz ?_)
      refine (leaf_c hs x H32.out D _ hk0 hT).mono ?_
      rintro e w3 ⟨rfl, hb3⟩
      have hbelW : Below w.heap.size w (w.alloc (.cells (darr []) 26)) := (by repeat (first | (with_reducible exact Below.refl _ _) | (with_reducible refine Below.drew ?_) | (with_reducible refine belowDrewN ?_ _) | (with_reducible refine belowAlloc ?_ _) | ((with_reducible refine belowSet2 ?_ ?_); omega) | (with_reducible assumption) | (with_reducible refine belowVia (by assumption) ?_) | (with_reducible refine belowVia (Grow.below (by assumption)) ?_)))
      have hBlt : w.heap.size < (w.alloc (.cells (darr []) 26)).heap.size := by simp
      have hB4z := hB.below hb3 hBlt
      have hbel6 := belowVia hb3 hbelW
      have hr32 := Lib.hid (show (tagB sh leafT x).length = 32 from hs.len _)
      generalize hr : tagB sh leafT x = r at hr32 ⊢
      have HR := Lib.hid hr
      clear hr
      rw [dg_darr r hr32.out]
      have hsr : (darr []).size = (darr r).size := by rw [darr_size _ (by simp), darr_size _ (by rw [hr32.out]; omega)]
      have hsr26 := sz26 r hr32.out
      go_wp2_with (refine wpList_store_row rfl 26 _ _ rfl w.heap.size (darr r) rfl rfl 26 (darr []) hB4z.heap hsr26 hsr (darr_one _) ?_)
      refine bodyPost_ret (results_cell_row rfl _ _ _ _ _ _ _ rfl (hB4z.setRow _).heap Tryd.underlying26 rfl hsr26) rfl ⟨?_, belowRow hbel6 (by omega) _⟩
      rw [HTR.out, HR.out, dg_darr r hr32.out]
    · have hn2 : 2 ≤ n := by omega
      have hh1 := half_lt hn2
      have hh2 := half_pos n
      obtain ⟨hsl1, hds1⟩ := ds_head hd (k := half n) (by omega)
      obtain ⟨Ad, hsl2, hds2⟩ := ds_tail hd (k := half n) (by omega)
      have HTR := Lib.hid (show treeF (tagB sh) ds = tagB sh nodeT (treeF (tagB sh) (ds.take (half n)) ++ treeF (tagB sh) (ds.drop (half n))) by rw [HN.out]; exact treeF_two _ (by rw [← HN.out]; exact hn2))
      have hL1 := Lib.hid (treeF_len hs (ds.take (half n)))
      have hL2 := Lib.hid (treeF_len hs (ds.drop (half n)))
      have hbelW : Below w.heap.size w (w.alloc (.cells (darr []) 26)) := (by repeat (first | (with_reducible exact Below.refl _ _) | (with_reducible refine Below.drew ?_) | (with_reducible refine belowDrewN ?_ _) | (with_reducible refine belowAlloc ?_ _) | ((with_reducible refine belowSet2 ?_ ?_); omega) | (with_reducible assumption) | (with_reducible refine belowVia (by assumption) ?_) | (with_reducible refine belowVia (Grow.below (by assumption)) ?_)))
      have hsp := split_c n hn2 (by omega)
      have ih1 := fun W hk => ih _ _ _ g _ D W hk hT hds1 (by omega) (by omega) (by omega) hg
      have ih2 := fun W hk => ih _ _ _ g _ D W hk hT hds2 (by omega) (by omega) (by omega) hg
      generalize half n = k at *
      generalize treeF (tagB sh) (ds.take k) = r1 at *
      generalize treeF (tagB sh) (ds.drop k) = r2 at *
      have hne : ((n : Int) == 1) = false := by simp; omega
      clear hrange ih h32
      go_enter Tryd.func53, Tryd.ntmps53
      go_wp2_with fail
      refine (hsp _).mono ?_
      rintro e W ⟨rfl, hW⟩
      have hW' : w.alloc (.cells (darr []) 26) = W := hW
      rw [hW'] at hB hk0 hbelW
      clear hW hW' hsp
      have cg := hk0 g 0 _ hg
      unfold foldV at cg
      go_wp2_with fail
      have SH : Hid (∀ W, Keeps D W → W.cell? ⟨g, 0, none⟩ = some (.func (.func 53) #[] #[.pointer (some ⟨g, 0, none⟩)])) := fun W h => h g 0 _ hg
      have HR32 := Lib.hid (show (tagB sh nodeT (r1 ++ r2)).length = 32 from hs.len _)
      have HND := Lib.hid (fun W hk => node_c hs r1 r2 hL1.out hL2.out D W hk hT)
      have hBlt := hB.lt
      have hoff := hB.off
      generalize hr : tagB sh nodeT (r1 ++ r2) = r at HR32 HND
      have HR := Lib.hid hr
      clear hr
      rw [dg_darr r HR32.out] at HND
      have hsr26 := Lib.hid (sz26 r HR32.out)
      have hs32 : (darr r).size = 32 := darr_size _ (by rw [HR32.out]; omega)
      go_region_law (first | (go_simp; go_at_call_of 53 (Value.slice (some ⟨b, o, none⟩) k c); refine (ih1 _ (by repeat (with_reducible first | assumption | refine Keeps.drew ?_ | refine Keeps.drewN ?_ _ | refine Keeps.alloc ?_ _ | exact Grow.keeps (by assumption)))).mono ?_; rintro e w1 ⟨rfl, hb1⟩; have hk1 : Keeps D w1 := Keeps.below (by repeat (with_reducible first | assumption | refine Keeps.drew ?_ | refine Keeps.drewN ?_ _ | refine Keeps.alloc ?_ _ | exact Grow.keeps (by assumption))) hb1 (Nat.le_refl _); have cg1 := SH.out _ hk1; have hB1 : Box w1 D w.heap.size 26 (darr []) := Box.below (by (repeat (with_reducible first | assumption | refine Box.drew ?_ | refine Box.alloc ?_ _)); done) hb1 (by first | exact hBlt | omega | (simp; omega)); have hbel1 : Below w.heap.size w w1 := belowVia hb1 (by repeat (first | (with_reducible exact Below.refl _ _) | (with_reducible refine Below.drew ?_) | (with_reducible refine belowDrewN ?_ _) | (with_reducible refine belowAlloc ?_ _) | ((with_reducible refine belowSet2 ?_ ?_); omega) | (with_reducible assumption) | (with_reducible refine belowVia (by assumption) ?_) | (with_reducible refine belowVia (Grow.below (by assumption)) ?_)))) | (go_simp; go_at_call_of 53 (Value.slice Ad (n - k) (c - k)); refine (ih2 _ (by repeat (with_reducible first | assumption | refine Keeps.drew ?_ | refine Keeps.drewN ?_ _ | refine Keeps.alloc ?_ _ | exact Grow.keeps (by assumption)))).mono ?_; rintro e w2 ⟨rfl, hb2⟩; have hk2 : Keeps D w2 := Keeps.below (by repeat (with_reducible first | assumption | refine Keeps.drew ?_ | refine Keeps.drewN ?_ _ | refine Keeps.alloc ?_ _ | exact Grow.keeps (by assumption))) hb2 (Nat.le_refl _); have cg2 := SH.out _ hk2; have hB2 : Box w2 D w.heap.size 26 (darr []) := Box.below (by (repeat (with_reducible first | assumption | refine Box.drew ?_ | refine Box.alloc ?_ _)); done) hb2 (by have hq := hB1.lt; first | exact hq | omega | (simp; omega)); have hbel2 : Below w.heap.size w w2 := belowVia hb2 (by repeat (first | (with_reducible exact Below.refl _ _) | (with_reducible refine Below.drew ?_) | (with_reducible refine belowDrewN ?_ _) | (with_reducible refine belowAlloc ?_ _) | ((with_reducible refine belowSet2 ?_ ?_); omega) | (with_reducible assumption) | (with_reducible refine belowVia (by assumption) ?_) | (with_reducible refine belowVia (Grow.below (by assumption)) ?_)))) | (go_simp; go_at_call 56; refine (HND.out _ (by repeat (with_reducible first | assumption | refine Keeps.drew ?_ | refine Keeps.drewN ?_ _ | refine Keeps.alloc ?_ _ | exact Grow.keeps (by assumption)))).mono ?_; rintro e w3 ⟨rfl, hb3⟩; have hB3 : Box w3 D w.heap.size 26 (darr []) := Box.below (by (repeat (with_reducible first | assumption | refine Box.drew ?_ | refine Box.alloc ?_ _)); done) hb3 (by have hq := hB2.lt; first | exact hq | omega | (simp; omega)); have hbel3 : Below w.heap.size w w3 := belowVia hb3 (by repeat (first | (with_reducible exact Below.refl _ _) | (with_reducible refine Below.drew ?_) | (with_reducible refine belowDrewN ?_ _) | (with_reducible refine belowAlloc ?_ _) | ((with_reducible refine belowSet2 ?_ ?_); omega) | (with_reducible assumption) | (with_reducible refine belowVia (by assumption) ?_) | (with_reducible refine belowVia (Grow.below (by assumption)) ?_))); have hst := store_run hB3 HR32.out))
      all_goals
        go_wp2_with fail
        refine bodyPost_ret (results_cell_row rfl _ _ _ _ _ _ _ rfl (hB3.setRow _).heap Tryd.underlying26 rfl hsr26.out) rfl ⟨?_, belowRow hbel3 (by omega) _⟩
        rw [HTR.out, HR.out, dg_darr r HR32.out]

set_option maxRecDepth 100000 in
set_option maxHeartbeats 400000 in
theorem tree_c {sh : List UInt8 → List UInt8} (hs : Sh sh) (A : Option Addr) (n c : Nat) (ds : List (List UInt8)) (D : Gh) (w : World) (hk : Keeps D w) (hT : Tab D) (hd : DS D (.slice A n c) ds) (hn : n ≤ 1000000) :
    Calls Tryd.prog 23 #[.slice A n c] w fun e w' => e = .returned (dg (treeF (tagB sh) ds)) ∧ Below w.heap.size w w' := by
  obtain ⟨hnl, hnc, hcm⟩ := hd.len
  unfold maxLen at hcm
  have HN := Lib.hid hnl
  clear hnl
  have hB := Box.new2 hk rfl 26 (darr [])
  have hk0 := hk.alloc (.cells (darr []) 26)
  have hbelW : Below w.heap.size w (w.alloc (.cells (darr []) 26)) := (by repeat (first | (with_reducible exact Below.refl _ _) | (with_reducible refine Below.drew ?_) | (with_reducible refine belowDrewN ?_ _) | (with_reducible refine belowAlloc ?_ _) | ((with_reducible refine belowSet2 ?_ ?_); omega) | (with_reducible assumption) | (with_reducible refine belowVia (by assumption) ?_) | (with_reducible refine belowVia (Grow.below (by assumption)) ?_)))
  have hr32 := Lib.hid (treeF_len hs ds)
  by_cases h0 : n = 0
  · subst h0
    obtain rfl : ds = [] := List.eq_nil_of_length_eq_zero HN.out.symm
    have HTR := Lib.hid (treeF_nil (tagB sh))
    go_enter Tryd.func23, Tryd.ntmps23
    go_wp2_with fail
    refine (tag_c hs emptyT (by decide) none 0 0 [] D _ hk0 (BS.nil D) (by omega) hT).mono ?_
    rintro e w3 ⟨rfl, hb3⟩
    rw [← HTR.out]
    have hB4z := hB.below hb3 (by simp)
    have hbel6 := belowVia hb3 hbelW
    generalize hr : treeF (tagB sh) [] = r at hr32 ⊢
    have HR := Lib.hid hr
    clear hr
    rw [dg_darr r hr32.out]
    have hsr : (darr []).size = (darr r).size := by rw [darr_size _ (by simp), darr_size _ (by rw [hr32.out]; omega)]
    have hsr26 := sz26 r hr32.out
    go_wp2_with (refine wpList_store_row rfl 26 _ _ rfl w.heap.size (darr r) rfl rfl 26 (darr []) hB4z.heap hsr26 hsr (darr_one _) ?_)
    refine bodyPost_ret (results_cell_row rfl _ _ _ _ _ _ _ rfl (hB4z.setRow _).heap Tryd.underlying26 rfl hsr26) rfl ⟨?_, belowRow hbel6 (by omega) _⟩
    rw [HR.out, dg_darr r hr32.out]
  · have hne : ((n : Int) == 0) = false := by simp; omega
    have hBf := Box.new2 hk0 (g := w.heap.size + 1) (by simp) 32 #[foldV (w.heap.size + 1)]
    have hbelV : Below w.heap.size w ((w.alloc (.cells (darr []) 26)).alloc (.cells #[foldV (w.heap.size + 1)] 32)) := (by repeat (first | (with_reducible exact Below.refl _ _) | (with_reducible refine Below.drew ?_) | (with_reducible refine belowDrewN ?_ _) | (with_reducible refine belowAlloc ?_ _) | ((with_reducible refine belowSet2 ?_ ?_); omega) | (with_reducible assumption) | (with_reducible refine belowVia (by assumption) ?_) | (with_reducible refine belowVia (Grow.below (by assumption)) ?_)))
    obtain ⟨D2, hG2, hle2, hcl2, hoff2⟩ := (Grow.of_below hk hbelV).pubBox hBf (by omega)
    have hB2 := (hB.alloc (.cells #[foldV (w.heap.size + 1)] 32)).le (hoff2 _ hB.off (by omega))
    have hg2 : D2 (w.heap.size + 1) 0 = some (foldV (w.heap.size + 1)) := hcl2 0 _ rfl
    go_enter Tryd.func23, Tryd.ntmps23
    go_wp2_with fail
    refine (fold_c hs n A n c (w.heap.size + 1) ds D2 _ hG2.keeps (hT.le hG2.le) (hd.le hG2.le) (by omega) (Nat.le_refl _) hn hg2).mono ?_
    rintro e w3 ⟨rfl, hb3⟩
    have hB4z := hB2.below hb3 hB2.lt
    have hbel6 := belowVia hb3 hbelV
    generalize hr : treeF (tagB sh) ds = r at hr32 ⊢
    have HR := Lib.hid hr
    clear hr
    rw [dg_darr r hr32.out]
    have hsr : (darr []).size = (darr r).size := by rw [darr_size _ (by simp), darr_size _ (by rw [hr32.out]; omega)]
    have hsr26 := sz26 r hr32.out
    go_wp2_with (refine wpList_store_row rfl 26 _ _ rfl w.heap.size (darr r) rfl rfl 26 (darr []) hB4z.heap hsr26 hsr (darr_one _) ?_)
    refine bodyPost_ret (results_cell_row rfl _ _ _ _ _ _ _ rfl (hB4z.setRow _).heap Tryd.underlying26 rfl hsr26) rfl ⟨?_, belowRow hbel6 (by omega) _⟩
    rw [HR.out, dg_darr r hr32.out]
end Go.Proofs.YtohknemfcohhfaaDoor
