/-
  What is proved here: DigestHalves, the walk: it returns true.
-/
import Derived.Test.YtohknemfcohhfaaDoorRows
import Derived.Test.YtohknemfcohhfaaDoorBaseC
import Derived.Test.YtohknemfcohhfaaDoorSha
import Derived.Test.YtohknemfcohhfaaDoorDigA
import Derived.Test.YtohknemfcohhfaaDoorDigC
import Derived.Test.YtohknemfcohhfaaDoorDigD
import Derived.Test.YtohknemfcohhfaaDoorDigE
import Derived.Test.YtohknemfcohhfaaDoorDigF
import Derived.Test.YtohknemfcohhfaaDoorDigG
import Derived.Test.YtohknemfcohhfaaDoorDigH
import Derived.Test.YtohknemfcohhfaaDoorDigI
import Derived.Test.YtohknemfcohhfaaDoorDigJ
import Derived.Test.YtohknemfcohhfaaDoorDigK
import Derived.Test.YtohknemfcohhfaaDoorDigL
import Derived.Test.YtohknemfcohhfaaDoorDigM
import Derived.Test.YtohknemfcohhfaaDoorDigN
import Derived.Test.YtohknemfcohhfaaDoorDigO
import Derived.Test.YtohknemfcohhfaaDoorDigP
import Derived.Test.YtohknemfcohhfaaDoorDigQ
import Derived.Test.YtohknemfcohhfaaDoorDigR
import Derived.Test.YtohknemfcohhfaaDoorLawTags
import Derived.Test.YtohknemfcohhfaaDoorTree
import Derived.Test.YtohknemfcohhfaaDoorShelf
import Derived.Lib.ConvBytes
import Derived.StillTailTactics
import Derived.Lib.AppendZerosOnto
import Derived.Deep.RegionHeld3
import Derived.Stop.BytesEq
import Derived.Great.BuildSlice
import Derived.Deep.MidRow
import Derived.Deep.RegionLaw
import Derived.Deep.DeepCutAuto
import Derived.Deep.QuietTactic
import Derived.BigQuiet
import Derived.Laws.EntriesVeiled
namespace Go.Proofs.YtohknemfcohhfaaDoor
open Go.RowKit Go.VS
/-- block g is a variable of 32 cells. -/
def okV (W : World) (g : Nat) : Prop := ∃ cs : Array Value, W.heap[g]? = some (.cells cs 26 (0, 0)) ∧ cs.size = 32
theorem okV_new (W : World) (z : Array Value) (g : Nat) (hz : z.size = 32) (hg : g = W.heap.size) : okV (W.alloc (.cells z 26)) g := ⟨z, by rw [hg]; exact heap_alloc_new W _, hz⟩
theorem okV_lt {W : World} {g : Nat} (h : okV W g) : g < W.heap.size := by
  obtain ⟨cs, h1, _⟩ := h
  rcases Nat.lt_or_ge g W.heap.size with hlt | hge
  · exact hlt
  · rw [Array.getElem?_eq_none hge] at h1; cases h1
theorem okV_alloc (W : World) (o : Obj) (g : Nat) (h : okV W g) : okV (W.alloc o) g := by
  have hlt := okV_lt h
  obtain ⟨cs, h1, h2⟩ := h
  exact ⟨cs, (Below.heap_alloc W o g hlt).trans h1, h2⟩
theorem okV_drew (W : World) (g : Nat) (h : okV W g) : okV W.drew g := h
theorem okV_below {W W' : World} (hb : Below W.heap.size W W') (g : Nat) (h : okV W g) : okV W' g := by
  have hlt := okV_lt h
  obtain ⟨cs, h1, h2⟩ := h
  exact ⟨cs, (hb.block g hlt).trans h1, h2⟩
theorem okV_box {W : World} {g : Nat} {D : Gh} (h : okV W g) (ho : D.off g) : ∃ cs, Box W D g 26 cs ∧ cs.size = 32 := by
  obtain ⟨cs, h1, h2⟩ := h
  exact ⟨cs, ⟨h1, ho⟩, h2⟩
theorem okV_row (W : World) (g g' : Nat) (cs : Array Value) (hc : cs.size = 32) (h : okV W g) : okV (W.setRow g' cs) g := by
  obtain ⟨c, h1, h2⟩ := h
  by_cases e : g = g'
  · subst e
    exact ⟨cs, setRow_heap W g c cs 26 (0, 0) h1, hc⟩
  · exact ⟨c, (setRow_other W g' g cs e).trans h1, h2⟩
theorem okV_store (W : World) (g : Nat) (r : List UInt8) (hr : r.length = 32) (h : okV W g) : (storeCells ⟨g, 0, none⟩ (darr r).toList).run Tryd.prog W = .ok () (W.setRow g (darr r)) := by
  obtain ⟨c, h1, h2⟩ := h
  have hs : (darr r).size = 32 := darr_size r (by omega)
  have hst := run_storeCells_at (P := Tryd.prog) g 0 26 (darr r).toList 0 c W h1 (by simp; omega) (fun v hv => by
    have := darr_one r
    rw [Array.all_eq_true'] at this
    exact this v (by simpa using hv))
  rw [hst]
  congr 2
  have : c.toList.length = 32 := by simp [h2]
  simp [List.drop_eq_nil_of_le, hs, this]
/-- okV under another name (a rewriting rule's way out that no rule meets). -/
def okV2 (W : World) (g : Nat) : Prop := okV W g
theorem okR {W X : World} {g : Nat} (h : okV W g → okV X g) : okV X g = (okV W g ∨ okV2 X g) := propext ⟨.inr, fun k => k.elim h id⟩
theorem okR_new (W : World) (z : Array Value) (g : Nat) : okV (W.alloc (.cells z 26)) g = (okV W g ∨ (g = W.heap.size ∧ z.size = 32) ∨ okV2 (W.alloc (.cells z 26)) g) :=
  propext ⟨fun h => .inr (.inr h), fun k => k.elim (okV_alloc W _ g) fun k => k.elim (fun h => okV_new W z g h.2 h.1) id⟩
/-- two variables, both filled: known from now on. -/
theorem fill_two {w W : World} {D : Gh} (hk : Keeps D w) (hb : Below w.heap.size w W) (g5 g6 : Nat) (h5 : okV W g5) (h6 : okV W g6) (hne : g5 ≠ g6) (hl5 : w.heap.size ≤ g5) (hl6 : w.heap.size ≤ g6) (ra rb : List UInt8) (ha : ra.length = 32) (hb' : rb.length = 32) :
    ∃ D', Grow w D ((W.setRow g5 (darr ra)).setRow g6 (darr rb)) D' ∧ BS D' (.slice (some ⟨g5, 0, none⟩) 32 32) ra ∧ BS D' (.slice (some ⟨g6, 0, none⟩) 32 32) rb := by
  have o5 := hk.offNew hl5
  have o6 := hk.offNew hl6
  obtain ⟨c5, B5, z5⟩ := okV_box h5 o5
  obtain ⟨c6, B6, z6⟩ := okV_box h6 o6
  have hk' := hk.below hb (Nat.le_refl _)
  have k2 := keepsRow (keepsRow hk' o5 (darr ra)) o6 (darr rb)
  have b2 := belowRow (belowRow hb hl5 (darr ra)) hl6 (darr rb)
  have G : Grow w D ((W.setRow g5 (darr ra)).setRow g6 (darr rb)) D := ⟨b2, k2, Gh.le.refl _, fun _ _ _ => rfl⟩
  have X5 := (B5.setRow (darr ra)).farRow (p := g6) hne (darr rb)
  have X6 := (B6.farRow (p := g5) (Ne.symm hne) (darr ra)).setRow (darr rb)
  obtain ⟨D1, G1, le1, bs1, off1⟩ := dgBox_bs G X5 ha hl5
  obtain ⟨D2, G2, le2, bs2, off2⟩ := dgBox_bs G1 (X6.le (off1 _ o6 (Ne.symm hne))) hb' hl6
  exact ⟨D2, G2, bs1.le le2, bs2⟩
theorem fill_cut {w W : World} {D : Gh} (hk : Keeps D w) (hb : Below w.heap.size w W) (g5 g6 : Nat) (h5 : okV W g5) (h6 : okV W g6) (hne : g5 ≠ g6) (hl5 : w.heap.size ≤ g5) (hl6 : w.heap.size ≤ g6) (ra rb : List UInt8) (ha : ra.length = 32) (hb' : rb.length = 32) :
    ∃ (x5 x6 : Nat) (D' : Gh), Value.pointer (some ⟨g5, 0, none⟩) = .pointer (some ⟨x5, 0, none⟩) ∧ Value.pointer (some ⟨g6, 0, none⟩) = .pointer (some ⟨x6, 0, none⟩) ∧ Grow w D ((W.setRow g5 (darr ra)).setRow g6 (darr rb)) D' ∧ BS D' (.slice (some ⟨x5, 0, none⟩) 32 32) ra ∧ BS D' (.slice (some ⟨x6, 0, none⟩) 32 32) rb :=
  let ⟨D', h⟩ := fill_two hk hb g5 g6 h5 h6 hne hl5 hl6 ra rb ha hb'
  ⟨g5, g6, D', rfl, rfl, h⟩
theorem ds_bs {D : Gh} {b o n c : Nat} {ds : List (List UInt8)} (h : DS D (.slice (some ⟨b, o, none⟩) n c) ds) {k : Nat} (hlt : k < ds.length) : BS D (.slice (some ⟨b, o + 32 * k, none⟩) 32 32) ds[k] := by
  obtain ⟨hall, hl, a', c', hv, h1, h2, h3, h4⟩ := h
  cases hv
  obtain ⟨b', o', e, hc⟩ := h4 (by omega)
  cases e
  have h32 : ds[k].length = 32 := hall _ (List.getElem_mem hlt)
  refine ⟨some ⟨b, o + 32 * k, none⟩, 32, by simp [h32], by simp [h32], by simp [maxLen], by simp, fun _ => ⟨b, o + 32 * k, rfl, fun j u e => ?_⟩⟩
  have hj : j < 32 := by
    rcases Nat.lt_or_ge j 32 with h | h
    · exact h
    · rw [List.getElem?_eq_none (by simp; omega)] at e; cases e
  rw [Nat.add_assoc]
  exact hc _ u (by rw [flat_at ds hall k hlt j hj]; exact e)
theorem half_step {n k : Nat} (h2 : 2 ≤ n) (hp : ∃ j, k = 2 ^ j) (h1 : 2 * k < n) : 2 * k ≤ half n := by
  obtain ⟨j, rfl⟩ := hp
  unfold half
  rw [← Nat.pow_succ']
  apply Nat.pow_le_pow_right (by omega)
  rw [Nat.le_log2 (by omega), Nat.pow_succ']
  omega
theorem half_is {n k : Nat} (h2 : 2 ≤ n) (hp : ∃ j, k = 2 ^ j) (hk : k < n) (h1 : ¬ 2 * k < n) : k = half n := by
  obtain ⟨j, rfl⟩ := hp
  unfold half
  congr 1
  symm
  rw [Nat.log2_eq_iff (by omega)]
  rw [Nat.pow_succ']
  omega
set_option maxRecDepth 100000 in
set_option maxHeartbeats 1000000 in
theorem halves_walk {sh : List UInt8 → List UInt8} (hs : Sh sh) (A : Option Addr) (n c : Nat) (bs : List UInt8) (D : Gh) (w : World) (hk : Keeps D w) (hT : Tab D) (hb : BS D (.slice A n c) bs) :
    Calls Tryd.prog 7 #[.slice A n c] w fun e w' => e = .returned (.bool true) ∧ Below w.heap.size w w' := by
  obtain ⟨i0, hi, hz0, hz1, hz2⟩ := info_parts info5
  have HSA := Lib.hid (sane27_c hs D w hk hT)
  go_enter Tryd.func7, Tryd.ntmps7
  go_wp2_with fail
  refine HSA.out.mono ?_
  rintro e w1 ⟨rfl, hb1⟩
  have hk1 := hk.below hb1 (Nat.le_refl _)
  go_wp2_with fail
  refine (digestsOf_c A n c bs D w1 hk1 hb).mono ?_
  rintro e w2 ⟨A2, c2, D2, rfl, hG2, hds⟩
  have hT2 := hT.le hG2.le
  have hbel2 : Below w.heap.size w w2 := belowVia hG2.below hb1
  have hk2 := hG2.keeps
  have hl40 : (lD bs).length ≤ 40 := by rw [lD_len]; omega
  generalize lD bs = ds at *
  obtain ⟨m, hm⟩ : ∃ m, m = ds.length := ⟨_, rfl⟩
  rw [← hm] at hl40 hds ⊢
  clear HSA hb1 hk1 hG2 hb
  have HM := Lib.hid hm
  clear hm
  by_cases h0 : m = 0
  · subst h0
    obtain rfl : ds = [] := List.eq_nil_of_length_eq_zero HM.out.symm
    have HTR := Lib.hid (fun W hk => tree_c hs _ _ _ _ D2 W hk hT2 hds (by omega))
    have HTG := Lib.hid (fun W hk => tag_c hs emptyT (by decide) none 0 0 [] D2 W hk (BS.nil D2) (by omega) hT2)
    rw [treeF_nil] at HTR
    have hr32 := Lib.hid (show (tagB sh emptyT []).length = 32 from hs.len _)
    generalize tagB sh emptyT [] = r at *
    rw [dg_darr r hr32.out] at HTR HTG
    have heq : ∀ W, (Op.equalIn 10000 26 (.agg (darr r)) (.agg (darr r))).run Tryd.prog W = .ok true W := fun W => by
      rw [eq26 r r hr32.out hr32.out W]; simp
    go_wp2_with fail
    refine (HTR.out _ hk2).mono ?_
    rintro e w3 ⟨rfl, hb3⟩
    have hk3 := hk2.below hb3 (Nat.le_refl _)
    go_wp2_with fail
    refine (HTG.out _ hk3).mono ?_
    rintro e w4 ⟨rfl, hb4⟩
    go_wp2_with fail
    go_ret
    exact ⟨rfl, belowVia hb4 (belowVia hb3 hbel2)⟩
  by_cases h1 : m = 1
  · subst h1
    obtain ⟨d, rfl⟩ : ∃ d, ds = [d] := List.length_eq_one_iff.1 HM.out.symm
    have hd32 : d.length = 32 := hds.1 d (by simp)
    have HTR := Lib.hid (fun W hk => tree_c hs _ _ _ _ D2 W hk hT2 hds (by omega))
    obtain ⟨b, o, rfl, _, hrange⟩ := ds_range hds hk2 (k := 0) (by simp)
    clear hrange
    have hbs := ds_bs hds (k := 0) (by simp)
    simp only [Nat.mul_zero, Nat.add_zero, List.getElem_cons_zero] at hbs
    have HTG := Lib.hid (fun W hk => tag_c hs leafT (by decide) _ 32 32 d D2 W hk hbs (by omega) hT2)
    rw [treeF_one] at HTR
    have hr32 := Lib.hid (show (tagB sh leafT d).length = 32 from hs.len _)
    generalize tagB sh leafT d = r at *
    rw [dg_darr r hr32.out] at HTR HTG
    have heq : ∀ W, (Op.equalIn 10000 26 (.agg (darr r)) (.agg (darr r))).run Tryd.prog W = .ok true W := fun W => by
      rw [eq26 r r hr32.out hr32.out W]; simp
    clear hd32 hds hbs
    go_wp2_with fail
    go_region_law (first | (go_simp; go_at_call 23; refine (HTR.out _ (by repeat (with_reducible first | assumption | refine Keeps.drew ?_ | refine Keeps.drewN ?_ _ | refine Keeps.alloc ?_ _ | exact Grow.keeps (by assumption)))).mono ?_; rintro e w3 ⟨rfl, hb3⟩; have hk3 : Keeps D2 w3 := Keeps.below (by repeat (with_reducible first | assumption | refine Keeps.drew ?_ | refine Keeps.drewN ?_ _ | refine Keeps.alloc ?_ _ | exact Grow.keeps (by assumption))) hb3 (Nat.le_refl _); have hbel3 : Below w.heap.size w w3 := belowVia hb3 (by repeat (first | (with_reducible exact Below.refl _ _) | (with_reducible refine Below.drew ?_) | (with_reducible refine belowDrewN ?_ _) | (with_reducible refine belowAlloc ?_ _) | ((with_reducible refine belowSet2 ?_ ?_); omega) | (with_reducible assumption) | (with_reducible refine belowVia (by assumption) ?_) | (with_reducible refine belowVia (Grow.below (by assumption)) ?_)))) | (go_simp; go_at_call 20; refine (HTG.out _ (by repeat (with_reducible first | assumption | refine Keeps.drew ?_ | refine Keeps.drewN ?_ _ | refine Keeps.alloc ?_ _ | exact Grow.keeps (by assumption)))).mono ?_; rintro e w4 ⟨rfl, hb4⟩; have hbel4 : Below w.heap.size w w4 := belowVia hb4 (by repeat (first | (with_reducible exact Below.refl _ _) | (with_reducible refine Below.drew ?_) | (with_reducible refine belowDrewN ?_ _) | (with_reducible refine belowAlloc ?_ _) | ((with_reducible refine belowSet2 ?_ ?_); omega) | (with_reducible assumption) | (with_reducible refine belowVia (by assumption) ?_) | (with_reducible refine belowVia (Grow.below (by assumption)) ?_)))))
    all_goals
      go_wp2_with fail
      go_ret
      exact ⟨rfl, hbel4⟩
  · have h2 : 2 ≤ m := by omega
    have e0 : ((m : Int) == 0) = false := by simp; omega
    have e1 : ((m : Int) == 1) = false := by simp; omega
    have HTR := Lib.hid (fun (D' : Gh) (W : World) (hk : Keeps D' W) (hle : D2.le D') => tree_c hs _ _ _ _ D' W hk (hT2.le hle) (hds.le hle) (by omega))
    have HTF := Lib.hid (show treeF (tagB sh) ds = tagB sh nodeT (treeF (tagB sh) (ds.take (half m)) ++ treeF (tagB sh) (ds.drop (half m))) by rw [HM.out]; exact treeF_two _ (by rw [← HM.out]; exact h2))
    have hA2 : ∃ b o, A2 = some ⟨b, o, none⟩ := by
      obtain ⟨b, o, e, _⟩ := ds_range hds hk2 (k := 0) (by rw [← HM.out]; omega)
      exact ⟨b, o, e⟩
    obtain ⟨b, o, rfl⟩ := hA2
    go_wp2_with fail
    go_loopw [4] (fun y wr => ∃ k : Nat, y = .int .i64 k ∧ k < m ∧ (∃ j, k = 2 ^ j) ∧ wr = w2) (fun y _ => 40 - (intOf y).toNat)
    case atStart => exact ⟨1, rfl, by omega, ⟨0, rfl⟩, rfl⟩
    case round =>
      obtain ⟨k, rfl, hkm, hpow, rfl⟩ := hrel
      have hk1 : 1 ≤ k := by obtain ⟨j, rfl⟩ := hpow; exact Nat.two_pow_pos j
      by_cases hk2' : 2 * k < m
      · have g1 : (2 : Int) * (k : Int) < (m : Int) := by omega
        have hpow' : ∃ j, 2 * k = 2 ^ j := by obtain ⟨j, rfl⟩ := hpow; exact ⟨j + 1, by rw [Nat.pow_succ']⟩
        clear hpow
        go_wp2_with fail
        exact ⟨⟨2 * k, by congr 1; omega, hk2', hpow', trivial⟩, by simp only [intOf]; omega⟩
      · have g1 : ¬ ((2 : Int) * (k : Int) < (m : Int)) := by omega
        have hkh := half_is h2 hpow hkm hk2'
        rw [← hkh] at HTF
        clear hpow hkh
        obtain ⟨hsl1, hds1⟩ := ds_head hds (k := k) (by omega)
        obtain ⟨Ad, hsl2, hds2⟩ := ds_tail hds (k := k) (by omega)
        have HT1 := Lib.hid (fun W hk => tree_c hs _ _ _ _ D2 W hk hT2 hds1 (by omega))
        have HT2 := Lib.hid (fun W hk => tree_c hs _ _ _ _ D2 W hk hT2 hds2 (by omega))
        have hL1 := Lib.hid (treeF_len hs (ds.take k))
        have hL2 := Lib.hid (treeF_len hs (ds.drop k))
        have HSUM := Lib.hid (fun A6 c6 D6 W hk hb6 hT6 => tag_c hs nodeT (by decide) A6 64 c6 (treeF (tagB sh) (ds.take k) ++ treeF (tagB sh) (ds.drop k)) D6 W hk hb6 (by omega) hT6)
        rw [← HTF.out] at HSUM
        have hr32 := Lib.hid (treeF_len hs ds)
        generalize treeF (tagB sh) (ds.take k) = ra at *
        generalize treeF (tagB sh) (ds.drop k) = rb at *
        generalize treeF (tagB sh) ds = r at *
        rw [dg_darr ra hL1.out] at HT1
        rw [dg_darr rb hL2.out] at HT2
        simp only [dg_darr r hr32.out] at HTR HSUM
        have hsa : (darr ra).size = 32 := darr_size _ (by rw [hL1.out]; omega)
        have hsb : (darr rb).size = 32 := darr_size _ (by rw [hL2.out]; omega)
        have F1 := okR_new
        have F3 : ∀ (W : World) (g : Nat), okV W.drew g = okV W g := fun _ _ => rfl
        have F4 : ∀ (W : World) (g g' : Nat), okV (W.setRow g' (darr ra)) g = (okV W g ∨ okV2 (W.setRow g' (darr ra)) g) := fun W g g' => okR fun h => okV_row W g g' _ hsa h
        have F5 : ∀ W g, okV W g → (storeCells ⟨g, 0, none⟩ (darr ra).toList).run Tryd.prog W = .ok () (W.setRow g (darr ra)) := fun W g h => okV_store W g ra hL1.out h
        have F6 : ∀ W g, okV W g → (storeCells ⟨g, 0, none⟩ (darr rb).toList).run Tryd.prog W = .ok () (W.setRow g (darr rb)) := fun W g h => okV_store W g rb hL2.out h
        clear hds1 hds2 e0 e1 h0 h1
        go_wp2_with fail
        go_cut [5, 6] (fun x y wx => ∃ (g5 g6 : Nat) (D' : Gh), x = .pointer (some ⟨g5, 0, none⟩) ∧ y = .pointer (some ⟨g6, 0, none⟩) ∧ Grow wr D2 wx D' ∧ BS D' (.slice (some ⟨g5, 0, none⟩) 32 32) ra ∧ BS D' (.slice (some ⟨g6, 0, none⟩) 32 32) rb)
        case first =>
          go_region_law (first | (go_simp; go_at_call_of 23 (Value.slice (some ⟨b, o, none⟩) k c2); refine (HT1.out _ (by repeat (with_reducible first | assumption | refine Keeps.drew ?_ | refine Keeps.drewN ?_ _ | refine Keeps.alloc ?_ _ | exact Grow.keeps (by assumption)))).mono ?_; rintro e w3 ⟨rfl, hb3⟩; have hk3 : Keeps D2 w3 := Keeps.below (by repeat (with_reducible first | assumption | refine Keeps.drew ?_ | refine Keeps.drewN ?_ _ | refine Keeps.alloc ?_ _ | exact Grow.keeps (by assumption))) hb3 (Nat.le_refl _); have hbel3 : Below wr.heap.size wr w3 := belowVia hb3 (by repeat (first | (with_reducible exact Below.refl _ _) | (with_reducible refine Below.drew ?_) | (with_reducible refine belowDrewN ?_ _) | (with_reducible refine belowAlloc ?_ _) | ((with_reducible refine belowSet2 ?_ ?_); omega) | (with_reducible assumption) | (with_reducible refine belowVia (by assumption) ?_) | (with_reducible refine belowVia (Grow.below (by assumption)) ?_))); have ok3 := fun g => okR (okV_below hb3 g); have sz3 := hb3.size) | (go_simp; go_at_call_of 23 (Value.slice Ad (m - k) (c2 - k)); refine (HT2.out _ (by repeat (with_reducible first | assumption | refine Keeps.drew ?_ | refine Keeps.drewN ?_ _ | refine Keeps.alloc ?_ _ | exact Grow.keeps (by assumption)))).mono ?_; rintro e w4 ⟨rfl, hb4⟩; have hk4 : Keeps D2 w4 := Keeps.below (by repeat (with_reducible first | assumption | refine Keeps.drew ?_ | refine Keeps.drewN ?_ _ | refine Keeps.alloc ?_ _ | exact Grow.keeps (by assumption))) hb4 (Nat.le_refl _); have hbel4 : Below wr.heap.size wr w4 := belowVia hb4 (by repeat (first | (with_reducible exact Below.refl _ _) | (with_reducible refine Below.drew ?_) | (with_reducible refine belowDrewN ?_ _) | (with_reducible refine belowAlloc ?_ _) | ((with_reducible refine belowSet2 ?_ ?_); omega) | (with_reducible assumption) | (with_reducible refine belowVia (by assumption) ?_) | (with_reducible refine belowVia (Grow.below (by assumption)) ?_))); have ok4 := fun g => okR (okV_below hb4 g); have sz4 := hb4.size))
          all_goals
            go_wp2_with fail
            go_meet
            simp only [World.size_alloc, World.size_drew] at sz3 sz4
            exact fill_cut hk2 ((by repeat (first | (with_reducible exact Below.refl _ _) | (with_reducible refine Below.drew ?_) | (with_reducible refine belowDrewN ?_ _) | (with_reducible refine belowAlloc ?_ _) | ((with_reducible refine belowSet2 ?_ ?_); omega) | (with_reducible assumption) | (with_reducible refine belowVia (by assumption) ?_) | (with_reducible refine belowVia (Grow.below (by assumption)) ?_)))) _ _ (by simp [ok4, ok3, F1, F3]) (by simp [ok4, ok3, F1, F3]) (by omega) (by omega) (by omega) ra rb hL1.out hL2.out
        case rest =>
          obtain ⟨g5, g6, D5, rfl, rfl, hG5, hba, hbb⟩ := hcut
          have hk5 := hG5.keeps
          have hbel5 := hG5.below
          have heq : ∀ W, (Op.equalIn 10000 26 (.agg (darr r)) (.agg (darr r))).run Tryd.prog W = .ok true W := fun W => by
            rw [eq26 r r hr32.out hr32.out W]; simp
          have hab : ra.length + rb.length = 64 := by rw [hL1.out, hL2.out]
          clear F1 F3 F4 F5 F6 HT1 HT2 hsl1 hsl2 hab
          go_wp2_with fail
          go_region_law (first | (refine step_app_empty rfl _ _ rfl rfl _ rfl D5 (by repeat (with_reducible first | assumption | refine Keeps.drew ?_ | refine Keeps.drewN ?_ _ | refine Keeps.alloc ?_ _ | exact Grow.keeps (by assumption))) _ _ _ _ rfl hba (by omega) (by omega) ?_; intro A6 c6 w6 hb6 hown6; have hk6 : Keeps D5 w6 := Keeps.below (by repeat (with_reducible first | assumption | refine Keeps.drew ?_ | refine Keeps.drewN ?_ _ | refine Keeps.alloc ?_ _ | exact Grow.keeps (by assumption))) hb6 (Nat.le_refl _); have hbel6 : Below wr.heap.size wr w6 := belowVia hb6 (by repeat (first | (with_reducible exact Below.refl _ _) | (with_reducible refine Below.drew ?_) | (with_reducible refine belowDrewN ?_ _) | (with_reducible refine belowAlloc ?_ _) | ((with_reducible refine belowSet2 ?_ ?_); omega) | (with_reducible assumption) | (with_reducible refine belowVia (by assumption) ?_) | (with_reducible refine belowVia (Grow.below (by assumption)) ?_))); have hsz6 := hb6.size; have hoff6 := own_off (w := wr) (D := D5) hown6 (by repeat (with_reducible first | assumption | refine Keeps.drew ?_ | refine Keeps.drewN ?_ _ | refine Keeps.alloc ?_ _ | exact Grow.keeps (by assumption))) (by repeat (first | (with_reducible exact Below.refl _ _) | (with_reducible refine Below.drew ?_) | (with_reducible refine belowDrewN ?_ _) | (with_reducible refine belowAlloc ?_ _) | ((with_reducible refine belowSet2 ?_ ?_); omega) | (with_reducible assumption) | (with_reducible refine belowVia (by assumption) ?_) | (with_reducible refine belowVia (Grow.below (by assumption)) ?_))); have hlt6 := own_lt (w := wr) hown6 (by repeat (first | (with_reducible exact Below.refl _ _) | (with_reducible refine Below.drew ?_) | (with_reducible refine belowDrewN ?_ _) | (with_reducible refine belowAlloc ?_ _) | ((with_reducible refine belowSet2 ?_ ?_); omega) | (with_reducible assumption) | (with_reducible refine belowVia (by assumption) ?_) | (with_reducible refine belowVia (Grow.below (by assumption)) ?_)))) | (refine step_append_sl _ rfl _ _ 22 rfl _ 5 i0 (.int .u8 0) 1 Tryd.underlying22 hi hz0 hz1 hz2 rfl _ _ _ rfl hown6 D5 hk6 _ _ _ _ rfl hbb (bv_one _) (by unfold maxLen; omega) (by omega) hsz6 ?_; intro A7 c7 w7 hown7 hg7 hb7; have hG7 : Grow wr D2 w7 D5 := (Grow.row (w1 := w6) ⟨hbel6, hk6, hG5.le, hG5.old⟩ hg7 (fun k h => (hoff6 k h).1) (fun k h => (hoff6 k h).2)); obtain ⟨D7, hG8, hle8, hsl8, hoff8⟩ := hG7.pub (own_base hown7 (Nat.le_refl _)) hlt6 (off_append hk6 (fun g h => (hoff6 g h).2) hb7); have hb8 : BS D7 (.slice A7 (32 + 32) c7) (ra ++ rb) := bs_app hsl8) | (go_simp; go_at_call 20; refine (HSUM.out _ _ D7 _ hG8.keeps hb8 (hT2.le hG8.le)).mono ?_; rintro e w9 ⟨rfl, hb9⟩; have hbel9 : Below wr.heap.size wr w9 := belowVia hb9 hG8.below) | (go_simp; go_at_call 23; refine (HTR.out D5 _ (by repeat (with_reducible first | assumption | refine Keeps.drew ?_ | refine Keeps.drewN ?_ _ | refine Keeps.alloc ?_ _ | exact Grow.keeps (by assumption))) hG5.le).mono ?_; rintro e w8 ⟨rfl, hb8'⟩; have hk8' : Keeps D5 w8 := Keeps.below (by repeat (with_reducible first | assumption | refine Keeps.drew ?_ | refine Keeps.drewN ?_ _ | refine Keeps.alloc ?_ _ | exact Grow.keeps (by assumption))) hb8' (Nat.le_refl _); have hbel8 : Below wr.heap.size wr w8 := belowVia hb8' (by repeat (first | (with_reducible exact Below.refl _ _) | (with_reducible refine Below.drew ?_) | (with_reducible refine belowDrewN ?_ _) | (with_reducible refine belowAlloc ?_ _) | ((with_reducible refine belowSet2 ?_ ?_); omega) | (with_reducible assumption) | (with_reducible refine belowVia (by assumption) ?_) | (with_reducible refine belowVia (Grow.below (by assumption)) ?_)))))
          all_goals
            go_wp2_with fail
            go_ret
            exact ⟨rfl, belowVia hbel9 hbel2⟩
end Go.Proofs.YtohknemfcohhfaaDoor
