/-
  What is proved here: node, Tree and Length of the reference
-/
import Derived.Test.YtohknemfcohhfaaDoorRows
import Derived.Test.YtohknemfcohhfaaDoorBaseC
import Derived.Test.YtohknemfcohhfaaDoorSha
import Derived.Test.YtohknemfcohhfaaDoorDigA
import Derived.Test.YtohknemfcohhfaaDoorDigB
import Derived.Test.YtohknemfcohhfaaDoorDigC
import Derived.Test.YtohknemfcohhfaaDoorDigD
import Derived.Test.YtohknemfcohhfaaDoorDigE
import Derived.Test.YtohknemfcohhfaaDoorDigF
import Derived.Test.YtohknemfcohhfaaDoorDigG
import Derived.Test.YtohknemfcohhfaaDoorDigL
import Derived.Test.YtohknemfcohhfaaDoorLawHalves
import Derived.Test.YtohknemfcohhfaaDoorDigW
import Derived.Test.YtohknemfcohhfaaDoorDigQ
import Derived.Stop.BytesEq
import Derived.Test.YtohknemfcohhfaaDoorDigU
import Derived.Test.YtohknemfcohhfaaDoorDigV
import Derived.Lib.ConvBytes
import Derived.StillTailTactics
import Derived.Lib.AppendZerosOnto
import Derived.Deep.RegionHeld3
import Derived.Deep.MidRow
import Derived.Deep.RegionLaw
import Derived.Deep.DeepCutAuto
import Derived.Deep.QuietTactic
import Derived.BigQuiet
import Derived.Laws.EntriesVeiled
namespace Go.Proofs.YtohknemfcohhfaaDoor
open Go.RowKit Go.VS
set_option maxRecDepth 100000 in
set_option maxHeartbeats 1000000 in
theorem rnode_c {sh : List UInt8 → List UInt8} (hs : Sh sh) (a b : List UInt8) (ha : a.length = 32) (hb : b.length = 32) (D : Gh) (w : World) (hk : Keeps D w) :
    Calls Tryd.prog 58 #[dg a, dg b] w fun e w' => e = .returned (dg (tagB sh nodeT (a ++ b))) ∧ Below w.heap.size w w' := by
  obtain ⟨i0, hi, hz0, hz1, hz2⟩ := info_parts info5
  have HA := Lib.hid ha
  have HB := Lib.hid hb
  clear ha hb
  rw [dg_darr a HA.out, dg_darr b HB.out]
  have hB1 := Box.new2 hk rfl 26 (darr a)
  have hG1 := (Grow.refl hk).alloc (.cells (darr a) 26)
  obtain ⟨D2, hG2, hle2, hbs2, hoff2⟩ := dgBox_bs hG1 hB1 HA.out (Nat.le_refl _)
  have hB2 := Box.new2 hG2.keeps rfl 26 (darr b)
  have hG3 := hG2.alloc (.cells (darr b) 26)
  obtain ⟨D3, hG4, hle3, hbs3, hoff3⟩ := dgBox_bs hG3 hB2 HB.out (by simp)
  have hB3 := Box.new2 hG4.keeps rfl 26 (darr [])
  have hG5 := hG4.alloc (.cells (darr []) 26)
  rw [show ((w.alloc (.cells (darr a) 26)).alloc (.cells (darr b) 26)).heap.size = w.heap.size + 1 + 1 by simp] at hB3
  rw [show (w.alloc (.cells (darr a) 26)).heap.size = w.heap.size + 1 by simp] at hbs3
  have hbs2' := hbs2.le hle3
  clear hB1 hG1 hbs2 hoff2 hG2 hB2 hG3 hoff3 hle2 hle3 hG4
  have HSUM := Lib.hid (fun A6 c6 D6 W hk hb6 => rtag_c hs nodeT (by decide) A6 64 c6 (a ++ b) D6 W hk hb6 (by omega))
  have hr32 := Lib.hid (show (tagB sh nodeT (a ++ b)).length = 32 from hs.len _)
  generalize hr : tagB sh nodeT (a ++ b) = r at hr32 HSUM ⊢
  clear hr
  simp only [dg_darr r hr32.out] at HSUM ⊢
  have hsr26 := Lib.hid (sz26 r hr32.out)
  have hs32 : (darr r).size = 32 := darr_size _ (by rw [hr32.out]; omega)
  go_enter Tryd.func58, Tryd.ntmps58
  go_wp2_with fail
  change Code.wp _ _ _ _ (((w.alloc (.cells (darr a) 26)).alloc (.cells (darr b) 26)).alloc (.cells (darr []) 26))
  generalize ((w.alloc (.cells (darr a) 26)).alloc (.cells (darr b) 26)).alloc (.cells (darr []) 26) = W at *
  have hkW := hG5.keeps
  have hbelW := hG5.below
  go_region_law (first | (refine step_app_empty rfl _ _ rfl rfl _ rfl D3 (by repeat (with_reducible first | assumption | refine Keeps.drew ?_ | refine Keeps.drewN ?_ _ | refine Keeps.alloc ?_ _ | exact Grow.keeps (by assumption))) _ _ _ _ rfl hbs2' (by omega) (by omega) ?_; intro A6 c6 w6 hb6 hown6; have hk6 : Keeps D3 w6 := Keeps.below (by repeat (with_reducible first | assumption | refine Keeps.drew ?_ | refine Keeps.drewN ?_ _ | refine Keeps.alloc ?_ _ | exact Grow.keeps (by assumption))) hb6 (Nat.le_refl _); have hbel6 : Below W.heap.size W w6 := belowVia hb6 (by repeat (first | (with_reducible exact Below.refl _ _) | (with_reducible refine Below.drew ?_) | (with_reducible refine belowDrewN ?_ _) | (with_reducible refine belowAlloc ?_ _) | ((with_reducible refine belowSet2 ?_ ?_); omega) | (with_reducible assumption) | (with_reducible refine belowVia (by assumption) ?_) | (with_reducible refine belowVia (Grow.below (by assumption)) ?_))); have hsz6 := hb6.size; have hoff6 := own_off (w := W) (D := D3) hown6 (by repeat (with_reducible first | assumption | refine Keeps.drew ?_ | refine Keeps.drewN ?_ _ | refine Keeps.alloc ?_ _ | exact Grow.keeps (by assumption))) (by repeat (first | (with_reducible exact Below.refl _ _) | (with_reducible refine Below.drew ?_) | (with_reducible refine belowDrewN ?_ _) | (with_reducible refine belowAlloc ?_ _) | ((with_reducible refine belowSet2 ?_ ?_); omega) | (with_reducible assumption) | (with_reducible refine belowVia (by assumption) ?_) | (with_reducible refine belowVia (Grow.below (by assumption)) ?_))); have hlt6 := own_lt (w := W) hown6 (by repeat (first | (with_reducible exact Below.refl _ _) | (with_reducible refine Below.drew ?_) | (with_reducible refine belowDrewN ?_ _) | (with_reducible refine belowAlloc ?_ _) | ((with_reducible refine belowSet2 ?_ ?_); omega) | (with_reducible assumption) | (with_reducible refine belowVia (by assumption) ?_) | (with_reducible refine belowVia (Grow.below (by assumption)) ?_)))) | (refine step_append_sl _ rfl _ _ 22 rfl _ 5 i0 (.int .u8 0) 1 Tryd.underlying22 hi hz0 hz1 hz2 rfl _ _ _ rfl hown6 D3 hk6 _ _ _ _ rfl hbs3 (bv_one _) (by unfold maxLen; omega) (by omega) hsz6 ?_; intro A7 c7 w7 hown7 hg7 hb7; have hG7 : Grow W D3 w7 D3 := (Grow.row (w1 := w6) ⟨hbel6, hk6, Gh.le.refl _, fun _ _ _ => rfl⟩ hg7 (fun k h => (hoff6 k h).1) (fun k h => (hoff6 k h).2)); obtain ⟨D7, hG8, hle8, hsl8, hoff8⟩ := hG7.pub (own_base hown7 (Nat.le_refl _)) hlt6 (off_append hk6 (fun g h => (hoff6 g h).2) hb7); have hb8 : BS D7 (.slice A7 (32 + 32) c7) (a ++ b) := bs_app hsl8; have hB8 := hB3.grow hG8; have hbel8 := belowVia hG8.below hbelW) | (go_simp; go_at_call 21; refine (HSUM.out _ _ D7 _ hG8.keeps hb8).mono ?_; rintro e w9 ⟨rfl, hb9⟩; have hB9 := hB8.below hb9 hB8.lt; have hbel9 := belowVia hb9 hbel8; have hst := store_run hB9 hr32.out))
  all_goals
    go_wp2_with fail
    refine bodyPost_ret (results_cell_row rfl _ _ _ _ _ _ _ rfl (hB9.setRow _).heap Tryd.underlying26 rfl hsr26.out) rfl ⟨rfl, belowRow hbel9 (by omega) _⟩

set_option maxRecDepth 100000 in
set_option maxHeartbeats 1000000 in
theorem rtree_c {sh : List UInt8 → List UInt8} (hs : Sh sh) : ∀ (m : Nat) (A : Option Addr) (n c : Nat) (ds : List (List UInt8)) (D : Gh) (w : World), Keeps D w → DS D (.slice A n c) ds → n ≤ m → n ≤ 1000000 →
    Calls Tryd.prog 24 #[.slice A n c] w fun e w' => e = .returned (dg (treeF (tagB sh) ds)) ∧ Below w.heap.size w w' := by
  intro m
  induction m using Nat.strongRecOn with
  | ind m ih =>
    intro A n c ds D w hk hd hm hlim
    obtain ⟨hnl, hnc, hcm⟩ := hd.len
    unfold maxLen at hcm
    have HN := Lib.hid hnl
    clear hnl
    have hB := Box.new2 hk rfl 26 (darr [])
    have hk0 := hk.alloc (.cells (darr []) 26)
    have hbelW : Below w.heap.size w (w.alloc (.cells (darr []) 26)) := (by repeat (first | (with_reducible exact Below.refl _ _) | (with_reducible refine Below.drew ?_) | (with_reducible refine belowDrewN ?_ _) | (with_reducible refine belowAlloc ?_ _) | ((with_reducible refine belowSet2 ?_ ?_); omega) | (with_reducible assumption) | (with_reducible refine belowVia (by assumption) ?_) | (with_reducible refine belowVia (Grow.below (by assumption)) ?_)))
    by_cases h0 : n = 0
    · subst h0
      obtain rfl : ds = [] := List.eq_nil_of_length_eq_zero HN.out.symm
      have HTR := Lib.hid (treeF_nil (tagB sh))
      have hr32 := Lib.hid (treeF_len hs [])
      clear ih
      go_enter Tryd.func24, Tryd.ntmps24
      go_wp2_with fail
      refine (rtag_c hs emptyT (by decide) none 0 0 [] D _ hk0 (BS.nil D) (by omega)).mono ?_
      rintro e w3 ⟨rfl, hb3⟩
      rw [← HTR.out]
      have hB4z := hB.below hb3 (by simp)
      have hbel6 := belowVia hb3 hbelW
      generalize hr : treeF (tagB sh) [] = r at hr32 ⊢
      have HR := Lib.hid hr
      clear hr
      rw [dg_darr r hr32.out]
      have hsr : (darr []).size = (darr r).size := by rw [darr_size _ (by simp), darr_size _ (by rw [hr32.out]; omega)]
      have hsr26 := sz26 r hr32.out
      go_wp2_with (refine wpList_store_row rfl 26 _ _ rfl w.heap.size (darr r) rfl rfl 26 (darr []) hB4z.heap hsr26 hsr (darr_one _) ?_)
      refine bodyPost_ret (results_cell_row rfl _ _ _ _ _ _ _ rfl (hB4z.setRow _).heap Tryd.underlying26 rfl hsr26) rfl ⟨?_, belowRow hbel6 (by omega) _⟩
      rw [HR.out, dg_darr r hr32.out]
    by_cases h1 : n = 1
    · subst h1
      obtain ⟨x, rfl⟩ : ∃ x, ds = [x] := by
        match ds, HN.out with
        | [x], _ => exact ⟨x, rfl⟩
      have htr : treeF (tagB sh) [x] = tagB sh leafT x := treeF_one _ _
      have HTR := Lib.hid htr
      clear htr
      obtain ⟨b, o, rfl, _, hrange⟩ := ds_range hd hk0 (k := 0) (by simp)
      clear hrange
      have hbs := ds_bs hd (k := 0) (by simp)
      simp only [Nat.mul_zero, Nat.add_zero, List.getElem_cons_zero] at hbs
      clear ih
      go_enter Tryd.func24, Tryd.ntmps24
      go_wp2_with fail
      refine (rtag_c hs leafT (by decide) _ 32 32 x D _ hk0 hbs (by omega)).mono ?_
      rintro e w3 ⟨rfl, hb3⟩
      have hB4z := hB.below hb3 (by simp)
      have hbel6 := belowVia hb3 hbelW
      have hr32 := Lib.hid (show (tagB sh leafT x).length = 32 from hs.len _)
      generalize hr : tagB sh leafT x = r at hr32 ⊢
      have HR := Lib.hid hr
      clear hr
      rw [dg_darr r hr32.out]
      have hsr : (darr []).size = (darr r).size := by rw [darr_size _ (by simp), darr_size _ (by rw [hr32.out]; omega)]
      have hsr26 := sz26 r hr32.out
      go_wp2_with (refine wpList_store_row rfl 26 _ _ rfl w.heap.size (darr r) rfl rfl 26 (darr []) hB4z.heap hsr26 hsr (darr_one _) ?_)
      refine bodyPost_ret (results_cell_row rfl _ _ _ _ _ _ _ rfl (hB4z.setRow _).heap Tryd.underlying26 rfl hsr26) rfl ⟨?_, belowRow hbel6 (by omega) _⟩
      rw [HTR.out, HR.out, dg_darr r hr32.out]
    · have hn2 : 2 ≤ n := by omega
      obtain ⟨b, o, rfl, h32, hrange⟩ := ds_range hd hk0 (k := 0) (by rw [← HN.out]; omega)
      clear h32 hrange
      have hh1 := half_lt hn2
      have hh2 := half_pos n
      obtain ⟨hsl1, hds1⟩ := ds_head hd (k := half n) (by omega)
      obtain ⟨Ad, hsl2, hds2⟩ := ds_tail hd (k := half n) (by omega)
      have HTR := Lib.hid (show treeF (tagB sh) ds = tagB sh nodeT (treeF (tagB sh) (ds.take (half n)) ++ treeF (tagB sh) (ds.drop (half n))) by rw [HN.out]; exact treeF_two _ (by rw [← HN.out]; exact hn2))
      have hL1 := Lib.hid (treeF_len hs (ds.take (half n)))
      have hL2 := Lib.hid (treeF_len hs (ds.drop (half n)))
      have hsp := rhalf_c n hn2 (by omega)
      have ih1 := fun W hk => ih (half n) (by omega) _ _ _ _ D W hk hds1 (Nat.le_refl _) (by omega)
      have ih2 := fun W hk => ih (n - half n) (by omega) _ _ _ _ D W hk hds2 (Nat.le_refl _) (by omega)
      generalize half n = k at *
      generalize treeF (tagB sh) (ds.take k) = r1 at *
      generalize treeF (tagB sh) (ds.drop k) = r2 at *
      have hne : ((n : Int) == 1) = false := by simp; omega
      have hne0 : ((n : Int) == 0) = false := by simp; omega
      clear ih
      go_enter Tryd.func24, Tryd.ntmps24
      go_wp2_with fail
      refine (hsp _).mono ?_
      rintro e W ⟨rfl, hW⟩
      have hW' : w.alloc (.cells (darr []) 26) = W := hW
      rw [hW'] at hB hk0 hbelW
      clear hW hW' hsp
      go_wp2_with fail
      have HR32 := Lib.hid (show (tagB sh nodeT (r1 ++ r2)).length = 32 from hs.len _)
      have HND := Lib.hid (fun W hk => rnode_c hs r1 r2 hL1.out hL2.out D W hk)
      have hBlt := hB.lt
      have hoff := hB.off
      generalize hr : tagB sh nodeT (r1 ++ r2) = r at HR32 HND
      have HR := Lib.hid hr
      clear hr
      rw [dg_darr r HR32.out] at HND
      have hsr26 := Lib.hid (sz26 r HR32.out)
      have hs32 : (darr r).size = 32 := darr_size _ (by rw [HR32.out]; omega)
      go_region_law (first | (go_simp; go_at_call_of 24 (Value.slice (some ⟨b, o, none⟩) k c); refine (ih1 _ (by repeat (with_reducible first | assumption | refine Keeps.drew ?_ | refine Keeps.drewN ?_ _ | refine Keeps.alloc ?_ _ | exact Grow.keeps (by assumption)))).mono ?_; rintro e w1 ⟨rfl, hb1⟩; have hk1 : Keeps D w1 := Keeps.below (by repeat (with_reducible first | assumption | refine Keeps.drew ?_ | refine Keeps.drewN ?_ _ | refine Keeps.alloc ?_ _ | exact Grow.keeps (by assumption))) hb1 (Nat.le_refl _); have hB1 : Box w1 D w.heap.size 26 (darr []) := Box.below (by (repeat (with_reducible first | assumption | refine Box.drew ?_ | refine Box.alloc ?_ _)); done) hb1 (by first | exact hBlt | omega | (simp; omega)); have hbel1 : Below w.heap.size w w1 := belowVia hb1 (by repeat (first | (with_reducible exact Below.refl _ _) | (with_reducible refine Below.drew ?_) | (with_reducible refine belowDrewN ?_ _) | (with_reducible refine belowAlloc ?_ _) | ((with_reducible refine belowSet2 ?_ ?_); omega) | (with_reducible assumption) | (with_reducible refine belowVia (by assumption) ?_) | (with_reducible refine belowVia (Grow.below (by assumption)) ?_)))) | (go_simp; go_at_call_of 24 (Value.slice Ad (n - k) (c - k)); refine (ih2 _ (by repeat (with_reducible first | assumption | refine Keeps.drew ?_ | refine Keeps.drewN ?_ _ | refine Keeps.alloc ?_ _ | exact Grow.keeps (by assumption)))).mono ?_; rintro e w2 ⟨rfl, hb2⟩; have hk2 : Keeps D w2 := Keeps.below (by repeat (with_reducible first | assumption | refine Keeps.drew ?_ | refine Keeps.drewN ?_ _ | refine Keeps.alloc ?_ _ | exact Grow.keeps (by assumption))) hb2 (Nat.le_refl _); have hB2 : Box w2 D w.heap.size 26 (darr []) := Box.below (by (repeat (with_reducible first | assumption | refine Box.drew ?_ | refine Box.alloc ?_ _)); done) hb2 (by have hq := hB1.lt; first | exact hq | omega | (simp; omega)); have hbel2 : Below w.heap.size w w2 := belowVia hb2 (by repeat (first | (with_reducible exact Below.refl _ _) | (with_reducible refine Below.drew ?_) | (with_reducible refine belowDrewN ?_ _) | (with_reducible refine belowAlloc ?_ _) | ((with_reducible refine belowSet2 ?_ ?_); omega) | (with_reducible assumption) | (with_reducible refine belowVia (by assumption) ?_) | (with_reducible refine belowVia (Grow.below (by assumption)) ?_)))) | (go_simp; go_at_call 58; refine (HND.out _ (by repeat (with_reducible first | assumption | refine Keeps.drew ?_ | refine Keeps.drewN ?_ _ | refine Keeps.alloc ?_ _ | exact Grow.keeps (by assumption)))).mono ?_; rintro e w3 ⟨rfl, hb3⟩; have hB3 : Box w3 D w.heap.size 26 (darr []) := Box.below (by (repeat (with_reducible first | assumption | refine Box.drew ?_ | refine Box.alloc ?_ _)); done) hb3 (by have hq := hB2.lt; first | exact hq | omega | (simp; omega)); have hbel3 : Below w.heap.size w w3 := belowVia hb3 (by repeat (first | (with_reducible exact Below.refl _ _) | (with_reducible refine Below.drew ?_) | (with_reducible refine belowDrewN ?_ _) | (with_reducible refine belowAlloc ?_ _) | ((with_reducible refine belowSet2 ?_ ?_); omega) | (with_reducible assumption) | (with_reducible refine belowVia (by assumption) ?_) | (with_reducible refine belowVia (Grow.below (by assumption)) ?_))); have hst := store_run hB3 HR32.out))
      all_goals
        go_wp2_with fail
        refine bodyPost_ret (results_cell_row rfl _ _ _ _ _ _ _ rfl (hB3.setRow _).heap Tryd.underlying26 rfl hsr26.out) rfl ⟨?_, belowRow hbel3 (by omega) _⟩
        rw [HTR.out, HR.out, dg_darr r HR32.out]

set_option maxRecDepth 100000 in
set_option maxHeartbeats 400000 in
theorem rlength_c : ∀ (m at_ n : Nat), n ≤ m → at_ < n → n ≤ 1099511627776 → ∀ w : World, Calls Tryd.prog 63 #[.int .i64 at_, .int .i64 n] w fun e w' => e = .returned (.int .i64 (lenF at_ n)) ∧ w = w' := by
  intro m
  induction m using Nat.strongRecOn with
  | ind m ih =>
    intro at_ n hm ha hn w
    by_cases h2 : 2 ≤ n
    · have hh1 := half_lt h2
      have hh2 := half_pos n
      have hsp := rhalf_c n h2 hn
      have hne : ((n : Int) == 1) = false := by simp; omega
      have hL := lenF_le 40 at_ n (by omega)
      by_cases hlo : at_ < half n
      · have e := lenF_lo h2 hlo
        have ih1 := ih (half n) (by omega) at_ (half n) (Nat.le_refl _) hlo (by omega)
        rw [e] at hL ⊢
        clear e ih
        generalize half n = k at *
        generalize lenF at_ k = L at *
        go_enter Tryd.func63, Tryd.ntmps63
        go_wp2_with fail
        refine (hsp _).mono ?_
        rintro e w' ⟨rfl, rfl⟩
        go_wp2_with fail
        refine (ih1 _).mono ?_
        rintro e w' ⟨rfl, rfl⟩
        go_wp2
        go_ret
        exact ⟨by first | rfl | (congr 2; omega), rfl⟩
      · have e := lenF_hi h2 hlo
        have ih1 := ih (n - half n) (by omega) (at_ - half n) (n - half n) (Nat.le_refl _) (by omega) (by omega)
        rw [e] at hL ⊢
        clear e ih
        generalize half n = k at *
        generalize lenF (at_ - k) (n - k) = L at *
        have e1 : ((at_ - k : Nat) : Int) = (at_ : Int) - (k : Int) := by omega
        have e2 : ((n - k : Nat) : Int) = (n : Int) - (k : Int) := by omega
        simp only [e1, e2] at ih1
        clear e1 e2
        go_enter Tryd.func63, Tryd.ntmps63
        go_wp2_with fail
        refine (hsp _).mono ?_
        rintro e w' ⟨rfl, rfl⟩
        go_wp2_with fail
        refine (ih1 _).mono ?_
        rintro e w' ⟨rfl, rfl⟩
        go_wp2
        go_ret
        exact ⟨by first | rfl | (congr 2; omega), rfl⟩
    · obtain rfl : n = 1 := by omega
      rw [lenF_one at_ (by omega)]
      clear ih
      go_enter Tryd.func63, Tryd.ntmps63
      go_wp2
      go_ret
      exact ⟨rfl, rfl⟩
end Go.Proofs.YtohknemfcohhfaaDoor
