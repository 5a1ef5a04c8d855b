/-
  What is proved here: the closure of Climb.
-/
import Derived.Test.YtohknemfcohhfaaDoorRows
import Derived.Test.YtohknemfcohhfaaDoorBaseC
import Derived.Test.YtohknemfcohhfaaDoorSha
import Derived.Test.YtohknemfcohhfaaDoorDigA
import Derived.Test.YtohknemfcohhfaaDoorDigC
import Derived.Test.YtohknemfcohhfaaDoorDigD
import Derived.Test.YtohknemfcohhfaaDoorDigE
import Derived.Test.YtohknemfcohhfaaDoorDigF
import Derived.Test.YtohknemfcohhfaaDoorDigG
import Derived.Test.YtohknemfcohhfaaDoorDigH
import Derived.Test.YtohknemfcohhfaaDoorDigI
import Derived.Test.YtohknemfcohhfaaDoorDigJ
import Derived.Test.YtohknemfcohhfaaDoorDigK
import Derived.Test.YtohknemfcohhfaaDoorTree
import Derived.Test.YtohknemfcohhfaaDoorShelf
import Derived.Lib.ConvBytes
import Derived.StillTailTactics
import Derived.Lib.AppendZerosOnto
import Derived.Deep.RegionHeld3
import Derived.Deep.MidRow
import Derived.Deep.RegionLaw
import Derived.Deep.DeepCutAuto
import Derived.Deep.QuietTactic
import Derived.BigQuiet
import Derived.Laws.EntriesVeiled
namespace Go.Proofs.YtohknemfcohhfaaDoor
open Go.RowKit Go.VS
/-- the closure of Climb. -/
def climbV (gd gc : Nat) : Value := .func (.func 62) #[] #[.pointer (some ⟨gd, 0, none⟩), .pointer (some ⟨gc, 0, none⟩)]
theorem climbF_len {sh : List UInt8 → List UInt8} (hs : Sh sh) (d : Dg) (at_ n : Nat) (p : List Dg) : (climbF (tagB sh) d at_ n p).length = 32 := by
  by_cases h : 2 ≤ n
  · by_cases ha : at_ < half n
    · rw [climbF_lo _ _ _ h ha]; exact hs.len _
    · rw [climbF_hi _ _ _ h ha]; exact hs.len _
  · rw [climbF_one _ _ _ _ (by omega)]; exact hs.len _
set_option maxRecDepth 100000 in
set_option maxHeartbeats 1000000 in
theorem climb_c {sh : List UInt8 → List UInt8} (hs : Sh sh) (d : List UInt8) (hd : d.length = 32) (gd gc : Nat) : ∀ (m : Nat) (at_ n : Nat) (A : Option Addr) (l c : Nat) (ps : List (List UInt8)) (D : Gh) (w : World), Keeps D w → Tab D → DS D (.slice A l c) ps → at_ < n → n ≤ m → n ≤ 1099511627776 → ps.length = lenF at_ n → (∀ o u, (darr d)[o]? = some u → D gd o = some u) → D gc 0 = some (climbV gd gc) →
    Calls Tryd.prog 62 #[.int .i64 at_, .int .i64 n, .slice A l c, .pointer (some ⟨gd, 0, none⟩), .pointer (some ⟨gc, 0, none⟩)] w fun e w' => e = .returned (dg (climbF (tagB sh) d at_ n ps)) ∧ Below w.heap.size w w' := by
  intro m
  induction m with
  | zero => intro at_ n A l c ps D w hk hT hp ha hm; omega
  | succ m ih =>
    intro at_ n A l c ps D w hk hT hp ha hm hlim hlen hgd hgc
    obtain ⟨hnl, hnc, hcm⟩ := hp.len
    unfold maxLen at hcm
    have HD := Lib.hid hd
    clear hd
    have hB := Box.new2 hk rfl 26 (darr [])
    have hk0 := hk.alloc (.cells (darr []) 26)
    have hbelW : Below w.heap.size w (w.alloc (.cells (darr []) 26)) := (by repeat (first | (with_reducible exact Below.refl _ _) | (with_reducible refine Below.drew ?_) | (with_reducible refine belowDrewN ?_ _) | (with_reducible refine belowAlloc ?_ _) | ((with_reducible refine belowSet2 ?_ ?_); omega) | (with_reducible assumption) | (with_reducible refine belowVia (by assumption) ?_) | (with_reducible refine belowVia (Grow.below (by assumption)) ?_)))
    by_cases h2 : 2 ≤ n
    · have hh1 := half_lt h2
      have hh2 := half_pos n
      have hsp := split_c n h2 hlim
      have hne : ((n : Int) == 1) = false := by simp; omega
      have hL40 := lenF_le 40 at_ n (by omega)
      obtain ⟨l', rfl⟩ : ∃ l', l = l' + 1 := by
        by_cases hlo : at_ < half n
        · rw [lenF_lo h2 hlo] at hlen; exact ⟨l - 1, by omega⟩
        · rw [lenF_hi h2 hlo] at hlen; exact ⟨l - 1, by omega⟩
      have hl40 : l' < 40 := by omega
      obtain ⟨hsl1, hds1⟩ := ds_head hp (k := l') (by omega)
      obtain ⟨b, o, rfl, hx32, hrange⟩ := ds_range hp hk0 (k := l') (by omega)
      rw [Nat.mul_comm] at hrange
      have hlast : ps.getLastD [] = ps[l']'(by omega) := by
        have hpl : ps.length - 1 = l' := by omega
        rw [List.getLastD_eq_getLast?, List.getLast?_eq_getElem?, hpl, List.getElem?_eq_getElem (by omega)]
        rfl
      have hdrop : ps.dropLast = ps.take l' := by rw [List.dropLast_eq_take, ← hnl, Nat.add_sub_cancel]
      have hrangeD : Hid (∀ W, Keeps D W → W.rangeAt b (o + l' * 32) ((ps[l']'(by omega)).map bv)) := fun W hW => by
        obtain ⟨b', o', e, _, hr⟩ := ds_range hp hW (k := l') (by omega)
        cases e
        rw [Nat.mul_comm] at hr
        exact hr
      have htl : (ps.take l').length = l' := by rw [List.length_take]; omega
      generalize hxx : ps[l']'(by omega) = x at *
      have hsx := sz26l x hx32
      have SH0 : Hid (∀ W, Keeps D W → Box W D w.heap.size 26 (darr []) → (W.cell? ⟨gc, 0, none⟩ = some (climbV gd gc) ∧ W.there w.heap.size 0 32 ∧ W.rangeAt b (o + l' * 32) (x.map bv))) := fun W h1 h2 => ⟨h1 gc 0 _ hgc, box_there h2 (by simp), hrangeD.out W h1⟩
      unfold climbV at SH0
      have hcg := hk0 gc 0 _ hgc
      unfold climbV at hcg
      have HX := Lib.hid hx32
      have HNL := Lib.hid hnl
      clear hx32 hnl hxx hrange
      by_cases hlo : at_ < half n
      · have HTR := Lib.hid (climbF_lo (tagB sh) d ps h2 hlo)
        rw [hlast, hdrop] at HTR
        have hlen' : (ps.take l').length = lenF at_ (half n) := by rw [lenF_lo h2 hlo] at hlen; have := HNL.out; omega
        have ih1 := fun W hk => ih at_ (half n) _ l' _ _ D W hk hT hds1 hlo (by omega) (by omega) hlen' hgd hgc
        have hL1 := Lib.hid (climbF_len hs d at_ (half n) (ps.take l'))
        generalize climbF (tagB sh) d at_ (half n) (ps.take l') = r1 at *
        generalize half n = k at *
        have HND := Lib.hid (fun W hk => node_c hs r1 x hL1.out HX.out D W hk hT)
        have HR32 := Lib.hid (show (tagB sh nodeT (r1 ++ x)).length = 32 from hs.len _)
        generalize hr : tagB sh nodeT (r1 ++ x) = r at HR32 HND HTR
        clear hr ih hlen hlen' htl hdrop hlast hds1
        unfold dg at HND ih1
        have hu26 := Tryd.underlying26
        have hli : (l' : Int) < (l' : Int) + 1 := by omega
        have hl0 : (0 : Int) ≤ (l' : Int) := by omega
        have hsr26 := sz26l r HR32.out
        have hcs32 : (r.map bv).length = 32 := by rw [List.length_map]; exact HR32.out
        have hone := bv_oneL r
        have SH2 : Hid (∀ W, Keeps D W → Box W D w.heap.size 26 (darr []) → ((W.setCells w.heap.size 0 (r.map bv)).cell? ⟨gc, 0, none⟩ = some (.func (.func 62) #[] #[.pointer (some ⟨gd, 0, none⟩), .pointer (some ⟨gc, 0, none⟩)]) ∧ (W.setCells w.heap.size 0 (r.map bv)).there w.heap.size 0 32 ∧ (W.setCells w.heap.size 0 (r.map bv)).rangeAt b (o + l' * 32) (x.map bv))) := fun W h1 h2 => by
          rw [setCells_row h2 (by simp) HR32.out]
          have hk' := keepsRow h1 h2.off (darr r)
          exact ⟨hk' gc 0 _ hgc, box_there (h2.setRow (darr r)) (by rw [HR32.out]; omega), hrangeD.out _ hk'⟩
        have hoff := hB.off
        go_enter Tryd.func62, Tryd.ntmps62
        go_wp2_with fail
        refine (hsp _).mono ?_
        rintro e W ⟨rfl, hW⟩
        have hW' : w.alloc (.cells (darr []) 26) = W := hW
        rw [hW'] at hB hk0 hbelW hcg
        clear hW hW' hsp
        have hBlt := hB.lt
        obtain ⟨s1, s2, s3⟩ := SH0.out W hk0 hB
        go_wp2_with fail
        have hcl : Hid (∀ W, Keeps D W → Box W D w.heap.size 26 (darr []) → W.setCells w.heap.size 0 (r.map bv) = W.setRow w.heap.size (darr r)) := fun W _ h2 => setCells_row h2 (by simp) HR32.out
        go_region_held3 (fun w' => w'.cell? ⟨gc, 0, none⟩ = some (.func (.func 62) #[] #[.pointer (some ⟨gd, 0, none⟩), .pointer (some ⟨gc, 0, none⟩)]) ∧ w'.there w.heap.size 0 32 ∧ w'.rangeAt b (o + l' * 32) (x.map bv))
          (first | (refine SH0.out _ ?_ ?_ <;> (repeat (with_reducible first | assumption | refine Keeps.drew ?_ | refine Keeps.drewN ?_ _ | refine Keeps.alloc ?_ _ | refine Box.drew ?_ | refine Box.alloc ?_ _)) <;> done) | (refine SH2.out _ ?_ ?_ <;> (repeat (with_reducible first | assumption | refine Keeps.drew ?_ | refine Keeps.drewN ?_ _ | refine Keeps.alloc ?_ _ | refine Box.drew ?_ | refine Box.alloc ?_ _)) <;> done) | go_keep)
          (first | (go_at_call 62; refine (ih1 _ (by repeat (with_reducible first | assumption | refine Keeps.drew ?_ | refine Keeps.drewN ?_ _ | refine Keeps.alloc ?_ _ | exact Grow.keeps (by assumption)))).mono ?_; rintro e w1 ⟨rfl, hb1⟩; have hk1 : Keeps D w1 := Keeps.below (by repeat (with_reducible first | assumption | refine Keeps.drew ?_ | refine Keeps.drewN ?_ _ | refine Keeps.alloc ?_ _ | exact Grow.keeps (by assumption))) hb1 (Nat.le_refl _); have hB1 : Box w1 D w.heap.size 26 (darr []) := Box.below (by (repeat (with_reducible first | assumption | refine Box.drew ?_ | refine Box.alloc ?_ _)); done) hb1 (by first | exact hBlt | omega | (simp; omega)); have hbel1 : Below w.heap.size w w1 := belowVia hb1 (by repeat (first | (with_reducible exact Below.refl _ _) | (with_reducible refine Below.drew ?_) | (with_reducible refine belowDrewN ?_ _) | (with_reducible refine belowAlloc ?_ _) | ((with_reducible refine belowSet2 ?_ ?_); omega) | (with_reducible assumption) | (with_reducible refine belowVia (by assumption) ?_) | (with_reducible refine belowVia (Grow.below (by assumption)) ?_)))) | (go_at_call 56; refine (HND.out _ (by repeat (with_reducible first | assumption | refine Keeps.drew ?_ | refine Keeps.drewN ?_ _ | refine Keeps.alloc ?_ _ | exact Grow.keeps (by assumption)))).mono ?_; rintro e w3 ⟨rfl, hb3⟩; have hk3 : Keeps D w3 := Keeps.below (by repeat (with_reducible first | assumption | refine Keeps.drew ?_ | refine Keeps.drewN ?_ _ | refine Keeps.alloc ?_ _ | exact Grow.keeps (by assumption))) hb3 (Nat.le_refl _); have hB3 : Box w3 D w.heap.size 26 (darr []) := Box.below (by (repeat (with_reducible first | assumption | refine Box.drew ?_ | refine Box.alloc ?_ _)); done) hb3 (by have hq := hB1.lt; first | exact hq | omega | (simp; omega)); have hbel3 : Below w.heap.size w w3 := belowVia hb3 (by repeat (first | (with_reducible exact Below.refl _ _) | (with_reducible refine Below.drew ?_) | (with_reducible refine belowDrewN ?_ _) | (with_reducible refine belowAlloc ?_ _) | ((with_reducible refine belowSet2 ?_ ?_); omega) | (with_reducible assumption) | (with_reducible refine belowVia (by assumption) ?_) | (with_reducible refine belowVia (Grow.below (by assumption)) ?_)))))
        all_goals
          go_wp2_with fail
          rw [hcl.out w3 hk3 hB3]
          refine bodyPost_ret (results_cell_row rfl _ _ _ _ _ _ _ rfl (hB3.setRow _).heap Tryd.underlying26 rfl (sz26 r HR32.out)) rfl ⟨?_, belowRow hbel3 (by omega) _⟩
          rw [HTR.out, dg_darr r HR32.out]
      · have HTR := Lib.hid (climbF_hi (tagB sh) d ps h2 hlo)
        rw [hlast, hdrop] at HTR
        have hlen' : (ps.take l').length = lenF (at_ - half n) (n - half n) := by rw [lenF_hi h2 hlo] at hlen; have := HNL.out; omega
        have ih1 := fun W hk => ih (at_ - half n) (n - half n) _ l' _ _ D W hk hT hds1 (by omega) (by omega) (by omega) hlen' hgd hgc
        have hL1 := Lib.hid (climbF_len hs d (at_ - half n) (n - half n) (ps.take l'))
        generalize climbF (tagB sh) d (at_ - half n) (n - half n) (ps.take l') = r1 at *
        generalize half n = k at *
        have HND := Lib.hid (fun W hk => node_c hs x r1 HX.out hL1.out D W hk hT)
        have HR32 := Lib.hid (show (tagB sh nodeT (x ++ r1)).length = 32 from hs.len _)
        generalize hr : tagB sh nodeT (x ++ r1) = r at HR32 HND HTR
        clear hr ih hlen hlen' htl hdrop hlast hds1
        have e1 : ((at_ - k : Nat) : Int) = (at_ : Int) - (k : Int) := by omega
        have e2 : ((n - k : Nat) : Int) = (n : Int) - (k : Int) := by omega
        simp only [e1, e2] at ih1
        have hw1 : IntKind.i64.wrap ((at_ : Int) - (k : Int)) = (at_ : Int) - k := by rw [IntKind.wrap_i64]; omega
        have hw2 : IntKind.i64.wrap ((n : Int) - (k : Int)) = (n : Int) - k := by rw [IntKind.wrap_i64]; omega
        clear e1 e2
        unfold dg at HND ih1
        have hu26 := Tryd.underlying26
        have hli : (l' : Int) < (l' : Int) + 1 := by omega
        have hl0 : (0 : Int) ≤ (l' : Int) := by omega
        have hsr26 := sz26l r HR32.out
        have hcs32 : (r.map bv).length = 32 := by rw [List.length_map]; exact HR32.out
        have hone := bv_oneL r
        have SH2 : Hid (∀ W, Keeps D W → Box W D w.heap.size 26 (darr []) → ((W.setCells w.heap.size 0 (r.map bv)).cell? ⟨gc, 0, none⟩ = some (.func (.func 62) #[] #[.pointer (some ⟨gd, 0, none⟩), .pointer (some ⟨gc, 0, none⟩)]) ∧ (W.setCells w.heap.size 0 (r.map bv)).there w.heap.size 0 32 ∧ (W.setCells w.heap.size 0 (r.map bv)).rangeAt b (o + l' * 32) (x.map bv))) := fun W h1 h2 => by
          rw [setCells_row h2 (by simp) HR32.out]
          have hk' := keepsRow h1 h2.off (darr r)
          exact ⟨hk' gc 0 _ hgc, box_there (h2.setRow (darr r)) (by rw [HR32.out]; omega), hrangeD.out _ hk'⟩
        have hoff := hB.off
        go_enter Tryd.func62, Tryd.ntmps62
        go_wp2_with fail
        refine (hsp _).mono ?_
        rintro e W ⟨rfl, hW⟩
        have hW' : w.alloc (.cells (darr []) 26) = W := hW
        rw [hW'] at hB hk0 hbelW hcg
        clear hW hW' hsp
        have hBlt := hB.lt
        obtain ⟨s1, s2, s3⟩ := SH0.out W hk0 hB
        go_wp2_with fail
        have hcl : Hid (∀ W, Keeps D W → Box W D w.heap.size 26 (darr []) → W.setCells w.heap.size 0 (r.map bv) = W.setRow w.heap.size (darr r)) := fun W _ h2 => setCells_row h2 (by simp) HR32.out
        go_region_held3 (fun w' => w'.cell? ⟨gc, 0, none⟩ = some (.func (.func 62) #[] #[.pointer (some ⟨gd, 0, none⟩), .pointer (some ⟨gc, 0, none⟩)]) ∧ w'.there w.heap.size 0 32 ∧ w'.rangeAt b (o + l' * 32) (x.map bv))
          (first | (refine SH0.out _ ?_ ?_ <;> (repeat (with_reducible first | assumption | refine Keeps.drew ?_ | refine Keeps.drewN ?_ _ | refine Keeps.alloc ?_ _ | refine Box.drew ?_ | refine Box.alloc ?_ _)) <;> done) | (refine SH2.out _ ?_ ?_ <;> (repeat (with_reducible first | assumption | refine Keeps.drew ?_ | refine Keeps.drewN ?_ _ | refine Keeps.alloc ?_ _ | refine Box.drew ?_ | refine Box.alloc ?_ _)) <;> done) | go_keep)
          (first | (go_at_call 62; refine (ih1 _ (by repeat (with_reducible first | assumption | refine Keeps.drew ?_ | refine Keeps.drewN ?_ _ | refine Keeps.alloc ?_ _ | exact Grow.keeps (by assumption)))).mono ?_; rintro e w1 ⟨rfl, hb1⟩; have hk1 : Keeps D w1 := Keeps.below (by repeat (with_reducible first | assumption | refine Keeps.drew ?_ | refine Keeps.drewN ?_ _ | refine Keeps.alloc ?_ _ | exact Grow.keeps (by assumption))) hb1 (Nat.le_refl _); have hB1 : Box w1 D w.heap.size 26 (darr []) := Box.below (by (repeat (with_reducible first | assumption | refine Box.drew ?_ | refine Box.alloc ?_ _)); done) hb1 (by first | exact hBlt | omega | (simp; omega)); have hbel1 : Below w.heap.size w w1 := belowVia hb1 (by repeat (first | (with_reducible exact Below.refl _ _) | (with_reducible refine Below.drew ?_) | (with_reducible refine belowDrewN ?_ _) | (with_reducible refine belowAlloc ?_ _) | ((with_reducible refine belowSet2 ?_ ?_); omega) | (with_reducible assumption) | (with_reducible refine belowVia (by assumption) ?_) | (with_reducible refine belowVia (Grow.below (by assumption)) ?_)))) | (go_at_call 56; refine (HND.out _ (by repeat (with_reducible first | assumption | refine Keeps.drew ?_ | refine Keeps.drewN ?_ _ | refine Keeps.alloc ?_ _ | exact Grow.keeps (by assumption)))).mono ?_; rintro e w3 ⟨rfl, hb3⟩; have hk3 : Keeps D w3 := Keeps.below (by repeat (with_reducible first | assumption | refine Keeps.drew ?_ | refine Keeps.drewN ?_ _ | refine Keeps.alloc ?_ _ | exact Grow.keeps (by assumption))) hb3 (Nat.le_refl _); have hB3 : Box w3 D w.heap.size 26 (darr []) := Box.below (by (repeat (with_reducible first | assumption | refine Box.drew ?_ | refine Box.alloc ?_ _)); done) hb3 (by have hq := hB1.lt; first | exact hq | omega | (simp; omega)); have hbel3 : Below w.heap.size w w3 := belowVia hb3 (by repeat (first | (with_reducible exact Below.refl _ _) | (with_reducible refine Below.drew ?_) | (with_reducible refine belowDrewN ?_ _) | (with_reducible refine belowAlloc ?_ _) | ((with_reducible refine belowSet2 ?_ ?_); omega) | (with_reducible assumption) | (with_reducible refine belowVia (by assumption) ?_) | (with_reducible refine belowVia (Grow.below (by assumption)) ?_)))))
        all_goals
          go_wp2_with fail
          rw [hcl.out w3 hk3 hB3]
          refine bodyPost_ret (results_cell_row rfl _ _ _ _ _ _ _ rfl (hB3.setRow _).heap Tryd.underlying26 rfl (sz26 r HR32.out)) rfl ⟨?_, belowRow hbel3 (by omega) _⟩
          rw [HTR.out, dg_darr r HR32.out]
    · obtain rfl : n = 1 := by omega
      have HTR := Lib.hid (climbF_one (tagB sh) d at_ ps (n := 1) (by omega))
      have hrange := box_range HD.out hgd hk0
      have hsz := sz26l d HD.out
      have HNL := Lib.hid hnl
      have HLEN := Lib.hid hlen
      clear hnl hlen
      go_enter Tryd.func62, Tryd.ntmps62
      go_wp2_with (refine wpList_load_mid rfl 26 _ rfl gd 0 rfl _ _ hrange Tryd.underlying26 rfl hsz ?_)
      refine (leaf_c hs d HD.out D _ hk0 hT).mono ?_
      rintro e w3 ⟨rfl, hb3⟩
      have hB4z := hB.below hb3 (by simp)
      have hbel6 := belowVia hb3 hbelW
      have hr32 := Lib.hid (show (tagB sh leafT d).length = 32 from hs.len _)
      generalize hr : tagB sh leafT d = r at hr32 ⊢
      have HR := Lib.hid hr
      clear hr
      rw [dg_darr r hr32.out]
      have hsr : (darr []).size = (darr r).size := by rw [darr_size _ (by simp), darr_size _ (by rw [hr32.out]; omega)]
      have hsr26 := sz26 r hr32.out
      go_wp2_with (refine wpList_store_row rfl 26 _ _ rfl w.heap.size (darr r) rfl rfl 26 (darr []) hB4z.heap hsr26 hsr (darr_one _) ?_)
      refine bodyPost_ret (results_cell_row rfl _ _ _ _ _ _ _ rfl (hB4z.setRow _).heap Tryd.underlying26 rfl hsr26) rfl ⟨?_, belowRow hbel6 (by omega) _⟩
      rw [HTR.out, HR.out, dg_darr r hr32.out]
end Go.Proofs.YtohknemfcohhfaaDoor
