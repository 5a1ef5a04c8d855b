/-
  What is proved here: the contract of the reference Write
-/
import Derived.Test.YtegkmkglagmdiaaRows
import Derived.Test.YtegkmkglagmdiaaDiskM
import Derived.Test.YtegkmkglagmdiaaBaseB
import Derived.Deep.RegionHeld3
import Derived.Deep.RegionLaw
import Derived.Deep.DeepCutAuto
import Derived.Deep.QuietTactic
import Derived.BigQuiet
import Derived.Laws.EntriesVeiled
namespace Go.Proofs.Ytegkmkglagmdiaa
open Go.RowKit Go.VS

set_option maxRecDepth 100000 in
set_option maxHeartbeats 2000000 in
theorem refWrite_c (A : Option Addr) (n c : Nat) (xs : List (List UInt8)) (l t at_ : Int) (s : Bool) (bA : Option Addr) (bn bc : Nat) (bs : List UInt8) (D : Gh) (w : World) (hk : Keeps D w) (hs : SS D (.slice A n c) xs) (hbs : BS D (.slice bA bn bc) bs) (hlw : l ≤ 9223372036854775807) :
    Calls Try.prog 21 #[.agg #[.slice A n c, .int .i64 l, .int .i64 t, .bool s], .int .i64 at_, .slice bA bn bc] w fun e w' => ∃ a n' c' D', e = .returned (.tuple #[.agg #[.slice a n' c', .int .i64 (writeF ⟨xs, l, t, s⟩ at_ bs).1.left, .int .i64 (writeF ⟨xs, l, t, s⟩ at_ bs).1.tear, .bool (writeF ⟨xs, l, t, s⟩ at_ bs).1.stopped], .int .i64 (writeF ⟨xs, l, t, s⟩ at_ bs).2]) ∧ Grow w D w' D' ∧ SS D' (.slice a n' c') (writeF ⟨xs, l, t, s⟩ at_ bs).1.secs := by
  obtain ⟨hn, hnc, hcm⟩ := hs.len
  obtain ⟨hbn, hbnc, hbcm⟩ := hbs.len
  unfold maxLen at hcm hbcm
  have HC := fun W hk => Lib.hid (refCheck_c A n c xs l t s D W hk hs)
  rcases chk01 ⟨xs, l, t, s⟩ with h0 | h0
  · by_cases hr : 0 ≤ at_ ∧ at_ < n
    · obtain ⟨hi0, hi1⟩ := hr
      obtain ⟨i, rfl⟩ := Int.eq_ofNat_of_zero_le hi0
      have hix : i < xs.length := by omega
      have h0' : chkAt ⟨xs, l, t, s⟩ i = 0 := by unfold chkAt; rw [if_pos]; refine ⟨h0, ?_⟩; simp [inR, ← hn]; omega
      have g1 : decide ((i : Int) < 0) = false := by rw [decide_eq_false_iff_not]; omega
      have g2 : decide (n ≤ i) = false := by simp; omega
      by_cases h128 : bn = 128
      · subst h128
        cases s with
        | true =>
          have hf : writeF ⟨xs, l, t, true⟩ i bs = (⟨xs, l, t, true⟩, 410) := by unfold writeF; rw [if_neg (by rw [h0']; simp; omega), if_pos rfl]
          rw [hf]
          clear hf hn hbn h0'
          have H0 := Lib.hid h0
          clear h0
          go_enter Try.func21, Try.ntmps21
          go_wp2_with fail
          refine (HC _ (by repeat (with_reducible first | assumption | refine Keeps.drew ?_ | refine Keeps.drewN ?_ _ | refine Keeps.alloc ?_ _ | exact Grow.keeps (by assumption)))).out.mono ?_
          rintro e w1 ⟨rfl, hb1⟩
          rw [H0.out]
          have bd := ((Box.new hk 26 #[.slice A n c, .int .i64 l, .int .i64 t, .bool true]).alloc _).below hb1 (by simp; omega)
          have bx := (Box.new (hk.alloc (.cells #[.slice A n c, .int .i64 l, .int .i64 t, .bool true] 26)) 26 #[.slice none 0 0, .int .i64 0, .int .i64 0, .bool false]).below hb1 (by simp)
          simp only [World.size_alloc] at bx
          have hsz := bx.lt
          have q := bx.cell
          have f := bx.frozen
          have qd := bd.cell
          go_wp2
          exact bodyPost_ret (v := .tuple #[.agg #[.slice A n c, .int .i64 l, .int .i64 t, .bool true], .int .i64 410]) (by simp [results, Try.results21, go_sem, q]) rfl ⟨A, n, c, D, rfl, Grow.of_below hk (by repeat (first | (with_reducible exact Below.refl _ _) | (with_reducible refine Below.drew ?_) | (with_reducible refine belowDrewN ?_ _) | (with_reducible refine belowAlloc ?_ _) | ((with_reducible refine belowSet2 ?_ ?_); omega) | (with_reducible assumption) | (with_reducible refine belowVia (by assumption) ?_) | (with_reducible refine belowVia (Grow.below (by assumption)) ?_))), hs⟩
        | false =>
          by_cases hl0 : l = 0
          · subst hl0
            have hf : writeF ⟨xs, 0, t, false⟩ i bs = (⟨xs.set i (bs.take t.toNat ++ xs[i].drop t.toNat), 0, t, true⟩, 410) := by
              unfold writeF; rw [if_neg (by rw [h0']; simp; omega), if_neg (by simp), if_pos rfl]; simp [List.getElem?_eq_getElem hix]
            rw [hf]
            exact refWrite_torn A n c i xs t bA bc bs D w hk hs hbs h0 hix
          · have hf : writeF ⟨xs, l, t, false⟩ i bs = (⟨xs.set i bs, if 0 < l then l - 1 else l, t, false⟩, 0) := by
              unfold writeF; rw [if_neg (by rw [h0']; simp; omega), if_neg (by simp), if_neg hl0]; simp
            rw [hf]
            exact refWrite_main A n c i xs l t bA bc bs D w hk hs hbs hlw h0 hix (by simp; exact hl0) _ rfl
      · have hf : writeF ⟨xs, l, t, s⟩ i bs = (zeroD, 1) := by unfold writeF; rw [if_pos (.inr (by omega))]
        rw [hf]
        have hb128 : ((bn : Int) != 128) = true := by simp; omega
        clear hf hn hbn h128 h0'
        have H0 := Lib.hid h0
        clear h0
        go_enter Try.func21, Try.ntmps21
        go_wp2_with fail
        refine (HC _ (by repeat (with_reducible first | assumption | refine Keeps.drew ?_ | refine Keeps.drewN ?_ _ | refine Keeps.alloc ?_ _ | exact Grow.keeps (by assumption)))).out.mono ?_
        rintro e w1 ⟨rfl, hb1⟩
        rw [H0.out]
        have bd := ((Box.new hk 26 #[.slice A n c, .int .i64 l, .int .i64 t, .bool s]).alloc _).below hb1 (by simp; omega)
        have bx := (Box.new (hk.alloc (.cells #[.slice A n c, .int .i64 l, .int .i64 t, .bool s] 26)) 26 #[.slice none 0 0, .int .i64 0, .int .i64 0, .bool false]).below hb1 (by simp)
        simp only [World.size_alloc] at bx
        have hsz := bx.lt
        have q := bx.cell
        have f := bx.frozen
        have qd := bd.cell
        go_wp2
        exact bodyPost_ret (v := .tuple #[.agg #[.slice none 0 0, .int .i64 0, .int .i64 0, .bool false], .int .i64 1]) (by simp [results, Try.results21, go_sem, q]) rfl ⟨none, 0, 0, D, rfl, Grow.of_below hk (by repeat (first | (with_reducible exact Below.refl _ _) | (with_reducible refine Below.drew ?_) | (with_reducible refine belowDrewN ?_ _) | (with_reducible refine belowAlloc ?_ _) | ((with_reducible refine belowSet2 ?_ ?_); omega) | (with_reducible assumption) | (with_reducible refine belowVia (by assumption) ?_) | (with_reducible refine belowVia (Grow.below (by assumption)) ?_))), SS.nil D⟩
    · have hc : chkAt ⟨xs, l, t, s⟩ at_ = 1 := by unfold chkAt; rw [if_neg]; simp [inR, ← hn]; omega
      have hf : writeF ⟨xs, l, t, s⟩ at_ bs = (zeroD, 1) := by unfold writeF; rw [if_pos (.inl (by rw [hc]; simp))]
      clear hc
      rw [hf]
      clear hbn hf
      have H0 := Lib.hid h0
      clear h0
      rcases (show decide (at_ < 0) = true ∨ (decide (at_ < 0) = false ∧ decide ((n : Int) ≤ at_) = true) by simp; omega) with g1 | ⟨g1, g2⟩
      all_goals
        clear hr hn
        go_enter Try.func21, Try.ntmps21
        go_wp2_with fail
        refine (HC _ (by repeat (with_reducible first | assumption | refine Keeps.drew ?_ | refine Keeps.drewN ?_ _ | refine Keeps.alloc ?_ _ | exact Grow.keeps (by assumption)))).out.mono ?_
        rintro e w1 ⟨rfl, hb1⟩
        rw [H0.out]
        have bd := ((Box.new hk 26 #[.slice A n c, .int .i64 l, .int .i64 t, .bool s]).alloc _).below hb1 (by simp; omega)
        have bx := (Box.new (hk.alloc (.cells #[.slice A n c, .int .i64 l, .int .i64 t, .bool s] 26)) 26 #[.slice none 0 0, .int .i64 0, .int .i64 0, .bool false]).below hb1 (by simp)
        simp only [World.size_alloc] at bx
        have hsz := bx.lt
        have q := bx.cell
        have f := bx.frozen
        have qd := bd.cell
        go_wp2
        exact bodyPost_ret (v := .tuple #[.agg #[.slice none 0 0, .int .i64 0, .int .i64 0, .bool false], .int .i64 1]) (by simp [results, Try.results21, go_sem, q]) rfl ⟨none, 0, 0, D, rfl, Grow.of_below hk (by repeat (first | (with_reducible exact Below.refl _ _) | (with_reducible refine Below.drew ?_) | (with_reducible refine belowDrewN ?_ _) | (with_reducible refine belowAlloc ?_ _) | ((with_reducible refine belowSet2 ?_ ?_); omega) | (with_reducible assumption) | (with_reducible refine belowVia (by assumption) ?_) | (with_reducible refine belowVia (Grow.below (by assumption)) ?_))), SS.nil D⟩
  · have hc : chkAt ⟨xs, l, t, s⟩ at_ = 1 := by unfold chkAt; rw [if_neg]; rw [h0]; simp
    have hf : writeF ⟨xs, l, t, s⟩ at_ bs = (zeroD, 1) := by unfold writeF; rw [if_pos (.inl (by rw [hc]; simp))]
    clear hc
    rw [hf]
    clear hbn hn hf
    have H0 := Lib.hid h0
    clear h0
    go_enter Try.func21, Try.ntmps21
    go_wp2_with fail
    refine (HC _ (by repeat (with_reducible first | assumption | refine Keeps.drew ?_ | refine Keeps.drewN ?_ _ | refine Keeps.alloc ?_ _ | exact Grow.keeps (by assumption)))).out.mono ?_
    rintro e w1 ⟨rfl, hb1⟩
    rw [H0.out]
    have bd := ((Box.new hk 26 #[.slice A n c, .int .i64 l, .int .i64 t, .bool s]).alloc _).below hb1 (by simp; omega)
    have bx := (Box.new (hk.alloc (.cells #[.slice A n c, .int .i64 l, .int .i64 t, .bool s] 26)) 26 #[.slice none 0 0, .int .i64 0, .int .i64 0, .bool false]).below hb1 (by simp)
    simp only [World.size_alloc] at bx
    have hsz := bx.lt
    have q := bx.cell
    have f := bx.frozen
    have qd := bd.cell
    go_wp2
    exact bodyPost_ret (v := .tuple #[.agg #[.slice none 0 0, .int .i64 0, .int .i64 0, .bool false], .int .i64 1]) (by simp [results, Try.results21, go_sem, q]) rfl ⟨none, 0, 0, D, rfl, Grow.of_below hk (by repeat (first | (with_reducible exact Below.refl _ _) | (with_reducible refine Below.drew ?_) | (with_reducible refine belowDrewN ?_ _) | (with_reducible refine belowAlloc ?_ _) | ((with_reducible refine belowSet2 ?_ ?_); omega) | (with_reducible assumption) | (with_reducible refine belowVia (by assumption) ?_) | (with_reducible refine belowVia (Grow.below (by assumption)) ?_))), SS.nil D⟩
end Go.Proofs.Ytegkmkglagmdiaa
