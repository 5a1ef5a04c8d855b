/-
  What is proved here: contracts of the references Read and Stop
-/
import Derived.Test.YtegkmkglagmdiaaRows
import Derived.Test.YtegkmkglagmdiaaDiskD
import Derived.Deep.RegionHeld3
import Derived.Deep.DeepCutAuto
import Derived.Deep.QuietTactic
import Derived.BigQuiet
import Derived.Laws.EntriesVeiled
namespace Go.Proofs.Ytegkmkglagmdiaa
open Go.RowKit Go.VS

set_option maxHeartbeats 1000000 in
theorem refRead_c (A : Option Addr) (n c : Nat) (xs : List (List UInt8)) (l t at_ : Int) (s : Bool) (D : Gh) (w : World) (hk : Keeps D w) (hs : SS D (.slice A n c) xs) :
    Calls Try.prog 26 #[.agg #[.slice A n c, .int .i64 l, .int .i64 t, .bool s], .int .i64 at_] w fun e w' => ∃ a n c D', e = .returned (.tuple #[.slice a n c, .int .i64 (readF ⟨xs, l, t, s⟩ at_).2]) ∧ Grow w D w' D' ∧ BS D' (.slice a n c) (readF ⟨xs, l, t, s⟩ at_).1 := by
  obtain ⟨hn, hnc, hcm⟩ := hs.len
  unfold maxLen at hcm
  have HN := Lib.hid hn
  clear hn
  obtain ⟨i0, hi, hz0, hz1, hz2⟩ := info_parts info5
  have HC := fun W hk => Lib.hid (refCheck_c A n c xs l t s D W hk hs)
  rcases chk01 ⟨xs, l, t, s⟩ with h0 | h0
  · have hlen := (chk_len h0).2.2.1
    by_cases hr : 0 ≤ at_ ∧ at_ < n
    · obtain ⟨hi0, hi1⟩ := hr
      have h0' : chkAt ⟨xs, l, t, s⟩ at_ = 0 := by unfold chkAt; rw [if_pos]; refine ⟨h0, ?_⟩; simp [inR, ← HN.out]; omega
      have g1 : decide (at_ < 0) = false := by simp; omega
      have g2 : decide ((n : Int) ≤ at_) = false := by simp; omega
      cases s with
      | true =>
        have hf : readF ⟨xs, l, t, true⟩ at_ = ([], 410) := by unfold readF; rw [if_neg (by rw [h0']; simp), if_pos rfl]
        have H0 := Lib.hid h0
        clear h0
        have HF := Lib.hid hf
        clear hf
        have HLEN := Lib.hid hlen
        clear hlen
        have H0' := Lib.hid h0'
        clear h0'
        go_enter Try.func26, Try.ntmps26
        go_wp2_with fail
        refine (HC _ (hk.alloc _)).out.mono ?_
        rintro e w1 ⟨rfl, hb1⟩
        rw [H0.out]
        obtain ⟨q0, q1, q2, q3⟩ := after4 hb1
        go_wp2
        go_ret2
        exact ⟨none, 0, 0, D, by rw [HF.out]; rfl, Grow.of_below hk (below_alloc hb1), by rw [HF.out]; exact BS.nil D⟩
      | false =>
        obtain ⟨i, rfl⟩ := Int.eq_ofNat_of_zero_le hi0
        have hin : i < n := by omega
        have hix : i < xs.length := by rw [← HN.out]; exact hin
        have hf : readF ⟨xs, l, t, false⟩ (i : Int) = (xs[i], 0) := by unfold readF; rw [if_neg (by rw [h0']; simp), if_neg (by simp)]; simp [List.getElem?_eq_getElem hix]
        have hl : xs[i].length = 128 := hlen _ (List.getElem_mem hix)
        have H0 := Lib.hid h0
        clear h0
        have HF := Lib.hid hf
        clear hf
        have HLEN := Lib.hid hlen
        clear hlen
        have H0' := Lib.hid h0'
        clear h0'
        go_enter Try.func26, Try.ntmps26
        go_wp2_with fail
        refine (HC _ (hk.alloc _)).out.mono ?_
        rintro e w1 ⟨rfl, hb1⟩
        rw [H0.out]
        obtain ⟨q0, q1, q2, q3⟩ := after4 hb1
        have hk1 : Keeps D w1 := (hk.alloc _).below hb1 (Nat.le_refl _)
        obtain ⟨b, o, a', c', rfl, hcell, hbs⟩ := hs.at_ hk1 hix
        have hbl := World.block_lt_of_cell? w1 _ hcell
        have hsz := hb1.size
        simp only [World.size_alloc] at hbl hsz
        have hsz' : w.heap.size < w1.heap.size := by omega
        rw [hl] at hcell hbs
        have HL := Lib.hid hl
        clear hl
        go_wp2_with (at_builtin; refine wpList_append_sl _ rfl _ _ 32 rfl w1.heap.size 5 i0 (.int .u8 0) 1 Try.underlying32 hi hz0 hz1 hz2 rfl _ 0 [] rfl (own_empty (Nat.le_refl _) (heap_alloc_new _ _)) D (hk1.alloc _) _ _ _ _ rfl hbs (bv_one _) ?c1 ?c2 ?c3 ?_)
        case c1 => unfold maxLen; omega
        case c2 => omega
        case c3 => simp
        intro A' c2 w2 hown hgr hob
        have hb2 : Below w1.heap.size w1 w2 := ((Below.refl _ _).alloc (Nat.le_refl _) _).grown hgr (by simp) (by simp [Value.ownBlock])
        obtain ⟨D', hg, hsl⟩ := pub_row hk1 hb2 (Nat.le_refl _) hown
        go_wp2
        go_ret2
        exact ⟨A', _, c2, D', by rw [HF.out]; rfl, (Grow.of_below hk (below_alloc hb1)).trans hg, by rw [HF.out]; exact hsl⟩
    · have hf : readF ⟨xs, l, t, s⟩ at_ = ([], 1) := by
        unfold readF; rw [if_pos]; unfold chkAt; rw [if_neg]; simp
        simp [inR, ← HN.out]; omega
      have H0 := Lib.hid h0
      clear h0
      have HF := Lib.hid hf
      clear hf
      have HLEN := Lib.hid hlen
      clear hlen
      rcases (show decide (at_ < 0) = true ∨ (decide (at_ < 0) = false ∧ decide ((n : Int) ≤ at_) = true) by simp; omega) with g1 | ⟨g1, g2⟩
      all_goals
        clear hr
        go_enter Try.func26, Try.ntmps26
        go_wp2_with fail
        refine (HC _ (hk.alloc _)).out.mono ?_
        rintro e w1 ⟨rfl, hb1⟩
        rw [H0.out]
        obtain ⟨q0, q1, q2, q3⟩ := after4 hb1
        go_wp2
        go_ret2
        exact ⟨none, 0, 0, D, by rw [HF.out]; rfl, Grow.of_below hk (below_alloc hb1), by rw [HF.out]; exact BS.nil D⟩
  · have hf : readF ⟨xs, l, t, s⟩ at_ = ([], 1) := by unfold readF; rw [if_pos]; unfold chkAt; rw [if_neg]; simp; rw [h0]; simp
    have H0 := Lib.hid h0
    clear h0
    have HF := Lib.hid hf
    clear hf
    go_enter Try.func26, Try.ntmps26
    go_wp2_with fail
    refine (HC _ (hk.alloc _)).out.mono ?_
    rintro e w1 ⟨rfl, hb1⟩
    rw [H0.out]
    go_wp2
    go_ret2
    exact ⟨none, 0, 0, D, by rw [HF.out]; rfl, Grow.of_below hk (below_alloc hb1), by rw [HF.out]; exact BS.nil D⟩
set_option maxHeartbeats 1000000 in
theorem refStop_c (A : Option Addr) (n c : Nat) (xs : List (List UInt8)) (l t : Int) (s : Bool) (l' t' : Int) (D : Gh) (w : World) (hk : Keeps D w) (hs : SS D (.slice A n c) xs) :
    Calls Try.prog 28 #[.agg #[.slice A n c, .int .i64 l, .int .i64 t, .bool s], .int .i64 l', .int .i64 t'] w fun e w' => ∃ a n c, e = .returned (.tuple #[.agg #[.slice a n c, .int .i64 (stopF ⟨xs, l, t, s⟩ l' t').1.left, .int .i64 (stopF ⟨xs, l, t, s⟩ l' t').1.tear, .bool (stopF ⟨xs, l, t, s⟩ l' t').1.stopped], .int .i64 (stopF ⟨xs, l, t, s⟩ l' t').2]) ∧ Below w.heap.size w w' ∧ SS D (.slice a n c) (stopF ⟨xs, l, t, s⟩ l' t').1.secs := by
  have HC := fun W hk => Lib.hid (refCheck_c A n c xs l t s D W hk hs)
  rcases chk01 ⟨xs, l, t, s⟩ with h0 | h0
  · by_cases h1 : l' < -1 ∨ t' < 0 ∨ 128 < t'
    · have hf : stopF ⟨xs, l, t, s⟩ l' t' = (zeroD, 1) := by unfold stopF; rw [if_pos (.inr h1)]
      rw [hf]
      have H0 := Lib.hid h0
      clear h0
      clear hf
      rcases (show (decide (l' < -1) = true) ∨ (decide (l' < -1) = false ∧ decide (t' < 0) = true) ∨ (decide (l' < -1) = false ∧ decide (t' < 0) = false ∧ decide (128 < t') = true) by simp; omega) with g1 | ⟨g1, g2⟩ | ⟨g1, g2, g3⟩
      all_goals
        clear h1
        go_enter Try.func28, Try.ntmps28
        go_wp2_with fail
        refine (HC _ (by repeat (with_reducible first | assumption | refine Keeps.drew ?_ | refine Keeps.alloc ?_ _ | exact Grow.keeps (by assumption)))).out.mono ?_
        rintro e w1 ⟨rfl, hb1⟩
        rw [H0.out]
        have bx := (Box.new (hk.alloc (.cells #[.slice A n c, .int .i64 l, .int .i64 t, .bool s] 26)) 26 #[.slice none 0 0, .int .i64 0, .int .i64 0, .bool false]).below hb1 (by simp)
        have q := bx.cell
        have f := bx.frozen
        simp only [World.size_alloc] at q f
        go_wp2
        exact bodyPost_ret (v := .tuple #[.agg #[.slice none 0 0, .int .i64 0, .int .i64 0, .bool false], .int .i64 1]) (by simp [results, Try.results28, go_sem, q]) rfl ⟨none, 0, 0, rfl, (by repeat (with_reducible first | exact Below.refl _ _ | refine Below.drew ?_ | refine Below.alloc ?_ (by simp) _ | refine Below.setCell ?_ (by simp) _ | assumption | refine belowVia (by assumption) ?_ | refine belowVia (Grow.below (by assumption)) ?_)), SS.nil D⟩
    · have g1 : decide (l' < -1) = false := by simp; omega
      have g2 : decide (t' < 0) = false := by simp; omega
      have g3 : decide (128 < t') = false := by simp; omega
      cases s with
      | true =>
        have hf : stopF ⟨xs, l, t, true⟩ l' t' = (zeroD, 410) := by unfold stopF; rw [if_neg (by rw [h0]; simp; omega), if_pos rfl]
        rw [hf]
        have H0 := Lib.hid h0
        clear h0
        clear hf h1
        go_enter Try.func28, Try.ntmps28
        go_wp2_with fail
        refine (HC _ (by repeat (with_reducible first | assumption | refine Keeps.drew ?_ | refine Keeps.alloc ?_ _ | exact Grow.keeps (by assumption)))).out.mono ?_
        rintro e w1 ⟨rfl, hb1⟩
        rw [H0.out]
        have bx := (Box.new (hk.alloc (.cells #[.slice A n c, .int .i64 l, .int .i64 t, .bool true] 26)) 26 #[.slice none 0 0, .int .i64 0, .int .i64 0, .bool false]).below hb1 (by simp)
        have bd := ((Box.new hk 26 #[.slice A n c, .int .i64 l, .int .i64 t, .bool true]).alloc _).below hb1 (by simp; omega)
        have q := bx.cell
        have f := bx.frozen
        have qd := bd.cell
        have fd := bd.frozen
        simp only [World.size_alloc] at q f
        go_wp2
        exact bodyPost_ret (v := .tuple #[.agg #[.slice none 0 0, .int .i64 0, .int .i64 0, .bool false], .int .i64 410]) (by simp [results, Try.results28, go_sem, q]) rfl ⟨none, 0, 0, rfl, (by repeat (with_reducible first | exact Below.refl _ _ | refine Below.drew ?_ | refine Below.alloc ?_ (by simp) _ | refine Below.setCell ?_ (by simp) _ | assumption | refine belowVia (by assumption) ?_ | refine belowVia (Grow.below (by assumption)) ?_)), SS.nil D⟩
      | false =>
        have hf : stopF ⟨xs, l, t, false⟩ l' t' = (⟨xs, l', t', false⟩, 0) := by unfold stopF; rw [if_neg (by rw [h0]; simp; omega), if_neg (by simp)]
        rw [hf]
        have H0 := Lib.hid h0
        clear h0
        clear hf h1
        go_enter Try.func28, Try.ntmps28
        go_wp2_with fail
        refine (HC _ (by repeat (with_reducible first | assumption | refine Keeps.drew ?_ | refine Keeps.alloc ?_ _ | exact Grow.keeps (by assumption)))).out.mono ?_
        rintro e w1 ⟨rfl, hb1⟩
        rw [H0.out]
        have bx := (Box.new (hk.alloc (.cells #[.slice A n c, .int .i64 l, .int .i64 t, .bool false] 26)) 26 #[.slice none 0 0, .int .i64 0, .int .i64 0, .bool false]).below hb1 (by simp)
        have bd := ((Box.new hk 26 #[.slice A n c, .int .i64 l, .int .i64 t, .bool false]).alloc _).below hb1 (by simp; omega)
        have q := bx.cell
        have f := bx.frozen
        have qd := bd.cell
        have fd := bd.frozen
        simp only [World.size_alloc] at q f
        go_wp2
        exact bodyPost_ret (v := .tuple #[.agg #[.slice A n c, .int .i64 l', .int .i64 t', .bool false], .int .i64 0]) (by simp [results, Try.results28, go_sem, q]) rfl ⟨A, n, c, rfl, (by repeat (with_reducible first | exact Below.refl _ _ | refine Below.drew ?_ | refine Below.alloc ?_ (by simp) _ | refine Below.setCell ?_ (by simp) _ | assumption | refine belowVia (by assumption) ?_ | refine belowVia (Grow.below (by assumption)) ?_)), hs⟩
  · have hf : stopF ⟨xs, l, t, s⟩ l' t' = (zeroD, 1) := by unfold stopF; rw [if_pos (.inl (by rw [h0]; simp))]
    rw [hf]
    have H0 := Lib.hid h0
    clear h0
    clear hf
    go_enter Try.func28, Try.ntmps28
    go_wp2_with fail
    refine (HC _ (by repeat (with_reducible first | assumption | refine Keeps.drew ?_ | refine Keeps.alloc ?_ _ | exact Grow.keeps (by assumption)))).out.mono ?_
    rintro e w1 ⟨rfl, hb1⟩
    rw [H0.out]
    have bx := (Box.new (hk.alloc (.cells #[.slice A n c, .int .i64 l, .int .i64 t, .bool s] 26)) 26 #[.slice none 0 0, .int .i64 0, .int .i64 0, .bool false]).below hb1 (by simp)
    have bd := ((Box.new hk 26 #[.slice A n c, .int .i64 l, .int .i64 t, .bool s]).alloc _).below hb1 (by simp; omega)
    have q := bx.cell
    have f := bx.frozen
    have qd := bd.cell
    have fd := bd.frozen
    simp only [World.size_alloc] at q f
    go_wp2
    exact bodyPost_ret (v := .tuple #[.agg #[.slice none 0 0, .int .i64 0, .int .i64 0, .bool false], .int .i64 1]) (by simp [results, Try.results28, go_sem, q]) rfl ⟨none, 0, 0, rfl, (by repeat (with_reducible first | exact Below.refl _ _ | refine Below.drew ?_ | refine Below.alloc ?_ (by simp) _ | refine Below.setCell ?_ (by simp) _ | assumption | refine belowVia (by assumption) ?_ | refine belowVia (Grow.below (by assumption)) ?_)), SS.nil D⟩
end Go.Proofs.Ytegkmkglagmdiaa
