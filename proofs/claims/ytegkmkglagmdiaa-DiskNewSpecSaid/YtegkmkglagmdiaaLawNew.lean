/-
  What is proved here: the walk of DiskNewSpec (fn 3)
-/
import Derived.Test.YtegkmkglagmdiaaRows
import Derived.Test.YtegkmkglagmdiaaDiskP
import Derived.Test.YtegkmkglagmdiaaBaseB
import Derived.Deep.RegionHeld3
import Derived.Deep.RegionLaw
import Derived.Deep.DeepCutAuto
import Derived.Deep.QuietTactic
import Derived.BigQuiet
import Derived.Laws.EntriesVeiled
namespace Go.Proofs.Ytegkmkglagmdiaa
open Go.RowKit Go.VS

theorem newBad {n : Int} (h : ¬ (1 ≤ n ∧ n ≤ 4096)) : n < 1 ∨ 4096 < n := by omega

set_option maxRecDepth 100000 in
set_option maxHeartbeats 4000000 in
theorem newSpec_walk (a0 : Int) (w : World) :
    Calls Try.prog 3 #[.int .i64 a0] w fun e w' => e = .returned (.bool true) ∧ Below w.heap.size w w' := by
  obtain ⟨m, hm⟩ : ∃ m, bits .and .i64 a0 15 = m := ⟨_, rfl⟩
  go_enter Try.func3, Try.ntmps3
  go_wp2_with fail
  refine (sane41_c _).mono ?_
  rintro e w1 ⟨rfl, hb1⟩
  go_wp2_with fail
  go_loopw [4, 5, 6, 7, 8, 16] (fun _ _ _ _ _ i wr => ∃ k : Nat, k ≤ 2 ∧ i = .int .i64 k ∧ Below w.heap.size w wr ∧ Box wr (fun _ _ => none) w1.heap.size 3 #[.int .i64 a0, .int .i64 m]) (fun _ _ _ _ _ i _ => 2 - (intOf i).toNat)
  case atStart => exact ⟨0, by omega, rfl, (by repeat (first | (with_reducible exact Below.refl _ _) | (with_reducible refine Below.drew ?_) | (with_reducible refine belowDrewN ?_ _) | (with_reducible refine belowAlloc ?_ _) | ((with_reducible refine belowSet2 ?_ ?_); omega) | (with_reducible assumption) | (with_reducible refine belowVia (by assumption) ?_) | (with_reducible refine belowVia (Grow.below (by assumption)) ?_))), Box.new (keeps0 _) _ _⟩
  case round =>
    obtain ⟨k, hk, rfl, hbel, hbx⟩ := hrel
    by_cases hlt : k < 2
    · obtain ⟨n, hn⟩ : ∃ n, (#[Value.int .i64 a0, .int .i64 m])[k]? = some (.int .i64 n) := by
        have : k = 0 ∨ k = 1 := by omega
        rcases this with rfl | rfl
        · exact ⟨a0, rfl⟩
        · exact ⟨m, rfl⟩
      have q := (hbx.cell k).trans hn
      clear hn
      have hk0 : (k : Int) < 2 := by omega
      by_cases hin : 1 ≤ n ∧ n ≤ 4096
      · obtain ⟨hi1, hi2⟩ := hin
        obtain ⟨nn, rfl⟩ := Int.eq_ofNat_of_zero_le (show 0 ≤ n by omega)
        go_wp2_with fail
        refine (new_ok nn (fun _ _ => none) _ (keeps0 _) (by omega) (by omega)).mono ?_
        rintro e w2 ⟨A, c, D2, rfl, hg2, hs2⟩
        go_wp2_with fail
        refine (refNew_ok nn D2 _ (hg2.keeps.alloc _) (by omega) (by omega)).mono ?_
        rintro e w3 ⟨A', c', D3, rfl, hg3, hs3⟩
        have b3 := (Box.new hg2.keeps 26 #[.slice A nn c, .int .i64 (-1), .int .i64 0, .bool false]).grow hg3
        have q3 := b3.cell
        have hl3 := b3.lt
        go_wp2_with fail
        refine (same_c A A' nn c nn c' _ (-1) 0 false D3 _ (hg3.keeps.alloc _) (hs2.le hg3.le) hs3).mono ?_
        rintro e w4 ⟨rfl, hb4⟩
        have bx4 := ((hbx.grow (Grow.of_below (keeps0 _) hg2.below)).alloc (.cells #[.slice A nn c, .int .i64 (-1), .int .i64 0, .bool false] 26)).below hg3.below (by have := (hbx.grow (Grow.of_below (keeps0 _) hg2.below)).lt; simp; omega)
        have bx5 := (bx4.alloc _).below hb4 (by have := bx4.lt; simp; omega)
        have hbf : Below w.heap.size w w4 := (by repeat (first | (with_reducible exact Below.refl _ _) | (with_reducible refine Below.drew ?_) | (with_reducible refine belowDrewN ?_ _) | (with_reducible refine belowAlloc ?_ _) | ((with_reducible refine belowSet2 ?_ ?_); omega) | (with_reducible assumption) | (with_reducible refine belowVia (by assumption) ?_) | (with_reducible refine belowVia (Grow.below (by assumption)) ?_)))
        go_wp2
        go_roundw
        case rel => exact ⟨k + 1, by omega, by go_num, hbf, bx5⟩
        case measure => simp [intOf]; omega
      · have hbad := newBad hin
        clear hin
        go_wp2_with fail
        refine (new_bad n _ hbad).mono ?_
        rintro e w2 ⟨rfl, hb2⟩
        go_wp2_with fail
        refine (refNew_bad n _ hbad).mono ?_
        rintro e w3 ⟨rfl, hb3⟩
        have b3 := (Box.new (keeps0 w2) 26 #[.slice none 0 0, .int .i64 0, .int .i64 0, .bool false]).below hb3 (by simp)
        have q3 := b3.cell
        have hl3 := b3.lt
        go_wp2_with fail
        refine (same_c none none 0 0 0 0 [] 0 0 false (fun _ _ => none) _ (keeps0 _) (SS.nil _) (SS.nil _)).mono ?_
        rintro e w4 ⟨rfl, hb4⟩
        have bx4 := ((hbx.below hb2 hbx.lt).alloc (.cells #[.slice none 0 0, .int .i64 0, .int .i64 0, .bool false] 26)).below hb3 (by have := (hbx.below hb2 hbx.lt).lt; simp; omega)
        have bx5 := (bx4.alloc _).below hb4 (by have := bx4.lt; simp; omega)
        have hbf : Below w.heap.size w w4 := (by repeat (first | (with_reducible exact Below.refl _ _) | (with_reducible refine Below.drew ?_) | (with_reducible refine belowDrewN ?_ _) | (with_reducible refine belowAlloc ?_ _) | ((with_reducible refine belowSet2 ?_ ?_); omega) | (with_reducible assumption) | (with_reducible refine belowVia (by assumption) ?_) | (with_reducible refine belowVia (Grow.below (by assumption)) ?_)))
        go_wp2
        go_roundw
        case rel => exact ⟨k + 1, by omega, by go_num, hbf, bx5⟩
        case measure => simp [intOf]; omega
    · obtain rfl : k = 2 := by omega
      go_wp2
      go_ret
      exact ⟨rfl, hbel⟩
end Go.Proofs.Ytegkmkglagmdiaa
