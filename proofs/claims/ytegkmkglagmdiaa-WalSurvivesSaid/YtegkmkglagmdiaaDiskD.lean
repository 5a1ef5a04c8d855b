/-
  What is proved here: contracts of disk.Restart, disk.Stop and of the references Restart and Check
-/
import Derived.Test.YtegkmkglagmdiaaRows
import Derived.Test.YtegkmkglagmdiaaDiskC
import Derived.Deep.RegionHeld3
import Derived.Deep.DeepCutAuto
import Derived.Deep.QuietTactic
import Derived.BigQuiet
import Derived.Laws.EntriesVeiled
namespace Go.Proofs.Ytegkmkglagmdiaa
open Go.RowKit Go.VS

def zeroD : Dsk := ⟨[], 0, 0, false⟩
def stopF (d : Dsk) (l t : Int) : Dsk × Int :=
  if chk d ≠ 0 ∨ l < -1 ∨ t < 0 ∨ 128 < t then (zeroD, 1) else if d.stopped then (zeroD, 410) else ({ d with left := l, tear := t }, 0)
def restartF (d : Dsk) : Dsk := { d with left := -1, tear := 0, stopped := false }

set_option maxHeartbeats 1000000 in
theorem restart_c (A : Option Addr) (n c : Nat) (l t : Int) (s : Bool) (w : World) :
    Calls Try.prog 31 #[.agg #[.slice A n c, .int .i64 l, .int .i64 t, .bool s]] w fun e w' => e = .returned (.agg #[.slice A n c, .int .i64 (-1), .int .i64 0, .bool false]) ∧ Below w.heap.size w w' := by
  go_enter Try.func31, Try.ntmps31
  go_wp2
  exact bodyPost_ret (v := .agg #[.slice A n c, .int .i64 (-1), .int .i64 0, .bool false]) (by simp [results, Try.results31, go_sem]) rfl ⟨rfl, (by repeat (with_reducible first | exact Below.refl _ _ | refine Below.drew ?_ | refine Below.alloc ?_ (by simp) _ | refine Below.setCell ?_ (by simp) _ | assumption | refine belowVia (by assumption) ?_ | refine belowVia (Grow.below (by assumption)) ?_))⟩

set_option maxHeartbeats 1000000 in
theorem refRestart_c (A : Option Addr) (n c : Nat) (l t : Int) (s : Bool) (w : World) :
    Calls Try.prog 22 #[.agg #[.slice A n c, .int .i64 l, .int .i64 t, .bool s]] w fun e w' => e = .returned (.agg #[.slice A n c, .int .i64 (-1), .int .i64 0, .bool false]) ∧ Below w.heap.size w w' := by
  go_enter Try.func22, Try.ntmps22
  go_wp2
  exact bodyPost_ret (v := .agg #[.slice A n c, .int .i64 (-1), .int .i64 0, .bool false]) (by simp [results, Try.results22, go_sem]) rfl ⟨rfl, (by repeat (with_reducible first | exact Below.refl _ _ | refine Below.drew ?_ | refine Below.alloc ?_ (by simp) _ | refine Below.setCell ?_ (by simp) _ | assumption | refine belowVia (by assumption) ?_ | refine belowVia (Grow.below (by assumption)) ?_))⟩

set_option maxHeartbeats 1000000 in
theorem stop_c (A : Option Addr) (n c : Nat) (xs : List (List UInt8)) (l t : Int) (s : Bool) (l' t' : Int) (D : Gh) (w : World) (hk : Keeps D w) (hs : SS D (.slice A n c) xs) :
    Calls Try.prog 27 #[.agg #[.slice A n c, .int .i64 l, .int .i64 t, .bool s], .int .i64 l', .int .i64 t'] w fun e w' => ∃ a n c, e = .returned (.tuple #[.agg #[.slice a n c, .int .i64 (stopF ⟨xs, l, t, s⟩ l' t').1.left, .int .i64 (stopF ⟨xs, l, t, s⟩ l' t').1.tear, .bool (stopF ⟨xs, l, t, s⟩ l' t').1.stopped], .int .i64 (stopF ⟨xs, l, t, s⟩ l' t').2]) ∧ Below w.heap.size w w' ∧ SS D (.slice a n c) (stopF ⟨xs, l, t, s⟩ l' t').1.secs := by
  have HC := fun W hk => Lib.hid (check_c A n c xs l t s D W hk hs)
  rcases chk01 ⟨xs, l, t, s⟩ with h0 | h0
  · by_cases h1 : l' < -1 ∨ t' < 0 ∨ 128 < t'
    · have hf : stopF ⟨xs, l, t, s⟩ l' t' = (zeroD, 1) := by unfold stopF; rw [if_pos (.inr h1)]
      rw [hf]
      have H0 := Lib.hid h0
      clear h0
      clear hf
      rcases (show (decide (l' < -1) = true) ∨ (decide (l' < -1) = false ∧ decide (t' < 0) = true) ∨ (decide (l' < -1) = false ∧ decide (t' < 0) = false ∧ decide (128 < t') = true) by simp; omega) with g1 | ⟨g1, g2⟩ | ⟨g1, g2, g3⟩
      all_goals
        clear h1
        go_enter Try.func27, Try.ntmps27
        go_wp2_with fail
        refine (HC _ (by repeat (with_reducible first | assumption | refine Keeps.drew ?_ | refine Keeps.alloc ?_ _ | exact Grow.keeps (by assumption)))).out.mono ?_
        rintro e w1 ⟨rfl, hb1⟩
        rw [H0.out]
        have bx := (Box.new (hk.alloc (.cells #[.slice A n c, .int .i64 l, .int .i64 t, .bool s] 26)) 26 #[.slice none 0 0, .int .i64 0, .int .i64 0, .bool false]).below hb1 (by simp)
        have q := bx.cell
        have f := bx.frozen
        simp only [World.size_alloc] at q f
        go_wp2
        exact bodyPost_ret (v := .tuple #[.agg #[.slice none 0 0, .int .i64 0, .int .i64 0, .bool false], .int .i64 1]) (by simp [results, Try.results27, go_sem, q]) rfl ⟨none, 0, 0, rfl, (by repeat (with_reducible first | exact Below.refl _ _ | refine Below.drew ?_ | refine Below.alloc ?_ (by simp) _ | refine Below.setCell ?_ (by simp) _ | assumption | refine belowVia (by assumption) ?_ | refine belowVia (Grow.below (by assumption)) ?_)), SS.nil D⟩
    · have g1 : decide (l' < -1) = false := by simp; omega
      have g2 : decide (t' < 0) = false := by simp; omega
      have g3 : decide (128 < t') = false := by simp; omega
      cases s with
      | true =>
        have hf : stopF ⟨xs, l, t, true⟩ l' t' = (zeroD, 410) := by unfold stopF; rw [if_neg (by rw [h0]; simp; omega), if_pos rfl]
        rw [hf]
        have H0 := Lib.hid h0
        clear h0
        clear hf h1
        go_enter Try.func27, Try.ntmps27
        go_wp2_with fail
        refine (HC _ (by repeat (with_reducible first | assumption | refine Keeps.drew ?_ | refine Keeps.alloc ?_ _ | exact Grow.keeps (by assumption)))).out.mono ?_
        rintro e w1 ⟨rfl, hb1⟩
        rw [H0.out]
        have bx := (Box.new (hk.alloc (.cells #[.slice A n c, .int .i64 l, .int .i64 t, .bool true] 26)) 26 #[.slice none 0 0, .int .i64 0, .int .i64 0, .bool false]).below hb1 (by simp)
        have bd := ((Box.new hk 26 #[.slice A n c, .int .i64 l, .int .i64 t, .bool true]).alloc _).below hb1 (by simp; omega)
        have q := bx.cell
        have f := bx.frozen
        have qd := bd.cell
        have fd := bd.frozen
        simp only [World.size_alloc] at q f
        go_wp2
        exact bodyPost_ret (v := .tuple #[.agg #[.slice none 0 0, .int .i64 0, .int .i64 0, .bool false], .int .i64 410]) (by simp [results, Try.results27, go_sem, q]) rfl ⟨none, 0, 0, rfl, (by repeat (with_reducible first | exact Below.refl _ _ | refine Below.drew ?_ | refine Below.alloc ?_ (by simp) _ | refine Below.setCell ?_ (by simp) _ | assumption | refine belowVia (by assumption) ?_ | refine belowVia (Grow.below (by assumption)) ?_)), SS.nil D⟩
      | false =>
        have hf : stopF ⟨xs, l, t, false⟩ l' t' = (⟨xs, l', t', false⟩, 0) := by unfold stopF; rw [if_neg (by rw [h0]; simp; omega), if_neg (by simp)]
        rw [hf]
        have H0 := Lib.hid h0
        clear h0
        clear hf h1
        go_enter Try.func27, Try.ntmps27
        go_wp2_with fail
        refine (HC _ (by repeat (with_reducible first | assumption | refine Keeps.drew ?_ | refine Keeps.alloc ?_ _ | exact Grow.keeps (by assumption)))).out.mono ?_
        rintro e w1 ⟨rfl, hb1⟩
        rw [H0.out]
        have bx := (Box.new (hk.alloc (.cells #[.slice A n c, .int .i64 l, .int .i64 t, .bool false] 26)) 26 #[.slice none 0 0, .int .i64 0, .int .i64 0, .bool false]).below hb1 (by simp)
        have bd := ((Box.new hk 26 #[.slice A n c, .int .i64 l, .int .i64 t, .bool false]).alloc _).below hb1 (by simp; omega)
        have q := bx.cell
        have f := bx.frozen
        have qd := bd.cell
        have fd := bd.frozen
        simp only [World.size_alloc] at q f
        go_wp2
        exact bodyPost_ret (v := .tuple #[.agg #[.slice A n c, .int .i64 l', .int .i64 t', .bool false], .int .i64 0]) (by simp [results, Try.results27, go_sem, q]) rfl ⟨A, n, c, rfl, (by repeat (with_reducible first | exact Below.refl _ _ | refine Below.drew ?_ | refine Below.alloc ?_ (by simp) _ | refine Below.setCell ?_ (by simp) _ | assumption | refine belowVia (by assumption) ?_ | refine belowVia (Grow.below (by assumption)) ?_)), hs⟩
  · have hf : stopF ⟨xs, l, t, s⟩ l' t' = (zeroD, 1) := by unfold stopF; rw [if_pos (.inl (by rw [h0]; simp))]
    rw [hf]
    have H0 := Lib.hid h0
    clear h0
    clear hf
    go_enter Try.func27, Try.ntmps27
    go_wp2_with fail
    refine (HC _ (by repeat (with_reducible first | assumption | refine Keeps.drew ?_ | refine Keeps.alloc ?_ _ | exact Grow.keeps (by assumption)))).out.mono ?_
    rintro e w1 ⟨rfl, hb1⟩
    rw [H0.out]
    have bx := (Box.new (hk.alloc (.cells #[.slice A n c, .int .i64 l, .int .i64 t, .bool s] 26)) 26 #[.slice none 0 0, .int .i64 0, .int .i64 0, .bool false]).below hb1 (by simp)
    have bd := ((Box.new hk 26 #[.slice A n c, .int .i64 l, .int .i64 t, .bool s]).alloc _).below hb1 (by simp; omega)
    have q := bx.cell
    have f := bx.frozen
    have qd := bd.cell
    have fd := bd.frozen
    simp only [World.size_alloc] at q f
    go_wp2
    exact bodyPost_ret (v := .tuple #[.agg #[.slice none 0 0, .int .i64 0, .int .i64 0, .bool false], .int .i64 1]) (by simp [results, Try.results27, go_sem, q]) rfl ⟨none, 0, 0, rfl, (by repeat (with_reducible first | exact Below.refl _ _ | refine Below.drew ?_ | refine Below.alloc ?_ (by simp) _ | refine Below.setCell ?_ (by simp) _ | assumption | refine belowVia (by assumption) ?_ | refine belowVia (Grow.below (by assumption)) ?_)), SS.nil D⟩
set_option maxHeartbeats 2000000 in
theorem refCheck_c (A : Option Addr) (n c : Nat) (xs : List (List UInt8)) (l t : Int) (s : Bool) (D : Gh) (w : World) (hk : Keeps D w) (hs : SS D (.slice A n c) xs) :
    Calls Try.prog 30 #[.agg #[.slice A n c, .int .i64 l, .int .i64 t, .bool s]] w fun e w' => e = .returned (.int .i64 (chk ⟨xs, l, t, s⟩)) ∧ Below w.heap.size w w' := by
  obtain ⟨hn, hnc, hcm⟩ := hs.len
  unfold maxLen at hcm
  have HN := Lib.hid hn
  clear hn
  by_cases hbad : n < 1 ∨ 4096 < n ∨ l < -1 ∨ t < 0 ∨ 128 < t ∨ (s = true ∧ l ≠ 0)
  · have hf : chk ⟨xs, l, t, s⟩ = 1 := chk_bad (by
      simp only [← HN.out]
      rintro ⟨a1, a2, a3, a4, a5, a6, a7⟩
      rcases hbad with h | h | h | h | h | ⟨h, h'⟩
      · omega
      · omega
      · omega
      · omega
      · omega
      · exact h' (a7 h))
    have HF := Lib.hid hf
    clear hf
    rcases (show (decide ((n : Int) < 1) = true) ∨ (decide ((n : Int) < 1) = false ∧ decide (4096 < (n : Int)) = true) ∨ (decide ((n : Int) < 1) = false ∧ decide (4096 < (n : Int)) = false ∧ decide (l < -1) = true) ∨ (decide ((n : Int) < 1) = false ∧ decide (4096 < (n : Int)) = false ∧ decide (l < -1) = false ∧ decide (t < 0) = true) ∨ (decide ((n : Int) < 1) = false ∧ decide (4096 < (n : Int)) = false ∧ decide (l < -1) = false ∧ decide (t < 0) = false ∧ decide (128 < t) = true) ∨ (decide ((n : Int) < 1) = false ∧ decide (4096 < (n : Int)) = false ∧ decide (l < -1) = false ∧ decide (t < 0) = false ∧ decide (128 < t) = false ∧ s = true ∧ (l != 0) = true) by simp; rcases hbad with h | h | h | h | h | ⟨h, h'⟩ <;> first | omega | (simp only [h]; simp; omega)) with g1 | ⟨g1, g2⟩ | ⟨g1, g2, g3⟩ | ⟨g1, g2, g3, g4⟩ | ⟨g1, g2, g3, g4, g5⟩ | ⟨g1, g2, g3, g4, g5, rfl, g6⟩
    all_goals
      clear hbad
      go_enter Try.func30, Try.ntmps30
      go_wp2
      go_ret
      exact ⟨by rw [HF.out]; rfl, (by repeat (with_reducible first | exact Below.refl _ _ | refine Below.drew ?_ | refine Below.alloc ?_ (by simp) _ | refine Below.setCell ?_ (by simp) _ | assumption | refine belowVia (by assumption) ?_ | refine belowVia (Grow.below (by assumption)) ?_))⟩
  · have g1 : decide ((n : Int) < 1) = false := by simp; omega
    have g2 : decide (4096 < (n : Int)) = false := by simp; omega
    have g3 : decide (l < -1) = false := by simp; omega
    have g4 : decide (t < 0) = false := by simp; omega
    have g5 : decide (128 < t) = false := by simp; omega
    have hn2 : n ≤ 4096 := by omega
    have hsl : s = true → l = 0 := by intro h; by_cases e : l = 0; · exact e
                                      · exact absurd (.inr (.inr (.inr (.inr (.inr ⟨h, e⟩))))) hbad
    have H1 : Hid (1 ≤ n ∧ n ≤ 4096 ∧ -1 ≤ l ∧ 0 ≤ t ∧ t ≤ 128 ∧ (s = true → l = 0)) := ⟨by omega, by omega, by omega, by omega, by omega, hsl⟩
    have Hb : Hid (∀ k (h : k < xs.length), xs[k].length ≠ 128 → chk ⟨xs, l, t, s⟩ = 1) := fun k h hx => chk_bad (fun hh => hx (hh.2.2.1 _ (List.getElem_mem h)))
    have Ho : Hid ((∀ x ∈ xs, x.length = 128) → chk ⟨xs, l, t, s⟩ = 0) := fun h => chk_ok ⟨by rw [← HN.out]; exact H1.out.1, by rw [← HN.out]; exact H1.out.2.1, h, H1.out.2.2⟩
    have key : (s = false) ∨ (s = true ∧ l = 0) := by cases s; · exact .inl rfl
                                                      · exact .inr ⟨rfl, hsl rfl⟩
    clear hbad hsl
    rcases key with rfl | ⟨rfl, rfl⟩
    all_goals
      go_enter Try.func30, Try.ntmps30
      go_wp2
      go_loop [3] (fun i => ∃ k : Nat, k ≤ n ∧ i = .int .i64 k ∧ ∀ j x, j < k → xs[j]? = some x → x.length = 128) (fun i => n - (intOf i).toNat)
      case atStart => exact ⟨0, Nat.zero_le _, rfl, fun j x h => by omega⟩
      case round =>
        obtain ⟨k, hk', rfl, hall⟩ := hrel
        have HA := Lib.hid hall
        clear hall
        by_cases hlt : k < n
        · have hkx : k < xs.length := by rw [← HN.out]; exact hlt
          obtain ⟨b, o, a', c', rfl, hcell, hbs⟩ := hs.at_ hk hkx
          clear hbs
          have hbl := World.block_lt_of_cell? w _ hcell
          simp only at hbl
          by_cases hx : xs[k].length = 128
          · have hb : ((xs[k].length : Int) != 128) = false := by simp; omega
            have HX := Lib.hid hx
            clear hx
            go_wp2
            go_round
            case rel => exact ⟨k + 1, by omega, by go_num, fun j x hj hx => by
              rcases Nat.lt_or_ge j k with h | h
              · exact HA.out j x h hx
              · obtain rfl : j = k := by omega
                rw [List.getElem?_eq_getElem hkx] at hx
                injection hx with hx
                rw [← hx]; exact HX.out⟩
            case measure => simp [intOf]; omega
          · have hb : ((xs[k].length : Int) != 128) = true := by simp; omega
            have hf := Lib.hid (Hb.out k hkx hx)
            have HX := Lib.hid hx
            clear hx
            go_wp2
            go_ret
            exact ⟨by rw [hf.out]; rfl, (by repeat (with_reducible first | exact Below.refl _ _ | refine Below.drew ?_ | refine Below.alloc ?_ (by simp) _ | refine Below.setCell ?_ (by simp) _ | assumption | refine belowVia (by assumption) ?_ | refine belowVia (Grow.below (by assumption)) ?_))⟩
        · have hf := Ho.out (fun x hx => by
            obtain ⟨j, hj, rfl⟩ := List.getElem_of_mem hx
            exact HA.out j _ (by rw [← HN.out] at hj; omega) (List.getElem?_eq_getElem hj))
          have HF := Lib.hid hf
          clear hf
          go_wp2
          go_ret
          exact ⟨by rw [HF.out]; rfl, (by repeat (with_reducible first | exact Below.refl _ _ | refine Below.drew ?_ | refine Below.alloc ?_ (by simp) _ | refine Below.setCell ?_ (by simp) _ | assumption | refine belowVia (by assumption) ?_ | refine belowVia (Grow.below (by assumption)) ?_))⟩
end Go.Proofs.Ytegkmkglagmdiaa
