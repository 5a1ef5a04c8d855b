/-
  What is proved here: the specification's Sectors, Used and Check compute what the log's own do
-/
import Derived.Test.YtegkmkglagmdiaaRows
import Derived.Test.YtegkmkglagmdiaaBaseB
import Derived.Test.YtegkmkglagmdiaaCrc
import Derived.Test.YtegkmkglagmdiaaWalP
import Derived.Test.YtegkmkglagmdiaaWalA
import Derived.Test.YtegkmkglagmdiaaWalB
import Derived.Test.YtegkmkglagmdiaaWalC
import Derived.Test.YtegkmkglagmdiaaWalD
import Derived.Test.YtegkmkglagmdiaaWalE
import Derived.Test.YtegkmkglagmdiaaDiskF
import Derived.Test.YtegkmkglagmdiaaDiskH
import Derived.Test.YtegkmkglagmdiaaWalF
import Derived.Test.YtegkmkglagmdiaaRangeF
import Derived.Test.YtegkmkglagmdiaaWalG
import Derived.Test.YtegkmkglagmdiaaWalH
import Derived.Test.YtegkmkglagmdiaaWalI
import Derived.Test.YtegkmkglagmdiaaWalJ
import Derived.Test.YtegkmkglagmdiaaWalK
import Derived.Test.YtegkmkglagmdiaaWalL
import Derived.Test.YtegkmkglagmdiaaWalS
import Derived.Test.YtegkmkglagmdiaaWalT
import Derived.Test.YtegkmkglagmdiaaWalU
import Derived.Test.YtegkmkglagmdiaaWalV
import Derived.Test.YtegkmkglagmdiaaDiskI
import Derived.OwnWalkIn
import Derived.TacticsInMore
import Derived.LoopNIn
import Derived.LoopIn
import Derived.Scope
import Derived.StillTailTactics
import Derived.Shelf.Abstract
import Derived.RangeFuncCalls
import Derived.Laws.BitsAllLaws
import Derived.Deep.RegionHeld3
import Derived.Deep.RegionLaw
import Derived.Deep.DeepCutAuto
import Derived.Deep.QuietTactic
import Derived.BigQuiet
import Derived.Laws.EntriesVeiled
import Derived.Deep.MidRow
import Derived.Laws.CopyRow
namespace Go.Proofs.Ytegkmkglagmdiaa
open Go.RowKit Go.VS
def secW (n : Nat) : Int := if 1 < wrap64 ((wrap64 (wrap64 ((n : Int) + 112) - 1)).tdiv 112) then wrap64 ((wrap64 (wrap64 ((n : Int) + 112) - 1)).tdiv 112) else 1
theorem rsec_c (n : Nat) (w : World) : Calls Try.prog 55 #[.int .i64 n] w fun e w' => e = .returned (.int .i64 (secW n)) ∧ w = w' := by
  have HS := Lib.hid (show secW n = if 1 < wrap64 ((wrap64 (wrap64 ((n : Int) + 112) - 1)).tdiv 112) then wrap64 ((wrap64 (wrap64 ((n : Int) + 112) - 1)).tdiv 112) else 1 from rfl)
  go_enter Try.func55, Try.ntmps55
  go_wp2
  all_goals go_ret
  · exact ⟨by rw [HS.out, if_pos (by omega)]; rfl, rfl⟩
  · exact ⟨by rw [HS.out, if_neg (by omega)]; rfl, rfl⟩
theorem secW_ok {n : Nat} (h : n ≤ 1000000000000) : secW n = (occ n : Nat) := by
  unfold secW occ
  have e1 : wrap64 ((n : Int) + 112) = n + 112 := by unfold wrap64; omega
  have e2 : wrap64 ((n : Int) + 112 - 1) = n + 111 := by unfold wrap64; omega
  rw [e1, e2, Int.tdiv_eq_ediv_of_nonneg (by omega)]
  have e3 : wrap64 (((n : Int) + 111) / 112) = ((n : Int) + 111) / 112 := by unfold wrap64; omega
  rw [e3]
  split <;> omega
def usedW (xs : List (List UInt8)) : Int := xs.foldl (fun a x => wrap64 (a + secW x.length)) 0
theorem usedW_take {xs : List (List UInt8)} {i : Nat} {x : List UInt8} (h : xs[i]? = some x) : usedW (xs.take (i + 1)) = wrap64 (usedW (xs.take i) + secW x.length) := by
  unfold usedW
  rw [List.take_add_one, h]
  simp
theorem usedW_from : ∀ (xs : List (List UInt8)) (a : Nat), (∀ x ∈ xs, x.length ≤ 1000000000000) → a + occs xs ≤ 9000000000000000000 → xs.foldl (fun a x => wrap64 (a + secW x.length)) (a : Int) = ((a + occs xs : Nat) : Int)
  | [], a, _, _ => by simp [occs]
  | x :: r, a, h, ha => by
    rw [occs_cons] at ha
    rw [List.foldl_cons, secW_ok (h x (by simp)), show wrap64 ((a : Int) + (occ x.length : Nat)) = ((a + occ x.length : Nat) : Int) by unfold wrap64; omega, usedW_from r _ (fun y hy => h y (by simp [hy])) (by omega), occs_cons]
    omega
theorem usedW_ok {xs : List (List UInt8)} (h : ∀ x ∈ xs, x.length ≤ 1000000000000) (ho : occs xs ≤ 9000000000000000000) : usedW xs = (occs xs : Nat) := by
  have := usedW_from xs 0 h (by omega)
  unfold usedW
  simpa using this
set_option maxRecDepth 100000 in
set_option maxHeartbeats 1000000 in
theorem rused_c (A : Option Addr) (n c : Nat) (xs : List (List UInt8)) (D : Gh) (w : World) (hk : Keeps D w) (hs : SS D (.slice A n c) xs) :
    Calls Try.prog 56 #[.slice A n c] w fun e w' => e = .returned (.int .i64 (usedW xs)) ∧ w = w' := by
  obtain ⟨hn, hnc, hcm⟩ := hs.len
  unfold maxLen at hcm
  have HN := Lib.hid hn
  clear hn
  go_enter Try.func56, Try.ntmps56
  go_wp2_with fail
  go_loop [3, 4] (fun r y => ∃ i : Nat, i ≤ n ∧ r = .int .i64 (usedW (xs.take i)) ∧ y = .int .i64 i) (fun _ y => n - (intOf y).toNat)
  case atStart => exact ⟨0, by omega, rfl, rfl⟩
  case round =>
    obtain ⟨i, hi, rfl, rfl⟩ := hrel
    by_cases hlt : i < n
    · obtain ⟨b, o, a', c', rfl, hcu, hbs⟩ := hs.at_ hk (k := i) (by rw [← HN.out]; exact hlt)
      have hxi : xs[i]? = some (xs[i]'(by rw [← HN.out]; exact hlt)) := List.getElem?_eq_getElem _
      have HT := Lib.hid (usedW_take hxi)
      generalize xs[i]'(by rw [← HN.out]; exact hlt) = x at *
      have HOC := Lib.hid (fun W => rsec_c x.length W)
      generalize secW x.length = ox at *
      generalize x.length = lx at *
      generalize usedW (xs.take i) = os at *
      have g1 : (i : Int) < (n : Int) := by omega
      have g0 : (0 : Int) ≤ (i : Int) := by omega
      clear hxi hbs
      go_wp2_with fail
      refine (HOC.out _).mono ?_
      rintro e w1 ⟨rfl, rfl⟩
      go_wp2
      go_round
      case rel => exact ⟨i + 1, by omega, by rw [HT.out], by go_num⟩
      case measure => simp [intOf]; omega
    · obtain rfl : i = n := by omega
      have HT := Lib.hid (show usedW (xs.take i) = usedW xs from by rw [List.take_of_length_le (by rw [← HN.out]; exact Nat.le_refl _)])
      go_wp2
      go_ret
      exact ⟨by rw [← HT.out]; rfl, rfl⟩
set_option maxRecDepth 100000 in
set_option maxHeartbeats 4000000 in
theorem rcheck_c (A : Option Addr) (n c : Nat) (xs : List (List UInt8)) (f m s : Int) (D : Gh) (w : World) (hk : Keeps D w) (hs : SS D (.slice A n c) xs) (hn43 : n ≤ 8796093022208) :
    Calls Try.prog 38 #[.agg #[.int .i64 f, .int .i64 m, .slice A n c, .int .i64 s]] w fun e w' => e = .returned (.int .i64 (chkL f m xs s)) ∧ Below w.heap.size w w' := by
  obtain ⟨hn, hnc, hcm⟩ := hs.len
  unfold maxLen at hcm
  have HN := Lib.hid hn
  clear hn
  obtain ⟨D1, hg1, hle1, hat1⟩ := newvar (Grow.refl hk) 47 #[.int .i64 f, .int .i64 m, .slice A n c, .int .i64 s]
  have SH : Hid (∀ W, Keeps D1 W → (Keeps D1 W ∧ W.cell? ⟨w.heap.size, 0, none⟩ = some (.int .i64 f) ∧ W.cell? ⟨w.heap.size, 1, none⟩ = some (.int .i64 m) ∧ W.cell? ⟨w.heap.size, 2, none⟩ = some (.slice A n c) ∧ W.cell? ⟨w.heap.size, 3, none⟩ = some (.int .i64 s))) := fun W hkc => ⟨hkc, hkc _ _ _ (hat1 0 _ rfl), hkc _ _ _ (hat1 1 _ rfl), hkc _ _ _ (hat1 2 _ rfl), hkc _ _ _ (hat1 3 _ rfl)⟩
  clear hat1
  have hs1 := hs.le hle1
  have hk1 : Keeps D1 _ := hg1.keeps
  have HGB := Lib.hid hg1.below
  have HUS := Lib.hid (fun W (hW : Keeps D1 W) => rused_c A n c xs D1 W hW hs1)
  have huse : ((∀ x ∈ xs, x.length ≤ 65536) ∧ usedW xs = (occs xs : Nat)) ∨ ¬ (∀ x ∈ xs, x.length ≤ 65536) := by
    by_cases h : ∀ x ∈ xs, x.length ≤ 65536
    · left
      have hb := occs_bound xs h
      have := HN.out
      exact ⟨h, usedW_ok (fun x hx => by have := h x hx; omega) (by omega)⟩
    · exact Or.inr h
  have HUSE := Lib.hid huse
  clear huse hg1 hle1
  go_enter Try.func38, Try.ntmps38
  go_wp2_with fail
  generalize w.alloc (.cells #[.int .i64 f, .int .i64 m, .slice A n c, .int .i64 s] 47) = w1 at *
  obtain ⟨_, q0, q1, q2, q3⟩ := SH.out _ hk1
  by_cases h1 : f < 0
  · have hf : chkL f m xs s = 1 := chkL_bad (by rintro ⟨_, _, _, _, _, _, _, _⟩; omega)
    have HF := Lib.hid hf
    clear hf
    have g1 : decide (f < 0) = true := by simp; omega
    go_quiet (fail)
    go_wp2
    have hb1 := HGB.out
    go_ret
    exact ⟨by rw [HF.out]; rfl, (by repeat (first | (with_reducible exact Below.refl _ _) | (with_reducible refine Below.drew ?_) | (with_reducible refine belowDrewN ?_ _) | (with_reducible refine belowAlloc ?_ _) | ((with_reducible refine belowSet2 ?_ ?_); omega) | (with_reducible assumption) | (with_reducible refine belowVia (by assumption) ?_) | (with_reducible refine belowVia (Grow.below (by assumption)) ?_)))⟩
  have g1 : decide (f < 0) = false := by simp; omega
  by_cases h2 : m < 1
  · have hf : chkL f m xs s = 1 := chkL_bad (by rintro ⟨_, _, _, _, _, _, _, _⟩; omega)
    have HF := Lib.hid hf
    clear hf
    have g2 : decide (m < 1) = true := by simp; omega
    go_quiet (fail)
    go_wp2
    have hb1 := HGB.out
    go_ret
    exact ⟨by rw [HF.out]; rfl, (by repeat (first | (with_reducible exact Below.refl _ _) | (with_reducible refine Below.drew ?_) | (with_reducible refine belowDrewN ?_ _) | (with_reducible refine belowAlloc ?_ _) | ((with_reducible refine belowSet2 ?_ ?_); omega) | (with_reducible assumption) | (with_reducible refine belowVia (by assumption) ?_) | (with_reducible refine belowVia (Grow.below (by assumption)) ?_)))⟩
  have g2 : decide (m < 1) = false := by simp; omega
  by_cases h3 : 4096 < m
  · have hf : chkL f m xs s = 1 := chkL_bad (by rintro ⟨_, _, _, _, _, _, _, _⟩; omega)
    have HF := Lib.hid hf
    clear hf
    have g3 : decide (4096 < m) = true := by simp; omega
    go_quiet (fail)
    go_wp2
    have hb1 := HGB.out
    go_ret
    exact ⟨by rw [HF.out]; rfl, (by repeat (first | (with_reducible exact Below.refl _ _) | (with_reducible refine Below.drew ?_) | (with_reducible refine belowDrewN ?_ _) | (with_reducible refine belowAlloc ?_ _) | ((with_reducible refine belowSet2 ?_ ?_); omega) | (with_reducible assumption) | (with_reducible refine belowVia (by assumption) ?_) | (with_reducible refine belowVia (Grow.below (by assumption)) ?_)))⟩
  have g3 : decide (4096 < m) = false := by simp; omega
  have e0 : IntKind.i64.wrap (4096 - m) = 4096 - m := by rw [IntKind.wrap_i64]; omega
  by_cases h4 : 4096 - m < f
  · have hf : chkL f m xs s = 1 := chkL_bad (by rintro ⟨_, _, _, _, _, _, _, _⟩; omega)
    have HF := Lib.hid hf
    clear hf
    have g4 : decide (4096 - m < f) = true := by simp; omega
    go_quiet (fail)
    go_wp2
    have hb1 := HGB.out
    go_ret
    exact ⟨by rw [HF.out]; rfl, (by repeat (first | (with_reducible exact Below.refl _ _) | (with_reducible refine Below.drew ?_) | (with_reducible refine belowDrewN ?_ _) | (with_reducible refine belowAlloc ?_ _) | ((with_reducible refine belowSet2 ?_ ?_); omega) | (with_reducible assumption) | (with_reducible refine belowVia (by assumption) ?_) | (with_reducible refine belowVia (Grow.below (by assumption)) ?_)))⟩
  have g4 : decide (4096 - m < f) = false := by simp; omega
  by_cases h5 : s < 0
  · have hf : chkL f m xs s = 1 := chkL_bad (by rintro ⟨_, _, _, _, _, _, _, _⟩; omega)
    have HF := Lib.hid hf
    clear hf
    have g5 : decide (s < 0) = true := by simp; omega
    go_quiet (fail)
    go_wp2
    have hb1 := HGB.out
    go_ret
    exact ⟨by rw [HF.out]; rfl, (by repeat (first | (with_reducible exact Below.refl _ _) | (with_reducible refine Below.drew ?_) | (with_reducible refine belowDrewN ?_ _) | (with_reducible refine belowAlloc ?_ _) | ((with_reducible refine belowSet2 ?_ ?_); omega) | (with_reducible assumption) | (with_reducible refine belowVia (by assumption) ?_) | (with_reducible refine belowVia (Grow.below (by assumption)) ?_)))⟩
  have g5 : decide (s < 0) = false := by simp; omega
  by_cases h6 : (n : Int) < s
  · have hf : chkL f m xs s = 1 := chkL_bad (by rw [← HN.out]; rintro ⟨_, _, _, _, _, _, _, _⟩; omega)
    have HF := Lib.hid hf
    clear hf
    have g6 : decide ((n : Int) < s) = true := by simp; omega
    go_quiet (fail)
    go_wp2
    have hb1 := HGB.out
    go_ret
    exact ⟨by rw [HF.out]; rfl, (by repeat (first | (with_reducible exact Below.refl _ _) | (with_reducible refine Below.drew ?_) | (with_reducible refine belowDrewN ?_ _) | (with_reducible refine belowAlloc ?_ _) | ((with_reducible refine belowSet2 ?_ ?_); omega) | (with_reducible assumption) | (with_reducible refine belowVia (by assumption) ?_) | (with_reducible refine belowVia (Grow.below (by assumption)) ?_)))⟩
  have g6 : decide ((n : Int) < s) = false := by simp; omega
  by_cases h7 : m < usedW xs
  · have hf : chkL f m xs s = 1 := chkL_bad (by
      rintro ⟨_, _, _, _, _, _, h, _⟩
      rcases HUSE.out with hu | hu
      · rw [hu.2] at h7; omega
      · exact hu h)
    have HF := Lib.hid hf
    clear hf
    have g7 : decide (m < usedW xs) = true := by simp; omega
    generalize usedW xs = us at *
    go_region_held3 (fun W => Keeps D1 W ∧ W.cell? ⟨w.heap.size, 0, none⟩ = some (.int .i64 f) ∧ W.cell? ⟨w.heap.size, 1, none⟩ = some (.int .i64 m) ∧ W.cell? ⟨w.heap.size, 2, none⟩ = some (.slice A n c) ∧ W.cell? ⟨w.heap.size, 3, none⟩ = some (.int .i64 s))
      (first | (refine SH.out _ ?_; (exact (by repeat (with_reducible first | assumption | refine Keeps.drew ?_ | refine Keeps.drewN ?_ _ | refine Keeps.alloc ?_ _ | exact Grow.keeps (by assumption)))); done) | go_keep)
      (first | (go_at_call 56; refine (HUS.out _ (by repeat (with_reducible first | assumption | refine Keeps.drew ?_ | refine Keeps.drewN ?_ _ | refine Keeps.alloc ?_ _ | exact Grow.keeps (by assumption)))).mono ?_; rintro e y1 ⟨rfl, rfl⟩))
    go_wp2
    have hb1 := HGB.out
    go_ret
    exact ⟨by rw [HF.out]; rfl, (by repeat (first | (with_reducible exact Below.refl _ _) | (with_reducible refine Below.drew ?_) | (with_reducible refine belowDrewN ?_ _) | (with_reducible refine belowAlloc ?_ _) | ((with_reducible refine belowSet2 ?_ ?_); omega) | (with_reducible assumption) | (with_reducible refine belowVia (by assumption) ?_) | (with_reducible refine belowVia (Grow.below (by assumption)) ?_)))⟩
  have g7 : decide (m < usedW xs) = false := by simp; omega
  have HLAST := Lib.hid (show (∀ x ∈ xs, x.length ≤ 65536) → chkL f m xs s = 0 from fun h => chkL_ok ⟨by omega, by omega, by omega, by omega, by omega, by rw [← HN.out]; omega, h, by
    rcases HUSE.out with hu | hu
    · rw [hu.2] at h7; omega
    · exact absurd h hu⟩)
  generalize usedW xs = us at *
  go_region_held3 (fun W => Keeps D1 W ∧ W.cell? ⟨w.heap.size, 0, none⟩ = some (.int .i64 f) ∧ W.cell? ⟨w.heap.size, 1, none⟩ = some (.int .i64 m) ∧ W.cell? ⟨w.heap.size, 2, none⟩ = some (.slice A n c) ∧ W.cell? ⟨w.heap.size, 3, none⟩ = some (.int .i64 s))
    (first | (refine SH.out _ ?_; (exact (by repeat (with_reducible first | assumption | refine Keeps.drew ?_ | refine Keeps.drewN ?_ _ | refine Keeps.alloc ?_ _ | exact Grow.keeps (by assumption)))); done) | go_keep)
    (first | (go_at_call 56; refine (HUS.out _ (by repeat (with_reducible first | assumption | refine Keeps.drew ?_ | refine Keeps.drewN ?_ _ | refine Keeps.alloc ?_ _ | exact Grow.keeps (by assumption)))).mono ?_; rintro e y1 ⟨rfl, rfl⟩))
  go_wp2_with fail
  go_loop [3] (fun y => ∃ i : Nat, i ≤ n ∧ Hid (∀ x ∈ xs.take i, x.length ≤ 65536) ∧ y = .int .i64 i) (fun y => n - (intOf y).toNat)
  case atStart => exact ⟨0, by omega, Lib.hid (by simp), rfl⟩
  case round =>
    obtain ⟨i, hi, HPRE, rfl⟩ := hrel
    by_cases hlt : i < n
    · obtain ⟨b, o, a', c', rfl, hcu, hbs⟩ := hs1.at_ (by repeat (with_reducible first | assumption | refine Keeps.drew ?_ | refine Keeps.drewN ?_ _ | refine Keeps.alloc ?_ _ | exact Grow.keeps (by assumption))) (k := i) (by rw [← HN.out]; exact hlt)
      have hxi : xs[i]? = some (xs[i]'(by rw [← HN.out]; exact hlt)) := List.getElem?_eq_getElem _
      have hmem := List.getElem_mem (l := xs) (n := i) (by rw [← HN.out]; exact hlt)
      have HM := Lib.hid (And.intro hxi hmem)
      clear hxi hmem
      generalize xs[i]'(by rw [← HN.out]; exact hlt) = x at *
      generalize hlx : x.length = lx at *
      have HLX := Lib.hid hlx
      have gg1 : (i : Int) < (n : Int) := by omega
      have gg0 : (0 : Int) ≤ (i : Int) := by omega
      clear hbs hlx
      by_cases h8 : 65536 < lx
      · have hf : chkL f m xs s = 1 := chkL_bad (by rintro ⟨_, _, _, _, _, _, h, _⟩; have := h _ HM.out.2; rw [HLX.out] at this; omega)
        have HF := Lib.hid hf
        clear hf
        have g8 : (65536 : Int) < (lx : Int) := by omega
        go_wp2_with fail
        have hb1 := HGB.out
        go_ret
        exact ⟨by rw [HF.out]; rfl, (by repeat (first | (with_reducible exact Below.refl _ _) | (with_reducible refine Below.drew ?_) | (with_reducible refine belowDrewN ?_ _) | (with_reducible refine belowAlloc ?_ _) | ((with_reducible refine belowSet2 ?_ ?_); omega) | (with_reducible assumption) | (with_reducible refine belowVia (by assumption) ?_) | (with_reducible refine belowVia (Grow.below (by assumption)) ?_)))⟩
      · have g8 : ¬ (65536 : Int) < (lx : Int) := by omega
        go_wp2_with fail
        go_round
        case rel =>
          refine ⟨i + 1, by omega, Lib.hid ?_, by go_num⟩
          intro y hy
          rw [List.take_add_one, HM.out.1] at hy
          rcases List.mem_append.1 hy with hy | hy
          · exact HPRE.out _ hy
          · simp at hy; subst hy; rw [HLX.out]; omega
        case measure => simp [intOf]; omega
    · obtain rfl : i = n := by omega
      have hpre := HPRE.out
      rw [show xs.take i = xs from List.take_of_length_le (by rw [← HN.out]; exact Nat.le_refl _)] at hpre
      have HF := Lib.hid (HLAST.out hpre)
      clear hpre
      go_wp2_with fail
      have hb1 := HGB.out
      go_ret
      exact ⟨by rw [HF.out]; rfl, (by repeat (first | (with_reducible exact Below.refl _ _) | (with_reducible refine Below.drew ?_) | (with_reducible refine belowDrewN ?_ _) | (with_reducible refine belowAlloc ?_ _) | ((with_reducible refine belowSet2 ?_ ?_); omega) | (with_reducible assumption) | (with_reducible refine belowVia (by assumption) ?_) | (with_reducible refine belowVia (Grow.below (by assumption)) ?_)))⟩
end Go.Proofs.Ytegkmkglagmdiaa
