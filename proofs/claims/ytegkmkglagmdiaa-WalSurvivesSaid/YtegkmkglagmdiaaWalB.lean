/-
  What is proved here: wal: Check of a log
-/
import Derived.Test.YtegkmkglagmdiaaRows
import Derived.Test.YtegkmkglagmdiaaBaseB
import Derived.Test.YtegkmkglagmdiaaWalA
import Derived.Laws.BitsAllLaws
import Derived.Deep.RegionHeld3
import Derived.Deep.RegionLaw
import Derived.Deep.DeepCutAuto
import Derived.Deep.QuietTactic
import Derived.BigQuiet
import Derived.Laws.EntriesVeiled
namespace Go.Proofs.Ytegkmkglagmdiaa
open Go.RowKit Go.VS
def okL (f m : Int) (xs : List (List UInt8)) (s : Int) : Bool := decide (0 ≤ f ∧ 1 ≤ m ∧ m ≤ 4096 ∧ f ≤ 4096 - m ∧ 0 ≤ s ∧ s ≤ xs.length ∧ (∀ x ∈ xs, x.length ≤ 65536) ∧ (occs xs : Int) ≤ m)
def chkL (f m : Int) (xs : List (List UInt8)) (s : Int) : Int := if okL f m xs s = true then 0 else 1
theorem chkL_bad {f m : Int} {xs : List (List UInt8)} {s : Int} (h : ¬ (0 ≤ f ∧ 1 ≤ m ∧ m ≤ 4096 ∧ f ≤ 4096 - m ∧ 0 ≤ s ∧ s ≤ xs.length ∧ (∀ x ∈ xs, x.length ≤ 65536) ∧ (occs xs : Int) ≤ m)) : chkL f m xs s = 1 := by
  unfold chkL okL; rw [if_neg]; rw [decide_eq_true_iff]; exact h
theorem chkL_ok {f m : Int} {xs : List (List UInt8)} {s : Int} (h : 0 ≤ f ∧ 1 ≤ m ∧ m ≤ 4096 ∧ f ≤ 4096 - m ∧ 0 ≤ s ∧ s ≤ xs.length ∧ (∀ x ∈ xs, x.length ≤ 65536) ∧ (occs xs : Int) ≤ m) : chkL f m xs s = 0 := by
  unfold chkL okL; rw [if_pos]; rw [decide_eq_true_iff]; exact h
theorem occ_le_piece {n : Nat} (h : n ≤ 65536) : occ n ≤ 586 := by unfold occ; omega
theorem occs_bound : ∀ (xs : List (List UInt8)), (∀ x ∈ xs, x.length ≤ 65536) → occs xs ≤ 586 * xs.length
  | [], _ => by simp [occs]
  | x :: r, h => by
    rw [occs_cons]
    have h1 := occ_le_piece (h x (by simp))
    have h2 := occs_bound r (fun y hy => h y (by simp [hy]))
    simp only [List.length_cons]
    omega
set_option maxRecDepth 100000 in
set_option maxHeartbeats 1000000 in
theorem logcheck_c (A : Option Addr) (n c : Nat) (xs : List (List UInt8)) (f m s : Int) (D : Gh) (w : World) (hk : Keeps D w) (hs : SS D (.slice A n c) xs) (hn43 : n ≤ 8796093022208) :
    Calls Try.prog 37 #[.agg #[.int .i64 f, .int .i64 m, .slice A n c, .int .i64 s]] w fun e w' => e = .returned (.int .i64 (chkL f m xs s)) ∧ Below w.heap.size w w' := by
  obtain ⟨hn, hnc, hcm⟩ := hs.len
  unfold maxLen at hcm
  have HN := Lib.hid hn
  clear hn
  by_cases h1 : f < 0
  · have hf : chkL f m xs s = 1 := chkL_bad (by rintro ⟨_, _, _, _, _, _, _, _⟩; omega)
    have HF := Lib.hid hf
    clear hf
    go_enter Try.func37, Try.ntmps37
    go_wp2_with fail
    go_ret
    exact ⟨by rw [HF.out]; rfl, (by repeat (first | (with_reducible exact Below.refl _ _) | (with_reducible refine Below.drew ?_) | (with_reducible refine belowDrewN ?_ _) | (with_reducible refine belowAlloc ?_ _) | ((with_reducible refine belowSet2 ?_ ?_); omega) | (with_reducible assumption) | (with_reducible refine belowVia (by assumption) ?_) | (with_reducible refine belowVia (Grow.below (by assumption)) ?_)))⟩
  by_cases h2 : m < 1
  · have hf : chkL f m xs s = 1 := chkL_bad (by rintro ⟨_, _, _, _, _, _, _, _⟩; omega)
    have HF := Lib.hid hf
    clear hf
    go_enter Try.func37, Try.ntmps37
    go_wp2_with fail
    go_ret
    exact ⟨by rw [HF.out]; rfl, (by repeat (first | (with_reducible exact Below.refl _ _) | (with_reducible refine Below.drew ?_) | (with_reducible refine belowDrewN ?_ _) | (with_reducible refine belowAlloc ?_ _) | ((with_reducible refine belowSet2 ?_ ?_); omega) | (with_reducible assumption) | (with_reducible refine belowVia (by assumption) ?_) | (with_reducible refine belowVia (Grow.below (by assumption)) ?_)))⟩
  by_cases h3 : 4096 < m
  · have hf : chkL f m xs s = 1 := chkL_bad (by rintro ⟨_, _, _, _, _, _, _, _⟩; omega)
    have HF := Lib.hid hf
    clear hf
    go_enter Try.func37, Try.ntmps37
    go_wp2_with fail
    go_ret
    exact ⟨by rw [HF.out]; rfl, (by repeat (first | (with_reducible exact Below.refl _ _) | (with_reducible refine Below.drew ?_) | (with_reducible refine belowDrewN ?_ _) | (with_reducible refine belowAlloc ?_ _) | ((with_reducible refine belowSet2 ?_ ?_); omega) | (with_reducible assumption) | (with_reducible refine belowVia (by assumption) ?_) | (with_reducible refine belowVia (Grow.below (by assumption)) ?_)))⟩
  by_cases h4 : 4096 - m < f
  · have hf : chkL f m xs s = 1 := chkL_bad (by rintro ⟨_, _, _, _, _, _, _, _⟩; omega)
    have HF := Lib.hid hf
    clear hf
    go_enter Try.func37, Try.ntmps37
    go_wp2_with fail
    go_ret
    exact ⟨by rw [HF.out]; rfl, (by repeat (first | (with_reducible exact Below.refl _ _) | (with_reducible refine Below.drew ?_) | (with_reducible refine belowDrewN ?_ _) | (with_reducible refine belowAlloc ?_ _) | ((with_reducible refine belowSet2 ?_ ?_); omega) | (with_reducible assumption) | (with_reducible refine belowVia (by assumption) ?_) | (with_reducible refine belowVia (Grow.below (by assumption)) ?_)))⟩
  by_cases h5 : s < 0
  · have hf : chkL f m xs s = 1 := chkL_bad (by rintro ⟨_, _, _, _, _, _, _, _⟩; omega)
    have HF := Lib.hid hf
    clear hf
    go_enter Try.func37, Try.ntmps37
    go_wp2_with fail
    go_ret
    exact ⟨by rw [HF.out]; rfl, (by repeat (first | (with_reducible exact Below.refl _ _) | (with_reducible refine Below.drew ?_) | (with_reducible refine belowDrewN ?_ _) | (with_reducible refine belowAlloc ?_ _) | ((with_reducible refine belowSet2 ?_ ?_); omega) | (with_reducible assumption) | (with_reducible refine belowVia (by assumption) ?_) | (with_reducible refine belowVia (Grow.below (by assumption)) ?_)))⟩
  by_cases h6 : (n : Int) < s
  · have hf : chkL f m xs s = 1 := chkL_bad (by rw [← HN.out]; rintro ⟨_, _, _, _, _, _, _, _⟩; omega)
    have HF := Lib.hid hf
    clear hf
    go_enter Try.func37, Try.ntmps37
    go_wp2_with fail
    go_ret
    exact ⟨by rw [HF.out]; rfl, (by repeat (first | (with_reducible exact Below.refl _ _) | (with_reducible refine Below.drew ?_) | (with_reducible refine belowDrewN ?_ _) | (with_reducible refine belowAlloc ?_ _) | ((with_reducible refine belowSet2 ?_ ?_); omega) | (with_reducible assumption) | (with_reducible refine belowVia (by assumption) ?_) | (with_reducible refine belowVia (Grow.below (by assumption)) ?_)))⟩
  go_enter Try.func37, Try.ntmps37
  go_wp2_with fail
  go_loop [40] (fun y => ∃ i : Nat, i ≤ n ∧ (∀ x ∈ xs.take i, x.length ≤ 65536) ∧ y = .int .i64 i) (fun y => n - (intOf y).toNat)
  case atStart => exact ⟨0, by omega, by simp, rfl⟩
  case round =>
    obtain ⟨i, hi, hpre, rfl⟩ := hrel
    by_cases hlt : i < n
    · obtain ⟨b, o, a', c', rfl, hcu, hbs⟩ := hs.at_ (w := w.alloc (.cells #[.int .i64 f, .int .i64 m, .slice A n c, .int .i64 s] 47)) (hk.alloc _) (k := i) (by rw [← HN.out]; exact hlt)
      have hxi : xs[i]? = some (xs[i]'(by rw [← HN.out]; exact hlt)) := List.getElem?_eq_getElem _
      have hmem := List.getElem_mem (l := xs) (n := i) (by rw [← HN.out]; exact hlt)
      have HM := Lib.hid (And.intro hxi hmem)
      have HPRE := Lib.hid hpre
      clear hxi hmem hpre
      generalize xs[i]'(by rw [← HN.out]; exact hlt) = x at *
      generalize hlx : x.length = lx at *
      have HLX := Lib.hid hlx
      have g1 : (i : Int) < (n : Int) := by omega
      have g0 : (0 : Int) ≤ (i : Int) := by omega
      clear hbs hlx
      by_cases h7 : 65536 < lx
      · have hf : chkL f m xs s = 1 := chkL_bad (by rintro ⟨_, _, _, _, _, _, h, _⟩; have := h _ HM.out.2; rw [HLX.out] at this; omega)
        have HF := Lib.hid hf
        clear hf
        have g7 : (65536 : Int) < (lx : Int) := by omega
        go_wp2_with fail
        go_ret
        exact ⟨by rw [HF.out]; rfl, (by repeat (first | (with_reducible exact Below.refl _ _) | (with_reducible refine Below.drew ?_) | (with_reducible refine belowDrewN ?_ _) | (with_reducible refine belowAlloc ?_ _) | ((with_reducible refine belowSet2 ?_ ?_); omega) | (with_reducible assumption) | (with_reducible refine belowVia (by assumption) ?_) | (with_reducible refine belowVia (Grow.below (by assumption)) ?_)))⟩
      · have g7 : ¬ (65536 : Int) < (lx : Int) := by omega
        go_wp2_with fail
        go_round
        case rel =>
          refine ⟨i + 1, by omega, ?_, by go_num⟩
          intro y hy
          rw [List.take_add_one, HM.out.1] at hy
          rcases List.mem_append.1 hy with hy | hy
          · exact HPRE.out _ hy
          · simp at hy; subst hy; rw [HLX.out]; omega
        case measure => simp [intOf]; omega
    · obtain rfl : i = n := by omega
      rw [show xs.take i = xs from List.take_of_length_le (by rw [← HN.out]; exact Nat.le_refl _)] at hpre
      have hob := occs_bound xs hpre
      rw [← HN.out] at hob
      have HPRE := Lib.hid hpre
      have HOC := Lib.hid (fun W (hW : Keeps D W) => allocc_c A i c xs D W hW hs (fun x hx => by have := HPRE.out x hx; omega) (by omega))
      have HOE := Lib.hid (rfl : occs xs = occs xs)
      by_cases h8 : m < (occs xs : Int)
      · have hf : chkL f m xs s = 1 := chkL_bad (by rintro ⟨_, _, _, _, _, _, _, _⟩; omega)
        have HF := Lib.hid hf
        clear hf hpre
        go_wp2
        go_region_held3 (fun w' => w'.cell? ⟨w.heap.size, 1, none⟩ = some (.int .i64 m) ∧ w'.cell? ⟨w.heap.size, 2, none⟩ = some (.slice A i c))
          (go_keep)
          (first | (go_at_call 54; refine (HOC.out _ ?_).mono ?_; (exact (by repeat (with_reducible first | assumption | refine Keeps.drew ?_ | refine Keeps.drewN ?_ _ | refine Keeps.alloc ?_ _ | exact Grow.keeps (by assumption)))); rintro e w1 ⟨rfl, rfl⟩))
        all_goals
          go_wp2
          go_ret
          exact ⟨by rw [HF.out]; rfl, (by repeat (first | (with_reducible exact Below.refl _ _) | (with_reducible refine Below.drew ?_) | (with_reducible refine belowDrewN ?_ _) | (with_reducible refine belowAlloc ?_ _) | ((with_reducible refine belowSet2 ?_ ?_); omega) | (with_reducible assumption) | (with_reducible refine belowVia (by assumption) ?_) | (with_reducible refine belowVia (Grow.below (by assumption)) ?_)))⟩
      · have hf : chkL f m xs s = 0 := chkL_ok ⟨by omega, by omega, by omega, by omega, by omega, by rw [← HN.out]; omega, HPRE.out, by omega⟩
        have HF := Lib.hid hf
        clear hf hpre
        go_wp2
        go_region_held3 (fun w' => w'.cell? ⟨w.heap.size, 1, none⟩ = some (.int .i64 m) ∧ w'.cell? ⟨w.heap.size, 2, none⟩ = some (.slice A i c))
          (go_keep)
          (first | (go_at_call 54; refine (HOC.out _ ?_).mono ?_; (exact (by repeat (with_reducible first | assumption | refine Keeps.drew ?_ | refine Keeps.drewN ?_ _ | refine Keeps.alloc ?_ _ | exact Grow.keeps (by assumption)))); rintro e w1 ⟨rfl, rfl⟩))
        all_goals
          go_wp2
          go_ret
          exact ⟨by rw [HF.out]; rfl, (by repeat (first | (with_reducible exact Below.refl _ _) | (with_reducible refine Below.drew ?_) | (with_reducible refine belowDrewN ?_ _) | (with_reducible refine belowAlloc ?_ _) | ((with_reducible refine belowSet2 ?_ ?_); omega) | (with_reducible assumption) | (with_reducible refine belowVia (by assumption) ?_) | (with_reducible refine belowVia (Grow.below (by assumption)) ?_)))⟩
end Go.Proofs.Ytegkmkglagmdiaa
