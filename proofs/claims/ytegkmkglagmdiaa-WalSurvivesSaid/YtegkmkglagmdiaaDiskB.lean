/-
  What is proved here: the contract of disk.Check: it answers 0 just for valid disks
-/
import Derived.Test.YtegkmkglagmdiaaRows
import Derived.Test.YtegkmkglagmdiaaDiskA
import Derived.Deep.RegionHeld3
import Derived.Deep.DeepCutAuto
import Derived.Deep.QuietTactic
import Derived.BigQuiet
import Derived.Laws.EntriesVeiled
namespace Go.Proofs.Ytegkmkglagmdiaa
open Go.RowKit Go.VS

theorem okB_iff (d : Dsk) : okB d = true ↔ (1 ≤ d.secs.length ∧ d.secs.length ≤ 4096 ∧ (∀ x ∈ d.secs, x.length = 128) ∧ -1 ≤ d.left ∧ 0 ≤ d.tear ∧ d.tear ≤ 128 ∧ (d.stopped = true → d.left = 0)) := by unfold okB; rw [decide_eq_true_iff]
theorem chk_bad {d : Dsk} (h : ¬ (1 ≤ d.secs.length ∧ d.secs.length ≤ 4096 ∧ (∀ x ∈ d.secs, x.length = 128) ∧ -1 ≤ d.left ∧ 0 ≤ d.tear ∧ d.tear ≤ 128 ∧ (d.stopped = true → d.left = 0))) : chk d = 1 := by
  unfold chk; rw [if_neg]; rw [okB_iff]; exact h
theorem chk_ok {d : Dsk} (h : 1 ≤ d.secs.length ∧ d.secs.length ≤ 4096 ∧ (∀ x ∈ d.secs, x.length = 128) ∧ -1 ≤ d.left ∧ 0 ≤ d.tear ∧ d.tear ≤ 128 ∧ (d.stopped = true → d.left = 0)) : chk d = 0 := by
  unfold chk; rw [if_pos]; rw [okB_iff]; exact h

set_option maxHeartbeats 1000000 in
theorem check_c (A : Option Addr) (n c : Nat) (xs : List (List UInt8)) (l t : Int) (s : Bool) (D : Gh) (w : World) (hk : Keeps D w) (hs : SS D (.slice A n c) xs) :
    Calls Try.prog 29 #[.agg #[.slice A n c, .int .i64 l, .int .i64 t, .bool s]] w fun e w' => e = .returned (.int .i64 (chk ⟨xs, l, t, s⟩)) ∧ Below w.heap.size w w' := by
  obtain ⟨hn, hnc, hcm⟩ := hs.len
  unfold maxLen at hcm
  have HN := Lib.hid hn
  clear hn
  obtain ⟨good, hgood⟩ : ∃ good : Bool, good = true ↔ ∀ x ∈ xs, x.length = 128 := ⟨decide (∀ x ∈ xs, x.length = 128), by simp⟩
  have HGOOD := Lib.hid hgood
  clear hgood
  by_cases h1 : n < 1
  · have hf : chk ⟨xs, l, t, s⟩ = 1 := chk_bad (by simp only [← HN.out]; omega)
    have HF := Lib.hid hf
    clear hf
    have g1 : decide ((1 : Int) ≤ n) = false := by simp; omega
    go_enter Try.func29, Try.ntmps29
    go_wp2
    go_ret
    exact ⟨by rw [HF.out]; rfl, (by repeat (first | exact Below.refl _ _ | assumption | refine Below.drew ?_ | refine Below.alloc ?_ (by simp) _ | refine Below.trans ?_ (by assumption)))⟩
  have g1 : decide ((1 : Int) ≤ n) = true := by simp; omega
  by_cases h2 : 4096 < n
  · have hf : chk ⟨xs, l, t, s⟩ = 1 := chk_bad (by simp only [← HN.out]; omega)
    have HF := Lib.hid hf
    clear hf
    have g2 : decide ((n : Int) ≤ 4096) = false := by simp; omega
    go_enter Try.func29, Try.ntmps29
    go_wp2
    go_ret
    exact ⟨by rw [HF.out]; rfl, (by repeat (first | exact Below.refl _ _ | assumption | refine Below.drew ?_ | refine Below.alloc ?_ (by simp) _ | refine Below.trans ?_ (by assumption)))⟩
  have g2 : decide ((n : Int) ≤ 4096) = true := by simp; omega
  cases good with
  | false =>
    have hf : chk ⟨xs, l, t, s⟩ = 1 := chk_bad (by rintro ⟨_, _, h, _⟩; have := HGOOD.out.2 h; simp at this)
    have HF := Lib.hid hf
    clear hf
    go_enter Try.func29, Try.ntmps29
    go_wp2_with (first | (go_at_call 51; refine (contains_c A n c _ xs D _ ?_ hs ?_ false HGOOD.out).mono ?_; (exact (by repeat (first | assumption | exact Grow.keeps (by assumption) | refine Keeps.drew ?_ | refine Keeps.alloc ?_ _))); (simp [go_sem]); rintro e w' ⟨rfl, rfl⟩) | (go_at_call 50; go_in))
    go_wp2
    go_ret
    exact ⟨by rw [HF.out]; rfl, (by repeat (first | exact Below.refl _ _ | assumption | refine Below.drew ?_ | refine Below.alloc ?_ (by simp) _ | refine Below.trans ?_ (by assumption)))⟩
  | true =>
    have hall := HGOOD.out.1 rfl
    have HALL := Lib.hid hall
    clear hall
    by_cases h3 : l < -1
    · have g3 : decide (l < -1) = true := by simp; omega
      have hf : chk ⟨xs, l, t, s⟩ = 1 := chk_bad (by simp only; rintro ⟨_, _, _, _, _, _, _⟩; first | omega | simp_all)
      have HF := Lib.hid hf
      clear hf
      go_enter Try.func29, Try.ntmps29
      go_wp2_with (first | (go_at_call 51; refine (contains_c A n c _ xs D _ ?_ hs ?_ true HGOOD.out).mono ?_; (exact (by repeat (first | assumption | exact Grow.keeps (by assumption) | refine Keeps.drew ?_ | refine Keeps.alloc ?_ _))); (simp [go_sem]); rintro e w' ⟨rfl, rfl⟩) | (go_at_call 50; go_in))
      go_wp2
      go_ret
      exact ⟨by rw [HF.out]; rfl, (by repeat (first | exact Below.refl _ _ | assumption | refine Below.drew ?_ | refine Below.alloc ?_ (by simp) _ | refine Below.trans ?_ (by assumption)))⟩
    have g3 : decide (l < -1) = false := by simp; omega
    by_cases h4 : t < 0
    · have g4 : decide (t < 0) = true := by simp; omega
      have hf : chk ⟨xs, l, t, s⟩ = 1 := chk_bad (by simp only; rintro ⟨_, _, _, _, _, _, _⟩; first | omega | simp_all)
      have HF := Lib.hid hf
      clear hf
      go_enter Try.func29, Try.ntmps29
      go_wp2_with (first | (go_at_call 51; refine (contains_c A n c _ xs D _ ?_ hs ?_ true HGOOD.out).mono ?_; (exact (by repeat (first | assumption | exact Grow.keeps (by assumption) | refine Keeps.drew ?_ | refine Keeps.alloc ?_ _))); (simp [go_sem]); rintro e w' ⟨rfl, rfl⟩) | (go_at_call 50; go_in))
      go_wp2
      go_ret
      exact ⟨by rw [HF.out]; rfl, (by repeat (first | exact Below.refl _ _ | assumption | refine Below.drew ?_ | refine Below.alloc ?_ (by simp) _ | refine Below.trans ?_ (by assumption)))⟩
    have g4 : decide (t < 0) = false := by simp; omega
    by_cases h5 : 128 < t
    · have g5 : decide (128 < t) = true := by simp; omega
      have hf : chk ⟨xs, l, t, s⟩ = 1 := chk_bad (by simp only; rintro ⟨_, _, _, _, _, _, _⟩; first | omega | simp_all)
      have HF := Lib.hid hf
      clear hf
      go_enter Try.func29, Try.ntmps29
      go_wp2_with (first | (go_at_call 51; refine (contains_c A n c _ xs D _ ?_ hs ?_ true HGOOD.out).mono ?_; (exact (by repeat (first | assumption | exact Grow.keeps (by assumption) | refine Keeps.drew ?_ | refine Keeps.alloc ?_ _))); (simp [go_sem]); rintro e w' ⟨rfl, rfl⟩) | (go_at_call 50; go_in))
      go_wp2
      go_ret
      exact ⟨by rw [HF.out]; rfl, (by repeat (first | exact Below.refl _ _ | assumption | refine Below.drew ?_ | refine Below.alloc ?_ (by simp) _ | refine Below.trans ?_ (by assumption)))⟩
    have g5 : decide (128 < t) = false := by simp; omega
    cases s with
    | false =>
      have hf : chk ⟨xs, l, t, false⟩ = 0 := chk_ok (by simp only [← HN.out]; refine ⟨by omega, by omega, HALL.out, by omega, by omega, by omega, ?_⟩; simp; try omega)
      have HF := Lib.hid hf
      clear hf
      go_enter Try.func29, Try.ntmps29
      go_wp2_with (first | (go_at_call 51; refine (contains_c A n c _ xs D _ ?_ hs ?_ true HGOOD.out).mono ?_; (exact (by repeat (first | assumption | exact Grow.keeps (by assumption) | refine Keeps.drew ?_ | refine Keeps.alloc ?_ _))); (simp [go_sem]); rintro e w' ⟨rfl, rfl⟩) | (go_at_call 50; go_in))
      go_wp2
      go_ret
      exact ⟨by rw [HF.out]; rfl, (by repeat (first | exact Below.refl _ _ | assumption | refine Below.drew ?_ | refine Below.alloc ?_ (by simp) _ | refine Below.trans ?_ (by assumption)))⟩
    | true =>
      by_cases h6 : l = 0
      · subst h6
        have hf : chk ⟨xs, 0, t, true⟩ = 0 := chk_ok (by simp only [← HN.out]; refine ⟨by omega, by omega, HALL.out, by omega, by omega, by omega, ?_⟩; simp; try omega)
        have HF := Lib.hid hf
        clear hf
        go_enter Try.func29, Try.ntmps29
        go_wp2_with (first | (go_at_call 51; refine (contains_c A n c _ xs D _ ?_ hs ?_ true HGOOD.out).mono ?_; (exact (by repeat (first | assumption | exact Grow.keeps (by assumption) | refine Keeps.drew ?_ | refine Keeps.alloc ?_ _))); (simp [go_sem]); rintro e w' ⟨rfl, rfl⟩) | (go_at_call 50; go_in))
        go_wp2
        go_ret
        exact ⟨by rw [HF.out]; rfl, (by repeat (first | exact Below.refl _ _ | assumption | refine Below.drew ?_ | refine Below.alloc ?_ (by simp) _ | refine Below.trans ?_ (by assumption)))⟩
      · have g6 : (l != 0) = true := by simp; omega
        have h6' : l < 0 ∨ 0 < l := by omega
        clear h6
        have hf : chk ⟨xs, l, t, true⟩ = 1 := chk_bad (by simp only; rintro ⟨_, _, _, _, _, _, _⟩; first | (simp_all; done) | (simp_all; omega))
        have HF := Lib.hid hf
        clear hf
        go_enter Try.func29, Try.ntmps29
        go_wp2_with (first | (go_at_call 51; refine (contains_c A n c _ xs D _ ?_ hs ?_ true HGOOD.out).mono ?_; (exact (by repeat (first | assumption | exact Grow.keeps (by assumption) | refine Keeps.drew ?_ | refine Keeps.alloc ?_ _))); (simp [go_sem]); rintro e w' ⟨rfl, rfl⟩) | (go_at_call 50; go_in))
        go_wp2
        go_ret
        exact ⟨by rw [HF.out]; rfl, (by repeat (first | exact Below.refl _ _ | assumption | refine Below.drew ?_ | refine Below.alloc ?_ (by simp) _ | refine Below.trans ?_ (by assumption)))⟩
end Go.Proofs.Ytegkmkglagmdiaa
