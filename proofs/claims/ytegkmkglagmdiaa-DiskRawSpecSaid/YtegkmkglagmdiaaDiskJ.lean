/-
  What is proved here: contracts of the reference Same and of few and diskWhole of the statements
-/
import Derived.Test.YtegkmkglagmdiaaRows
import Derived.Test.YtegkmkglagmdiaaDiskI
import Derived.Test.YtegkmkglagmdiaaBaseB
import Derived.Deep.RegionHeld3
import Derived.Deep.RegionLaw
import Derived.Deep.DeepCutAuto
import Derived.Deep.QuietTactic
import Derived.BigQuiet
import Derived.Laws.EntriesVeiled
namespace Go.Proofs.Ytegkmkglagmdiaa
open Go.RowKit Go.VS

set_option maxRecDepth 100000 in
set_option maxHeartbeats 2000000 in
theorem same_c (A B : Option Addr) (n c m k : Nat) (xs : List (List UInt8)) (l t : Int) (s : Bool) (D : Gh) (w : World) (hk : Keeps D w) (hs : SS D (.slice A n c) xs) (hs' : SS D (.slice B m k) xs) :
    Calls Try.prog 17 #[.agg #[.slice A n c, .int .i64 l, .int .i64 t, .bool s], .agg #[.slice B m k, .int .i64 l, .int .i64 t, .bool s]] w fun e w' => e = .returned (.bool true) ∧ Below w.heap.size w w' := by
  obtain ⟨hn, hnc, hcm⟩ := hs.len
  obtain ⟨hm, hmk, hkm⟩ := hs'.len
  unfold maxLen at hcm hkm
  have hnm : m = n := by omega
  subst hnm
  have HN := Lib.hid hn
  clear hn
  clear hm
  have ecv := fun (w : World) (hk : Keeps D w) (a : Option Addr) (n c : Nat) (bs : List UInt8) (h : BS D (.slice a n c) bs) => Lib.hid (run_string_bs (P := Try.prog) hk Try.underlying32 Try.underlying5 Try.underlying9 h)
  go_enter Try.func17, Try.ntmps17
  go_wp2
  go_loopw [5] (fun i wr => ∃ (j nq : Nat), j ≤ m ∧ i = .int .i64 j ∧ wr = (((w.alloc (.cells #[.slice A m c, .int .i64 l, .int .i64 t, .bool s] 26)).alloc (.cells #[.slice B m k, .int .i64 l, .int .i64 t, .bool s] 26)).drewN nq)) (fun i _ => m - (intOf i).toNat)
  case atStart => exact ⟨0, 0, Nat.zero_le _, rfl, rfl⟩
  case round =>
    obtain ⟨j, nq, hj, rfl, rfl⟩ := hrel
    by_cases hlt : j < m
    · have hjx : j < xs.length := by rw [← HN.out]; exact hlt
      obtain ⟨b, o, a', c', rfl, hcell, hbs⟩ := hs.at_ hk hjx
      obtain ⟨b2, o2, a2, c2, rfl, hcell2, hbs2⟩ := hs'.at_ hk hjx
      have hbl := World.block_lt_of_cell? w _ hcell
      have hbl2 := World.block_lt_of_cell? w _ hcell2
      simp only at hbl hbl2
      have hb1 : b < w.heap.size + 1 := by omega
      have hb2 : b2 < w.heap.size + 1 := by omega
      have e1 := fun nq => (ecv ((((w.alloc (.cells #[.slice (some ⟨b, o, none⟩) m c, .int .i64 l, .int .i64 t, .bool s] 26)).alloc (.cells #[.slice (some ⟨b2, o2, none⟩) m k, .int .i64 l, .int .i64 t, .bool s] 26)).drewN nq)) (((hk.alloc _).alloc _).drewN _) _ _ _ _ hbs).out
      have e2 := fun nq => (ecv ((((w.alloc (.cells #[.slice (some ⟨b, o, none⟩) m c, .int .i64 l, .int .i64 t, .bool s] 26)).alloc (.cells #[.slice (some ⟨b2, o2, none⟩) m k, .int .i64 l, .int .i64 t, .bool s] 26)).drewN nq)) (((hk.alloc _).alloc _).drewN _) _ _ _ _ hbs2).out
      clear ecv
      have hj0 : (0 : Int) ≤ (j : Int) := by omega
      have hj1 : (j : Int) < (m : Int) := by omega
      go_wp2
      go_quiet (fail)
      go_wp2
      go_roundw
      case rel => exact ⟨j + 1, _, by omega, by go_num, rfl⟩
      case measure => simp [intOf]; omega
    · go_wp2
      go_ret
      exact ⟨rfl, (by repeat (with_reducible first | exact Below.refl _ _ | refine Below.drew ?_ | refine belowDrewN ?_ _ | refine belowAlloc ?_ _ | refine Below.setCell ?_ (by simp) _ | assumption | refine belowVia (by assumption) ?_ | refine belowVia (Grow.below (by assumption)) ?_))⟩

/-- few: at most 12 sectors, none of more than 256 bytes. -/
def fewB (xs : List (List UInt8)) : Bool := decide ((∀ x ∈ xs, x.length ≤ 256) ∧ xs.length ≤ 12)
set_option maxHeartbeats 1000000 in
theorem few_c (A : Option Addr) (n c : Nat) (xs : List (List UInt8)) (l t : Int) (s : Bool) (D : Gh) (w : World) (hk : Keeps D w) (hs : SS D (.slice A n c) xs) :
    Calls Try.prog 24 #[.agg #[.slice A n c, .int .i64 l, .int .i64 t, .bool s]] w fun e w' => e = .returned (.bool (fewB xs)) ∧ Below w.heap.size w w' := by
  obtain ⟨hn, hnc, hcm⟩ := hs.len
  unfold maxLen at hcm
  have HN := Lib.hid hn
  clear hn
  go_enter Try.func24, Try.ntmps24
  go_wp2
  go_loop [4, 8] (fun _ i => ∃ k : Nat, k ≤ n ∧ i = .int .i64 k ∧ ∀ j x, j < k → xs[j]? = some x → x.length ≤ 256) (fun _ i => n - (intOf i).toNat)
  case atStart => exact ⟨0, Nat.zero_le _, rfl, fun j x h => by omega⟩
  case round =>
    obtain ⟨k, hk', rfl, hall⟩ := hrel
    have HALL := Lib.hid hall
    clear hall
    by_cases hlt : k < n
    · have hkx : k < xs.length := by rw [← HN.out]; exact hlt
      obtain ⟨b, o, a', c', rfl, hcell, hbs⟩ := hs.at_ hk hkx
      clear hbs
      have hbl := World.block_lt_of_cell? w _ hcell
      simp only at hbl
      by_cases hx : 256 < xs[k].length
      · have hb : decide (256 < (xs[k].length : Int)) = true := by simp; omega
        have hf : fewB xs = false := by simp only [fewB, decide_eq_false_iff_not]; rintro ⟨h, _⟩; have := h _ (List.getElem_mem hkx); omega
        have HX := Lib.hid hx
        clear hx
        have HF := Lib.hid hf
        clear hf
        go_wp2
        go_ret
        exact ⟨by rw [HF.out]; rfl, (by repeat (with_reducible first | exact Below.refl _ _ | refine Below.drew ?_ | refine belowDrewN ?_ _ | refine belowAlloc ?_ _ | refine Below.setCell ?_ (by simp) _ | assumption | refine belowVia (by assumption) ?_ | refine belowVia (Grow.below (by assumption)) ?_))⟩
      · have hb : decide (256 < (xs[k].length : Int)) = false := by simp; omega
        have HX := Lib.hid hx
        clear hx
        go_wp2
        go_round
        case rel => exact ⟨k + 1, by omega, by go_num, fun j x hj hx => by
          rcases Nat.lt_or_ge j k with h | h
          · exact HALL.out j x h hx
          · obtain rfl : j = k := by omega
            rw [List.getElem?_eq_getElem hkx] at hx
            injection hx with hx
            rw [← hx]; have := HX.out; omega⟩
        case measure => simp [intOf]; omega
    · have hf : fewB xs = decide ((n : Int) ≤ 12) := by
        have hh : ∀ x ∈ xs, x.length ≤ 256 := fun x hx => by
          obtain ⟨j, hj, rfl⟩ := List.getElem_of_mem hx
          exact HALL.out j _ (by rw [← HN.out] at hj; omega) (List.getElem?_eq_getElem hj)
        simp only [fewB, ← HN.out]
        rw [decide_eq_decide]
        constructor
        · rintro ⟨_, h⟩; omega
        · intro h; exact ⟨hh, by omega⟩
      have HF := Lib.hid hf
      clear hf
      go_wp2
      go_ret
      exact ⟨by rw [HF.out]; rfl, (by repeat (with_reducible first | exact Below.refl _ _ | refine Below.drew ?_ | refine belowDrewN ?_ _ | refine belowAlloc ?_ _ | refine Below.setCell ?_ (by simp) _ | assumption | refine belowVia (by assumption) ?_ | refine belowVia (Grow.below (by assumption)) ?_))⟩
set_option maxHeartbeats 1000000 in
theorem diskWhole_c (A : Option Addr) (n c : Nat) (xs : List (List UInt8)) (l t : Int) (s : Bool) (D : Gh) (w : World) (hk : Keeps D w) (hs : SS D (.slice A n c) xs) (h4 : xs.length = 4) (hall : ∀ x ∈ xs, x.length = 128) :
    Calls Try.prog 32 #[.agg #[.slice A n c, .int .i64 l, .int .i64 t, .bool s]] w fun e w' => e = .returned (.bool true) ∧ Below w.heap.size w w' := by
  obtain ⟨hn, hnc, hcm⟩ := hs.len
  unfold maxLen at hcm
  obtain rfl : n = 4 := by omega
  have H4 := Lib.hid (And.intro h4 hall)
  clear hn h4 hall
  go_enter Try.func32, Try.ntmps32
  go_wp2
  go_loop [4, 8] (fun _ i => ∃ k : Nat, k ≤ 4 ∧ i = .int .i64 k) (fun _ i => 4 - (intOf i).toNat)
  case atStart => exact ⟨0, Nat.zero_le _, rfl⟩
  case round =>
    obtain ⟨k, hk', rfl⟩ := hrel
    by_cases hlt : k < 4
    · have hkx : k < xs.length := by rw [H4.out.1]; exact hlt
      obtain ⟨b, o, a', c', rfl, hcell, hbs⟩ := hs.at_ hk hkx
      clear hbs
      have hbl := World.block_lt_of_cell? w _ hcell
      simp only at hbl
      rw [H4.out.2 _ (List.getElem_mem hkx)] at hcell
      go_wp2
      go_round
      case rel => exact ⟨k + 1, by omega, by go_num⟩
      case measure => simp [intOf]; omega
    · obtain rfl : k = 4 := by omega
      go_wp2
      go_ret
      exact ⟨rfl, (by repeat (with_reducible first | exact Below.refl _ _ | refine Below.drew ?_ | refine belowDrewN ?_ _ | refine belowAlloc ?_ _ | refine Below.setCell ?_ (by simp) _ | assumption | refine belowVia (by assumption) ?_ | refine belowVia (Grow.below (by assumption)) ?_))⟩
end Go.Proofs.Ytegkmkglagmdiaa
