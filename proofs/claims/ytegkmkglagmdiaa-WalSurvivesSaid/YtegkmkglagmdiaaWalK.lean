/-
  What is proved here: greatestGeneration, walked
-/
import Derived.Test.YtegkmkglagmdiaaRows
import Derived.Test.YtegkmkglagmdiaaBaseB
import Derived.Test.YtegkmkglagmdiaaCrc
import Derived.Test.YtegkmkglagmdiaaWalP
import Derived.Test.YtegkmkglagmdiaaWalA
import Derived.Test.YtegkmkglagmdiaaWalB
import Derived.Test.YtegkmkglagmdiaaWalC
import Derived.Test.YtegkmkglagmdiaaWalD
import Derived.Test.YtegkmkglagmdiaaWalE
import Derived.Test.YtegkmkglagmdiaaDiskF
import Derived.Test.YtegkmkglagmdiaaWalF
import Derived.Test.YtegkmkglagmdiaaRangeF
import Derived.Test.YtegkmkglagmdiaaWalG
import Derived.Test.YtegkmkglagmdiaaWalH
import Derived.Test.YtegkmkglagmdiaaWalI
import Derived.Test.YtegkmkglagmdiaaWalJ
import Derived.OwnWalkIn
import Derived.TacticsInMore
import Derived.LoopNIn
import Derived.LoopIn
import Derived.Scope
import Derived.Shelf.Abstract
import Derived.RangeFuncCalls
import Derived.Laws.BitsAllLaws
import Derived.Deep.RegionHeld3
import Derived.Deep.RegionLaw
import Derived.Deep.DeepCutAuto
import Derived.Deep.QuietTactic
import Derived.BigQuiet
import Derived.Laws.EntriesVeiled
import Derived.Deep.MidRow
import Derived.Laws.CopyRow
namespace Go.Proofs.Ytegkmkglagmdiaa
open Go.RowKit Go.VS
/-- the greatest of the generations of some sectors. -/
def gmax (xs : List (List UInt8)) : Nat := xs.foldl (fun g s => max (max g (num4 s)) (num4 (s.drop 124))) 0
theorem gmax_take (xs : List (List UInt8)) (i : Nat) (s : List UInt8) (h : xs[i]? = some s) : gmax (xs.take (i + 1)) = max (max (gmax (xs.take i)) (num4 s)) (num4 (s.drop 124)) := by
  unfold gmax
  rw [List.take_add_one, h, List.foldl_append]
  rfl
theorem gmax_lt (xs : List (List UInt8)) : gmax xs < 4294967296 := by
  have : ∀ (l : List (List UInt8)) (g : Nat), g < 4294967296 → l.foldl (fun g s => max (max g (num4 s)) (num4 (s.drop 124))) g < 4294967296 := by
    intro l
    induction l with
    | nil => exact fun g h => h
    | cons s r ih => exact fun g h => ih _ (by have := num4_lt s; have := num4_lt (s.drop 124); show max (max g (num4 s)) (num4 (s.drop 124)) < 4294967296; omega)
  exact this xs 0 (by omega)
set_option maxRecDepth 100000 in
set_option maxHeartbeats 4000000 in
theorem greatest_c (A : Option Addr) (n c : Nat) (xs : List (List UInt8)) (D : Gh) (w : World) (hk : Keeps D w) (hs : SS D (.slice A n c) xs) (h128 : ∀ s ∈ xs, s.length = 128) :
    Calls Try.prog 58 #[.slice A n c] w fun e w' => e = .returned (.int .u32 (gmax xs : Nat)) ∧ Below w.heap.size w w' := by
  obtain ⟨hn, hnc, hcm⟩ := hs.len
  unfold maxLen at hcm
  have HN := Lib.hid hn
  clear hn
  go_enter Try.func58, Try.ntmps58
  go_wp2_with fail
  go_loopw [2, 7] (fun r y wr => ∃ i : Nat, i ≤ n ∧ r = .int .u32 (gmax (xs.take i) : Nat) ∧ y = .int .i64 i ∧ Keeps D wr ∧ Below w.heap.size w wr) (fun _ y _ => n - (intOf y).toNat)
  case atStart => exact ⟨0, by omega, rfl, rfl, hk, Below.refl _ _⟩
  case round =>
    obtain ⟨i, hi, rfl, rfl, hkr, hbr⟩ := hrel
    by_cases hlt : i < n
    · have hix : i < xs.length := by rw [← HN.out]; exact hlt
      obtain ⟨b, o, a', c', rfl, hcu, hbs⟩ := hs.at_ hkr (k := i) hix
      have hl := h128 _ (List.getElem_mem hix)
      have HT := Lib.hid (gmax_take xs i _ (List.getElem?_eq_getElem hix))
      generalize xs[i]'hix = s at *
      have hgl := gmax_lt (xs.take i)
      generalize gmax (xs.take i) = g at *
      rw [hl] at hcu hbs
      obtain ⟨bb, ob, rfl, _⟩ := bs_all hbs (by omega)
      obtain ⟨hz, hc1, hc2⟩ := hbs.len
      clear hz
      unfold maxLen at hc2
      have hbs1 : BS D (.slice (some ⟨bb, ob + 124, none⟩) 4 (c' - 124)) ((s.drop 124).take 4) := bs_sub hbs 124 4 (by omega)
      have e124 : (s.drop 124).take 4 = s.drop 124 := List.take_of_length_le (by rw [List.length_drop, hl]; omega)
      rw [e124] at hbs1
      have HN1 := Lib.hid (fun W hW => number_c _ 4 _ (s.drop 124) (by omega) D W hW hbs1)
      have HN2 := Lib.hid (fun W hW => number_c _ 128 _ s (by omega) D W hW hbs)
      have hsl1 : ∀ W, (Instr.slice 32 (.slice (some ⟨bb, ob, none⟩) 128 c') (some (.int .i64 124)) none none).run Try.prog W = .ok (.slice (some ⟨bb, ob + 124, none⟩) 4 (c' - 124)) W := fun W => sl_lo bb ob c' 124 hc1 (by omega) W
      have h1 := num4_lt s
      have h2 := num4_lt (s.drop 124)
      generalize num4 s = E1 at *
      generalize num4 (s.drop 124) = E2 at *
      have g1 : (i : Int) < (n : Int) := by omega
      have g0 : (0 : Int) ≤ (i : Int) := by omega
      clear hl hbs1 e124 hbs hix
      go_wp2_with fail
      go_quiet (first | (with_reducible exact Calls.quiet_of (HN1.out _ (hkr.drewN _))) | (with_reducible exact Calls.quiet_of (HN2.out _ (hkr.drewN _))))
      have hk2 := hkr.drewN nq
      have hb2 := belowDrewN hbr nq
      clear hkr hbr hcu
      generalize wr.drewN nq = W2 at *
      go_wp2_with fail
      go_roundw
      case rel => exact ⟨i + 1, by omega, by rw [HT.out]; go_num, by go_num, hk2, hb2⟩
      case measure => simp [intOf]; omega
    · obtain rfl : i = n := by omega
      rw [show xs.take i = xs from List.take_of_length_le (by rw [← HN.out]; exact Nat.le_refl _)]
      go_wp2
      go_ret
      exact ⟨rfl, hbr⟩
end Go.Proofs.Ytegkmkglagmdiaa
