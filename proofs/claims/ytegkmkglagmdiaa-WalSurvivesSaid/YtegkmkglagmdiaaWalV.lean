/-
  What is proved here: few, SameRecords, walked
-/
import Derived.Test.YtegkmkglagmdiaaRows
import Derived.Test.YtegkmkglagmdiaaBaseB
import Derived.Test.YtegkmkglagmdiaaCrc
import Derived.Test.YtegkmkglagmdiaaWalP
import Derived.Test.YtegkmkglagmdiaaWalA
import Derived.Test.YtegkmkglagmdiaaWalB
import Derived.Test.YtegkmkglagmdiaaWalC
import Derived.Test.YtegkmkglagmdiaaWalD
import Derived.Test.YtegkmkglagmdiaaWalE
import Derived.Test.YtegkmkglagmdiaaDiskF
import Derived.Test.YtegkmkglagmdiaaDiskH
import Derived.Test.YtegkmkglagmdiaaWalF
import Derived.Test.YtegkmkglagmdiaaRangeF
import Derived.Test.YtegkmkglagmdiaaWalG
import Derived.Test.YtegkmkglagmdiaaWalH
import Derived.Test.YtegkmkglagmdiaaWalI
import Derived.Test.YtegkmkglagmdiaaWalJ
import Derived.Test.YtegkmkglagmdiaaWalK
import Derived.Test.YtegkmkglagmdiaaWalL
import Derived.Test.YtegkmkglagmdiaaWalS
import Derived.Test.YtegkmkglagmdiaaWalT
import Derived.Test.YtegkmkglagmdiaaWalU
import Derived.Test.YtegkmkglagmdiaaDiskI
import Derived.OwnWalkIn
import Derived.TacticsInMore
import Derived.LoopNIn
import Derived.LoopIn
import Derived.Scope
import Derived.StillTailTactics
import Derived.Shelf.Abstract
import Derived.RangeFuncCalls
import Derived.Laws.BitsAllLaws
import Derived.Deep.RegionHeld3
import Derived.Deep.RegionLaw
import Derived.Deep.DeepCutAuto
import Derived.Deep.QuietTactic
import Derived.BigQuiet
import Derived.Laws.EntriesVeiled
import Derived.Deep.MidRow
import Derived.Laws.CopyRow
namespace Go.Proofs.Ytegkmkglagmdiaa
open Go.RowKit Go.VS
def AnyB (e : Ending) : Prop := ∃ r, e = .returned (.bool r)
theorem anyB (r : Bool) : AnyB (.returned (.bool r)) := ⟨r, rfl⟩
set_option maxRecDepth 100000 in
set_option maxHeartbeats 4000000 in
/-- few answers, whatever it is. -/
theorem few42_c (A0 : Option Addr) (n0 c0 : Nat) (l t : Int) (s : Bool) (A : Option Addr) (n c : Nat) (xs : List (List UInt8)) (D : Gh) (w : World) (hk : Keeps D w) (hs : SS D (.slice A n c) xs) :
    Calls Try.prog 34 #[.agg #[.slice A0 n0 c0, .int .i64 l, .int .i64 t, .bool s], .slice A n c] w fun e w' => AnyB e ∧ Below w.heap.size w w' := by
  obtain ⟨hn, hnc, hcm⟩ := hs.len
  unfold maxLen at hcm
  have HN := Lib.hid hn
  clear hn
  have hk1 := hk.alloc (.cells #[.slice A0 n0 c0, .int .i64 l, .int .i64 t, .bool s] 26)
  have hB := Box.new hk 26 #[.slice A0 n0 c0, .int .i64 l, .int .i64 t, .bool s]
  have hbel : Below w.heap.size w (w.alloc (.cells #[.slice A0 n0 c0, .int .i64 l, .int .i64 t, .bool s] 26)) := (by repeat (first | (with_reducible exact Below.refl _ _) | (with_reducible refine Below.drew ?_) | (with_reducible refine belowDrewN ?_ _) | (with_reducible refine belowAlloc ?_ _) | ((with_reducible refine belowSet2 ?_ ?_); omega) | (with_reducible assumption) | (with_reducible refine belowVia (by assumption) ?_) | (with_reducible refine belowVia (Grow.below (by assumption)) ?_)))
  generalize hW : w.alloc (.cells #[.slice A0 n0 c0, .int .i64 l, .int .i64 t, .bool s] 26) = W at *
  go_enter Try.func34, Try.ntmps34
  go_wp2_with fail
  clear hW
  have q0 : W.cell? ⟨w.heap.size, 0, none⟩ = some (.slice A0 n0 c0) := hB.cell 0
  go_loop [5, 10] (fun v y => ∃ (i : Nat) (z : Int), i ≤ n ∧ v = .int .i64 z ∧ y = .int .i64 i) (fun _ y => n - (intOf y).toNat)
  case atStart => exact ⟨0, 0, by omega, rfl, rfl⟩
  case round =>
    obtain ⟨i, z, hi, rfl, rfl⟩ := hrel
    by_cases hlt : i < n
    · obtain ⟨b, o, a', c', rfl, hcu, hbs⟩ := hs.at_ hk1 (k := i) (by rw [← HN.out]; exact hlt)
      have g1 : (i : Int) < (n : Int) := by omega
      have g0 : (0 : Int) ≤ (i : Int) := by omega
      clear hbs
      go_wp2
      go_round
      case rel => exact ⟨i + 1, _, by omega, rfl, by go_num⟩
      case measure => simp [intOf]; omega
    · obtain rfl : i = n := by omega
      go_wp2
      all_goals
        go_ret
        exact ⟨anyB _, hbel⟩
set_option maxRecDepth 100000 in
set_option maxHeartbeats 4000000 in
theorem sameR_c (A B : Option Addr) (n c m k : Nat) (xs ys : List (List UInt8)) (D : Gh) (w : World) (hk : Keeps D w) (hs : SS D (.slice A n c) xs) (ht : SS D (.slice B m k) ys) :
    Calls Try.prog 42 #[.slice A n c, .slice B m k] w fun e w' => e = .returned (.bool (decide (xs = ys))) ∧ ∃ q, w' = w.drewN q := by
  obtain ⟨hn, hnc, hcm⟩ := hs.len
  obtain ⟨hm, hmk, hkm⟩ := ht.len
  unfold maxLen at hcm hkm
  have HN := Lib.hid (And.intro hn hm)
  clear hn hm
  go_enter Try.func42, Try.ntmps42
  by_cases hnm : n = m
  · subst hnm
    go_wp2_with fail
    go_loopw [5] (fun y wr => ∃ (i q : Nat), i ≤ n ∧ y = .int .i64 (i : Int) ∧ wr = w.drewN q ∧ Hid (xs.take i = ys.take i)) (fun y _ => n - (intOf y).toNat)
    case atStart => exact ⟨0, 0, Nat.zero_le _, rfl, rfl, Lib.hid rfl⟩
    case round =>
      obtain ⟨i, q, hi, rfl, rfl, HTK⟩ := hrel
      by_cases hlt : i < n
      · have hix : i < xs.length := by rw [← HN.out.1]; exact hlt
        have hiy : i < ys.length := by rw [← HN.out.2]; exact hlt
        obtain ⟨b, o, a', c', rfl, hcu, hbs⟩ := hs.at_ hk (k := i) hix
        obtain ⟨b2, o2, a2, c2, rfl, hcu2, hbs2⟩ := ht.at_ hk (k := i) hiy
        have HTX := Lib.hid (show xs.take (i + 1) = xs.take i ++ [xs[i]] from by rw [List.take_add_one, List.getElem?_eq_getElem hix]; rfl)
        have HTY := Lib.hid (show ys.take (i + 1) = ys.take i ++ [ys[i]] from by rw [List.take_add_one, List.getElem?_eq_getElem hiy]; rfl)
        have e1 := fun nq => run_string_bs (P := Try.prog) (hk.drewN nq) Try.underlying32 Try.underlying5 Try.underlying9 hbs
        have e2 := fun nq => run_string_bs (P := Try.prog) (hk.drewN nq) Try.underlying32 Try.underlying5 Try.underlying9 hbs2
        have HNE := Lib.hid (fun (h : xs[i] ≠ ys[i]) => (show xs ≠ ys from fun e => h (by simp [e])))
        generalize xs[i] = x at *
        generalize ys[i] = y at *
        have HB := Lib.hid (str_beq x y)
        generalize x.length = lx at *
        generalize y.length = ly at *
        generalize hsx : str x = sx at *
        generalize hsy : str y = sy at *
        clear hsx hsy hbs hbs2
        have g1 : (i : Int) < (n : Int) := by omega
        have g0 : (0 : Int) ≤ (i : Int) := by omega
        by_cases hxy : x = y
        · have g2 : (sx.toList == sy.toList) = true := by rw [HB.out]; exact decide_eq_true hxy
          have g3 : (sx.toList != sy.toList) = false := by rw [bne, g2]; rfl
          have HT1 := Lib.hid (show xs.take (i + 1) = ys.take (i + 1) from by rw [HTX.out, HTY.out, HTK.out, hxy])
          clear hxy
          go_wp2_with fail
          go_quiet (fail)
          go_wp2
          go_roundw
          case rel => exact ⟨i + 1, q + nq, by omega, by go_num, by simp, HT1⟩
          case measure => simp [intOf]; omega
        · have g2 : (sx.toList == sy.toList) = false := by rw [HB.out]; exact decide_eq_false hxy
          have g3 : (sx.toList != sy.toList) = true := by rw [bne, g2]; rfl
          have HF := Lib.hid (show decide (xs = ys) = false from decide_eq_false (HNE.out hxy))
          clear hxy
          go_wp2_with fail
          go_quiet (fail)
          go_wp2
          go_ret
          exact ⟨by rw [HF.out]; rfl, q + nq, by simp⟩
      · obtain rfl : i = n := by omega
        have HT := Lib.hid (show decide (xs = ys) = true from decide_eq_true (by
          have h := HTK.out
          rw [List.take_of_length_le (by rw [← HN.out.1]; exact Nat.le_refl _), List.take_of_length_le (by rw [← HN.out.2]; exact Nat.le_refl _)] at h
          exact h))
        go_wp2
        go_ret
        exact ⟨by rw [HT.out]; rfl, q, rfl⟩
  · have g1 : ((n : Int) != (m : Int)) = true := by simp; omega
    have HF := Lib.hid (show decide (xs = ys) = false from decide_eq_false (fun e => hnm (by rw [HN.out.1, HN.out.2, e])))
    go_wp2_with fail
    go_ret
    exact ⟨by rw [HF.out]; rfl, 0, rfl⟩
end Go.Proofs.Ytegkmkglagmdiaa
