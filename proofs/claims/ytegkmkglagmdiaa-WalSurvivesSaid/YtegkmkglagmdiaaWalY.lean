/-
  What is proved here: the specification's Room and Same
-/
import Derived.Test.YtegkmkglagmdiaaRows
import Derived.Test.YtegkmkglagmdiaaBaseB
import Derived.Test.YtegkmkglagmdiaaCrc
import Derived.Test.YtegkmkglagmdiaaWalP
import Derived.Test.YtegkmkglagmdiaaWalA
import Derived.Test.YtegkmkglagmdiaaWalB
import Derived.Test.YtegkmkglagmdiaaWalC
import Derived.Test.YtegkmkglagmdiaaWalD
import Derived.Test.YtegkmkglagmdiaaWalE
import Derived.Test.YtegkmkglagmdiaaDiskF
import Derived.Test.YtegkmkglagmdiaaDiskH
import Derived.Test.YtegkmkglagmdiaaWalF
import Derived.Test.YtegkmkglagmdiaaRangeF
import Derived.Test.YtegkmkglagmdiaaWalG
import Derived.Test.YtegkmkglagmdiaaWalH
import Derived.Test.YtegkmkglagmdiaaWalI
import Derived.Test.YtegkmkglagmdiaaWalJ
import Derived.Test.YtegkmkglagmdiaaWalK
import Derived.Test.YtegkmkglagmdiaaWalL
import Derived.Test.YtegkmkglagmdiaaWalS
import Derived.Test.YtegkmkglagmdiaaWalT
import Derived.Test.YtegkmkglagmdiaaWalU
import Derived.Test.YtegkmkglagmdiaaWalV
import Derived.Test.YtegkmkglagmdiaaWalW
import Derived.Test.YtegkmkglagmdiaaWalX
import Derived.Test.YtegkmkglagmdiaaDiskI
import Derived.OwnWalkIn
import Derived.TacticsInMore
import Derived.LoopNIn
import Derived.LoopIn
import Derived.Scope
import Derived.StillTailTactics
import Derived.Shelf.Abstract
import Derived.RangeFuncCalls
import Derived.Laws.BitsAllLaws
import Derived.Deep.RegionHeld3
import Derived.Deep.RegionLaw
import Derived.Deep.DeepCutAuto
import Derived.Deep.QuietTactic
import Derived.BigQuiet
import Derived.Laws.EntriesVeiled
import Derived.Deep.MidRow
import Derived.Laws.CopyRow
namespace Go.Proofs.Ytegkmkglagmdiaa
open Go.RowKit Go.VS
set_option maxRecDepth 100000 in
set_option maxHeartbeats 1000000 in
theorem rroom_c (A : Option Addr) (n c : Nat) (xs : List (List UInt8)) (f m s : Int) (D : Gh) (w : World) (hk : Keeps D w) (hs : SS D (.slice A n c) xs) (hn43 : n ≤ 8796093022208) :
    Calls Try.prog 40 #[.agg #[.int .i64 f, .int .i64 m, .slice A n c, .int .i64 s]] w fun e w' => e = .returned (.int .i64 (roomF f m xs s)) ∧ Below w.heap.size w w' := by
  have HC := Lib.hid (fun W (hW : Keeps D W) => rcheck_c A n c xs f m s D W hW hs hn43)
  rcases chkL01 f m xs s with h0 | h0
  · obtain ⟨_, _, _, _, _, _, hx, ho⟩ := chkL_zero h0
    have HF := Lib.hid (show roomF f m xs s = min (112 * (m - (occs xs : Nat))) 65536 by unfold roomF; rw [if_pos h0])
    have HOC := Lib.hid (fun W (hW : Keeps D W) => rused_ok A n c xs D W hW hs (fun x hx' => by have := hx x hx'; omega) (by omega))
    rw [h0] at HC
    clear hx h0
    generalize occs xs = oc at *
    go_enter Try.func40, Try.ntmps40
    go_wp2_with fail
    refine (HC.out _ (by repeat (with_reducible first | assumption | refine Keeps.drew ?_ | refine Keeps.drewN ?_ _ | refine Keeps.alloc ?_ _ | exact Grow.keeps (by assumption)))).mono ?_
    rintro e w1 ⟨rfl, hb1⟩
    have hk1 : Keeps D w1 := (hk.alloc _).below hb1 (Nat.le_refl _)
    have hB := (Box.new hk 47 #[.int .i64 f, .int .i64 m, .slice A n c, .int .i64 s]).below hb1 (by simp)
    obtain ⟨q0, q1, q2, q3⟩ := hB.cells4
    have HB1 := Lib.hid hb1
    clear hb1 hB
    have e1 : IntKind.i64.wrap (m - (oc : Int)) = m - oc := by rw [IntKind.wrap_i64]; omega
    have e2 : IntKind.i64.wrap (112 * (m - (oc : Int))) = 112 * (m - oc) := by rw [IntKind.wrap_i64]; omega
    go_wp2
    go_region_held3 (fun w' => w'.cell? ⟨w.heap.size, 1, none⟩ = some (.int .i64 m) ∧ w'.cell? ⟨w.heap.size, 2, none⟩ = some (.slice A n c))
      (go_keep)
      (first | (go_at_call 56; refine (HOC.out _ ?_).mono ?_; (exact (by repeat (with_reducible first | assumption | refine Keeps.drew ?_ | refine Keeps.drewN ?_ _ | refine Keeps.alloc ?_ _ | exact Grow.keeps (by assumption)))); rintro e w2 ⟨rfl, rfl⟩))
    all_goals
      have hb1 := HB1.out
      go_wp2
      all_goals
        go_ret
        exact ⟨congrArg (fun z => Ending.returned (Value.int .i64 z)) (by rw [HF.out]; clear HF HOC HC; (try simp only [e1, e2] at *); omega), (by repeat (first | (with_reducible exact Below.refl _ _) | (with_reducible refine Below.drew ?_) | (with_reducible refine belowDrewN ?_ _) | (with_reducible refine belowAlloc ?_ _) | ((with_reducible refine belowSet2 ?_ ?_); omega) | (with_reducible assumption) | (with_reducible refine belowVia (by assumption) ?_) | (with_reducible refine belowVia (Grow.below (by assumption)) ?_)))⟩
  · have HF := Lib.hid (show roomF f m xs s = 0 by unfold roomF; rw [if_neg]; rw [h0]; decide)
    rw [h0] at HC
    clear h0
    go_enter Try.func40, Try.ntmps40
    go_wp2_with fail
    refine (HC.out _ (by repeat (with_reducible first | assumption | refine Keeps.drew ?_ | refine Keeps.drewN ?_ _ | refine Keeps.alloc ?_ _ | exact Grow.keeps (by assumption)))).mono ?_
    rintro e w1 ⟨rfl, hb1⟩
    go_wp2
    go_ret
    exact ⟨by rw [HF.out]; rfl, (by repeat (first | (with_reducible exact Below.refl _ _) | (with_reducible refine Below.drew ?_) | (with_reducible refine belowDrewN ?_ _) | (with_reducible refine belowAlloc ?_ _) | ((with_reducible refine belowSet2 ?_ ?_); omega) | (with_reducible assumption) | (with_reducible refine belowVia (by assumption) ?_) | (with_reducible refine belowVia (Grow.below (by assumption)) ?_)))⟩
set_option maxRecDepth 100000 in
set_option maxHeartbeats 4000000 in
theorem rsame_c (A B : Option Addr) (n c c' : Nat) (xs : List (List UInt8)) (f m s : Int) (D : Gh) (w : World) (hk : Keeps D w) (hs : SS D (.slice A n c) xs) (ht : SS D (.slice B n c') xs) :
    Calls Try.prog 41 #[.agg #[.int .i64 f, .int .i64 m, .slice A n c, .int .i64 s], .agg #[.int .i64 f, .int .i64 m, .slice B n c', .int .i64 s]] w fun e w' => e = .returned (.bool true) ∧ Below w.heap.size w w' := by
  have hk1 := hk.alloc (.cells #[.int .i64 f, .int .i64 m, .slice A n c, .int .i64 s] 47)
  have hk2 := hk1.alloc (.cells #[.int .i64 f, .int .i64 m, .slice B n c', .int .i64 s] 47)
  have HS := Lib.hid (fun W (hW : Keeps D W) => sameR_c A B n c n c' xs xs D W hW hs ht)
  rw [decide_eq_true rfl] at HS
  have gf : (f == f) = true := by simp
  have gm : (m == m) = true := by simp
  have gs : (s == s) = true := by simp
  go_enter Try.func41, Try.ntmps41
  go_wp2_with fail
  refine (HS.out _ hk2).mono ?_
  rintro e w1 ⟨rfl, q, rfl⟩
  go_wp2_with fail
  go_ret
  exact ⟨rfl, (by repeat (first | (with_reducible exact Below.refl _ _) | (with_reducible refine Below.drew ?_) | (with_reducible refine belowDrewN ?_ _) | (with_reducible refine belowAlloc ?_ _) | ((with_reducible refine belowSet2 ?_ ?_); omega) | (with_reducible assumption) | (with_reducible refine belowVia (by assumption) ?_) | (with_reducible refine belowVia (Grow.below (by assumption)) ?_)))⟩
end Go.Proofs.Ytegkmkglagmdiaa
