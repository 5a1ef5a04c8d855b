/-
  What is proved here: wal: Room of a log
-/
import Derived.Test.YtegkmkglagmdiaaRows
import Derived.Test.YtegkmkglagmdiaaBaseB
import Derived.Test.YtegkmkglagmdiaaWalB
import Derived.Laws.BitsAllLaws
import Derived.Deep.RegionHeld3
import Derived.Deep.RegionLaw
import Derived.Deep.DeepCutAuto
import Derived.Deep.QuietTactic
import Derived.BigQuiet
import Derived.Laws.EntriesVeiled
namespace Go.Proofs.Ytegkmkglagmdiaa
open Go.RowKit Go.VS
def roomF (f m : Int) (xs : List (List UInt8)) (s : Int) : Int := if chkL f m xs s = 0 then min (112 * (m - (occs xs : Nat))) 65536 else 0
theorem chkL01 (f m : Int) (xs : List (List UInt8)) (s : Int) : chkL f m xs s = 0 ∨ chkL f m xs s = 1 := by unfold chkL; split <;> simp
theorem chkL_zero {f m : Int} {xs : List (List UInt8)} {s : Int} (h : chkL f m xs s = 0) : 0 ≤ f ∧ 1 ≤ m ∧ m ≤ 4096 ∧ f ≤ 4096 - m ∧ 0 ≤ s ∧ s ≤ xs.length ∧ (∀ x ∈ xs, x.length ≤ 65536) ∧ (occs xs : Int) ≤ m := by
  unfold chkL okL at h
  split at h
  · rename_i h'; exact of_decide_eq_true h'
  · simp at h
set_option maxRecDepth 100000 in
set_option maxHeartbeats 1000000 in
theorem room_c (A : Option Addr) (n c : Nat) (xs : List (List UInt8)) (f m s : Int) (D : Gh) (w : World) (hk : Keeps D w) (hs : SS D (.slice A n c) xs) (hn43 : n ≤ 8796093022208) :
    Calls Try.prog 39 #[.agg #[.int .i64 f, .int .i64 m, .slice A n c, .int .i64 s]] w fun e w' => e = .returned (.int .i64 (roomF f m xs s)) ∧ Below w.heap.size w w' := by
  have HC := Lib.hid (fun W (hW : Keeps D W) => logcheck_c A n c xs f m s D W hW hs hn43)
  rcases chkL01 f m xs s with h0 | h0
  · obtain ⟨_, _, _, _, _, _, hx, ho⟩ := chkL_zero h0
    have HF := Lib.hid (show roomF f m xs s = min (112 * (m - (occs xs : Nat))) 65536 by unfold roomF; rw [if_pos h0])
    have HOC := Lib.hid (fun W (hW : Keeps D W) => allocc_c A n c xs D W hW hs (fun x hx' => by have := hx x hx'; omega) (by omega))
    rw [h0] at HC
    clear hx h0
    generalize occs xs = oc at *
    go_enter Try.func39, Try.ntmps39
    go_wp2_with fail
    refine (HC.out _ (by repeat (with_reducible first | assumption | refine Keeps.drew ?_ | refine Keeps.drewN ?_ _ | refine Keeps.alloc ?_ _ | exact Grow.keeps (by assumption)))).mono ?_
    rintro e w1 ⟨rfl, hb1⟩
    have hk1 : Keeps D w1 := (hk.alloc _).below hb1 (Nat.le_refl _)
    have hB := (Box.new hk 47 #[.int .i64 f, .int .i64 m, .slice A n c, .int .i64 s]).below hb1 (by simp)
    obtain ⟨q0, q1, q2, q3⟩ := hB.cells4
    have HB1 := Lib.hid hb1
    clear hb1 hB
    have e1 : IntKind.i64.wrap (m - (oc : Int)) = m - oc := by rw [IntKind.wrap_i64]; omega
    have e2 : IntKind.i64.wrap (112 * (m - (oc : Int))) = 112 * (m - oc) := by rw [IntKind.wrap_i64]; omega
    go_wp2
    go_region_held3 (fun w' => w'.cell? ⟨w.heap.size, 1, none⟩ = some (.int .i64 m) ∧ w'.cell? ⟨w.heap.size, 2, none⟩ = some (.slice A n c))
      (go_keep)
      (first | (go_at_call 54; refine (HOC.out _ ?_).mono ?_; (exact (by repeat (with_reducible first | assumption | refine Keeps.drew ?_ | refine Keeps.drewN ?_ _ | refine Keeps.alloc ?_ _ | exact Grow.keeps (by assumption)))); rintro e w2 ⟨rfl, rfl⟩))
    all_goals
      have hb1 := HB1.out
      go_wp2
      all_goals
        go_ret
        exact ⟨congrArg (fun z => Ending.returned (Value.int .i64 z)) (by rw [HF.out]; clear HF HOC HC; (try simp only [e1, e2] at *); omega), (by repeat (first | (with_reducible exact Below.refl _ _) | (with_reducible refine Below.drew ?_) | (with_reducible refine belowDrewN ?_ _) | (with_reducible refine belowAlloc ?_ _) | ((with_reducible refine belowSet2 ?_ ?_); omega) | (with_reducible assumption) | (with_reducible refine belowVia (by assumption) ?_) | (with_reducible refine belowVia (Grow.below (by assumption)) ?_)))⟩
  · have HF := Lib.hid (show roomF f m xs s = 0 by unfold roomF; rw [if_neg]; rw [h0]; decide)
    rw [h0] at HC
    clear h0
    go_enter Try.func39, Try.ntmps39
    go_wp2_with fail
    refine (HC.out _ (by repeat (with_reducible first | assumption | refine Keeps.drew ?_ | refine Keeps.drewN ?_ _ | refine Keeps.alloc ?_ _ | exact Grow.keeps (by assumption)))).mono ?_
    rintro e w1 ⟨rfl, hb1⟩
    go_wp2
    go_ret
    exact ⟨by rw [HF.out]; rfl, (by repeat (first | (with_reducible exact Below.refl _ _) | (with_reducible refine Below.drew ?_) | (with_reducible refine belowDrewN ?_ _) | (with_reducible refine belowAlloc ?_ _) | ((with_reducible refine belowSet2 ?_ ?_); omega) | (with_reducible assumption) | (with_reducible refine belowVia (by assumption) ?_) | (with_reducible refine belowVia (Grow.below (by assumption)) ?_)))⟩
end Go.Proofs.Ytegkmkglagmdiaa
