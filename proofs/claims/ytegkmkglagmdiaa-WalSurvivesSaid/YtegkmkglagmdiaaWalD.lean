/-
  What is proved here: wal: four bytes of a number
-/
import Derived.Test.YtegkmkglagmdiaaRows
import Derived.Test.YtegkmkglagmdiaaBaseB
import Derived.Test.YtegkmkglagmdiaaWalC
import Derived.Laws.BitsAllLaws
import Derived.Deep.RegionHeld3
import Derived.Deep.RegionLaw
import Derived.Deep.DeepCutAuto
import Derived.Deep.QuietTactic
import Derived.BigQuiet
import Derived.Laws.EntriesVeiled
namespace Go.Proofs.Ytegkmkglagmdiaa
open Go.RowKit Go.VS
set_option maxRecDepth 100000 in
set_option maxHeartbeats 1000000 in
theorem four_c (x : Nat) (hx : x < 4294967296) (w : World) :
    Calls Try.prog 68 #[.int .u32 x] w fun e w' => e = .returned (.agg #[.int .u8 (x / 16777216 : Nat), .int .u8 ((x / 65536 : Nat) % 256 : Nat), .int .u8 ((x / 256 : Nat) % 256 : Nat), .int .u8 (x % 256 : Nat)]) ∧ Below w.heap.size w w' := by
  go_enter Try.func68, Try.ntmps68
  go_wp2_with fail
  exact bodyPost_ret (v := .agg #[.int .u8 (x / 16777216 : Nat), .int .u8 ((x / 65536 : Nat) % 256 : Nat), .int .u8 ((x / 256 : Nat) % 256 : Nat), .int .u8 (x % 256 : Nat)]) (by simp [results, Try.results68, go_sem]) rfl ⟨rfl, (by repeat (first | (with_reducible exact Below.refl _ _) | (with_reducible refine Below.drew ?_) | (with_reducible refine belowDrewN ?_ _) | (with_reducible refine belowAlloc ?_ _) | ((with_reducible refine belowSet2 ?_ ?_); omega) | (with_reducible assumption) | (with_reducible refine belowVia (by assumption) ?_) | (with_reducible refine belowVia (Grow.below (by assumption)) ?_)))⟩
end Go.Proofs.Ytegkmkglagmdiaa
