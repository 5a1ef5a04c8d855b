/-
  What is proved here: Append refuses a record that does not fit, however long
-/
import Derived.Test.YtegkmkglagmdiaaRows
import Derived.Test.YtegkmkglagmdiaaBaseB
import Derived.Test.YtegkmkglagmdiaaCrc
import Derived.Test.YtegkmkglagmdiaaWalP
import Derived.Test.YtegkmkglagmdiaaWalA
import Derived.Test.YtegkmkglagmdiaaWalB
import Derived.Test.YtegkmkglagmdiaaWalC
import Derived.Test.YtegkmkglagmdiaaWalD
import Derived.Test.YtegkmkglagmdiaaWalE
import Derived.Test.YtegkmkglagmdiaaDiskF
import Derived.Test.YtegkmkglagmdiaaDiskH
import Derived.Test.YtegkmkglagmdiaaWalF
import Derived.Test.YtegkmkglagmdiaaRangeF
import Derived.Test.YtegkmkglagmdiaaWalG
import Derived.Test.YtegkmkglagmdiaaWalH
import Derived.Test.YtegkmkglagmdiaaWalI
import Derived.Test.YtegkmkglagmdiaaWalJ
import Derived.Test.YtegkmkglagmdiaaWalK
import Derived.Test.YtegkmkglagmdiaaWalL
import Derived.Test.YtegkmkglagmdiaaWalS
import Derived.Test.YtegkmkglagmdiaaWalT
import Derived.Test.YtegkmkglagmdiaaWalU
import Derived.Test.YtegkmkglagmdiaaWalV
import Derived.Test.YtegkmkglagmdiaaWalW
import Derived.Test.YtegkmkglagmdiaaWalX
import Derived.Test.YtegkmkglagmdiaaWalY
import Derived.Test.YtegkmkglagmdiaaDiskI
import Derived.OwnWalkIn
import Derived.TacticsInMore
import Derived.LoopNIn
import Derived.LoopIn
import Derived.Scope
import Derived.StillTailTactics
import Derived.Shelf.Abstract
import Derived.RangeFuncCalls
import Derived.Laws.BitsAllLaws
import Derived.Deep.RegionHeld3
import Derived.Deep.RegionLaw
import Derived.Deep.DeepCutAuto
import Derived.Deep.QuietTactic
import Derived.BigQuiet
import Derived.Laws.EntriesVeiled
import Derived.Deep.MidRow
import Derived.Laws.CopyRow
namespace Go.Proofs.Ytegkmkglagmdiaa
open Go.RowKit Go.VS
set_option maxRecDepth 100000 in
set_option maxHeartbeats 20000000 in
theorem append_big (A : Option Addr) (n c : Nat) (xs : List (List UInt8)) (f m s : Int) (Ab : Option Addr) (nb cb : Nat) (D : Gh) (w : World) (hk : Keeps D w) (hs : SS D (.slice A n c) xs) (hc : chkL f m xs s = 0)
    (hl : ¬ nb ≤ 65536) :
    Calls Try.prog 35 #[.agg #[.int .i64 f, .int .i64 m, .slice A n c, .int .i64 s], .slice Ab nb cb] w fun e w' => e = .returned (.tuple #[.agg #[.int .i64 0, .int .i64 0, .slice none 0 0, .int .i64 0], .int .i64 2]) ∧ Below w.heap.size w w' := by
  obtain ⟨hf0, hm1, hm2, _, _, hs2, hx, ho⟩ := chkL_zero hc
  have hxn := hs.len.1
  have hxo := occs_ge xs
  have hn43 : n ≤ 8796093022208 := by omega
  have HC := Lib.hid (fun W (hW : Keeps D W) => logcheck_c A n c xs f m s D W hW hs hn43)
  rw [hc] at HC
  have HOC := Lib.hid (fun W (hW : Keeps D W) => (allocc_c A n c xs D W hW hs (fun x hx' => by have := hx x hx'; omega) (by omega)).mono (fun _ _ h => (⟨h.1, h.2.symm⟩ : _ ∧ _)))
  have hk1 := hk.alloc (.cells #[.int .i64 f, .int .i64 m, .slice A n c, .int .i64 s] 47)
  have h0 := Box.new hk 47 #[.int .i64 f, .int .i64 m, .slice A n c, .int .i64 s]
  have h1 := Box.new hk1 47 #[.int .i64 0, .int .i64 0, .slice none 0 0, .int .i64 0]
  rw [World.size_alloc] at h1
  have h0' := h0.alloc (.cells #[.int .i64 0, .int .i64 0, .slice none 0 0, .int .i64 0] 47)
  have hk2 := hk1.alloc (.cells #[.int .i64 0, .int .i64 0, .slice none 0 0, .int .i64 0] 47)
  have hb2 : Below w.heap.size w ((w.alloc (.cells #[.int .i64 f, .int .i64 m, .slice A n c, .int .i64 s] 47)).alloc (.cells #[.int .i64 0, .int .i64 0, .slice none 0 0, .int .i64 0] 47)) := (by repeat (first | (with_reducible exact Below.refl _ _) | (with_reducible refine Below.drew ?_) | (with_reducible refine belowDrewN ?_ _) | (with_reducible refine belowAlloc ?_ _) | ((with_reducible refine belowSet2 ?_ ?_); omega) | (with_reducible assumption) | (with_reducible refine belowVia (by assumption) ?_) | (with_reducible refine belowVia (Grow.below (by assumption)) ?_)))
  clear hx hc hs2 hxn hxo
  generalize occs xs = oc at *
  go_enter Try.func35, Try.ntmps35
  go_wp2_with fail
  refine (HC.out _ hk2).mono ?_
  rintro e w1 ⟨rfl, hb1⟩
  have b1 := h1.below hb1 (by simp)
  have b0 := h0'.below hb1 (by simp; omega)
  have hbw : Below w.heap.size w w1 := belowVia hb1 hb2
  have hkw := hk.below hbw (Nat.le_refl _)
  clear h0 h0' h1 hb2 hk1 hk2 hb1
  have q1 : w1.cell? ⟨w.heap.size, 1, none⟩ = some (.int .i64 m) := b0.cell 1
  have q2 : w1.cell? ⟨w.heap.size, 2, none⟩ = some (.slice A n c) := b0.cell 2
  have e1 : IntKind.i64.wrap (m - (oc : Int)) = m - oc := by rw [IntKind.wrap_i64]; omega
  have g1 : decide (65536 < (nb : Int)) = true := by simp; omega
  clear hl hf0 hm1 hm2 ho
  go_wp2_with fail
  go_quiet (fail)
  have b2 : Box (w1.drewN nq) D (w.heap.size + 1) 47 #[.int .i64 0, .int .i64 0, .slice none 0 0, .int .i64 0] := ⟨b1.heap, b1.off⟩
  have hb3 := belowDrewN hbw nq
  clear q1 q2 b0 b1 hbw hkw
  generalize w1.drewN nq = W1 at *
  have p0 : W1.cell? ⟨w.heap.size + 1, 0, none⟩ = some (.int .i64 0) := b2.cell 0
  have p1 : W1.cell? ⟨w.heap.size + 1, 1, none⟩ = some (.int .i64 0) := b2.cell 1
  have p2 : W1.cell? ⟨w.heap.size + 1, 2, none⟩ = some (.slice none 0 0) := b2.cell 2
  have p3 : W1.cell? ⟨w.heap.size + 1, 3, none⟩ = some (.int .i64 0) := b2.cell 3
  have fr := b2.frozen
  have b4 := b2.set4 (.int .i64 0) (.int .i64 0) (.slice none 0 0) (.int .i64 0)
  have hb4 : Below w.heap.size w ((((W1.setCell ⟨w.heap.size + 1, 0, none⟩ (.int .i64 0)).setCell ⟨w.heap.size + 1, 1, none⟩ (.int .i64 0)).setCell ⟨w.heap.size + 1, 2, none⟩ (.slice none 0 0)).setCell ⟨w.heap.size + 1, 3, none⟩ (.int .i64 0)) :=
    belowSet2 (by omega) (belowSet2 (by omega) (belowSet2 (by omega) (belowSet2 (by omega) hb3)))
  go_wp2_with fail
  refine bodyPost_ret (v := .tuple #[log0, .int .i64 2]) ?_ rfl ⟨rfl, hb4⟩
  clear p0 p1 p2 p3 fr hb4
  generalize (((W1.setCell ⟨w.heap.size + 1, 0, none⟩ (.int .i64 0)).setCell ⟨w.heap.size + 1, 1, none⟩ (.int .i64 0)).setCell ⟨w.heap.size + 1, 2, none⟩ (.slice none 0 0)).setCell ⟨w.heap.size + 1, 3, none⟩ (.int .i64 0) = WF at *
  have c0 : WF.cell? ⟨w.heap.size + 1, 0, none⟩ = some (.int .i64 0) := b4.cell 0
  have c1 : WF.cell? ⟨w.heap.size + 1, 1, none⟩ = some (.int .i64 0) := b4.cell 1
  have c2 : WF.cell? ⟨w.heap.size + 1, 2, none⟩ = some (.slice none 0 0) := b4.cell 2
  have c3 : WF.cell? ⟨w.heap.size + 1, 3, none⟩ = some (.int .i64 0) := b4.cell 3
  simp [results, Try.results35, go_sem, c0, c1, c2, c3, log0]
/-- Append refuses what does not fit, however long. -/
theorem append_no (A : Option Addr) (n c : Nat) (xs : List (List UInt8)) (f m s : Int) (Ab : Option Addr) (nb cb : Nat) (D : Gh) (w : World) (hk : Keeps D w) (hs : SS D (.slice A n c) xs) (hc : chkL f m xs s = 0)
    (hlim : ¬ (nb ≤ 65536 ∧ (occ nb : Int) ≤ m - occs xs)) :
    Calls Try.prog 35 #[.agg #[.int .i64 f, .int .i64 m, .slice A n c, .int .i64 s], .slice Ab nb cb] w fun e w' => e = .returned (.tuple #[.agg #[.int .i64 0, .int .i64 0, .slice none 0 0, .int .i64 0], .int .i64 2]) ∧ Below w.heap.size w w' := by
  by_cases h : nb ≤ 65536
  · exact append_lim_ A n c xs f m s Ab nb cb D w hk hs hc hlim (by omega)
  · exact append_big A n c xs f m s Ab nb cb D w hk hs hc h
end Go.Proofs.Ytegkmkglagmdiaa
