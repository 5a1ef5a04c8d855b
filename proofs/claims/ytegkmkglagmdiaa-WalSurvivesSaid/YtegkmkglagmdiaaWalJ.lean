/-
  What is proved here: Append, walked
-/
import Derived.Test.YtegkmkglagmdiaaRows
import Derived.Test.YtegkmkglagmdiaaBaseB
import Derived.Test.YtegkmkglagmdiaaCrc
import Derived.Test.YtegkmkglagmdiaaWalP
import Derived.Test.YtegkmkglagmdiaaWalA
import Derived.Test.YtegkmkglagmdiaaWalB
import Derived.Test.YtegkmkglagmdiaaWalC
import Derived.Test.YtegkmkglagmdiaaWalD
import Derived.Test.YtegkmkglagmdiaaWalE
import Derived.Test.YtegkmkglagmdiaaDiskF
import Derived.Test.YtegkmkglagmdiaaWalF
import Derived.Test.YtegkmkglagmdiaaRangeF
import Derived.Test.YtegkmkglagmdiaaWalG
import Derived.Test.YtegkmkglagmdiaaWalH
import Derived.Test.YtegkmkglagmdiaaWalI
import Derived.OwnWalkIn
import Derived.TacticsInMore
import Derived.LoopNIn
import Derived.LoopIn
import Derived.Scope
import Derived.Shelf.Abstract
import Derived.RangeFuncCalls
import Derived.Laws.BitsAllLaws
import Derived.Deep.RegionHeld3
import Derived.Deep.RegionLaw
import Derived.Deep.DeepCutAuto
import Derived.Deep.QuietTactic
import Derived.BigQuiet
import Derived.Laws.EntriesVeiled
import Derived.Deep.MidRow
import Derived.Laws.CopyRow
namespace Go.Proofs.Ytegkmkglagmdiaa
open Go.RowKit Go.VS
theorem occs_ge : ∀ (xs : List (List UInt8)), xs.length ≤ occs xs
  | [] => by simp
  | x :: r => by
    have h1 := occs_ge r
    have h2 : 1 ≤ occ x.length := by unfold occ; omega
    rw [occs_cons, List.length_cons]; omega
def log0 : Value := .agg #[.int .i64 0, .int .i64 0, .slice none 0 0, .int .i64 0]
set_option maxRecDepth 100000 in
set_option maxHeartbeats 20000000 in
theorem append_bad (A : Option Addr) (n c : Nat) (xs : List (List UInt8)) (f m s : Int) (V : Value) (D : Gh) (w : World) (hk : Keeps D w) (hs : SS D (.slice A n c) xs) (hn43 : n ≤ 8796093022208) (hc : chkL f m xs s = 1) (hV : ∃ Ab nb cb, V = .slice Ab nb cb) :
    Calls Try.prog 35 #[.agg #[.int .i64 f, .int .i64 m, .slice A n c, .int .i64 s], V] w fun e w' => e = .returned (.tuple #[log0, .int .i64 1]) ∧ Below w.heap.size w w' := by
  obtain ⟨Ab, nb, cb, rfl⟩ := hV
  have HC := Lib.hid (fun W (hW : Keeps D W) => logcheck_c A n c xs f m s D W hW hs hn43)
  rw [hc] at HC
  have hk1 := hk.alloc (.cells #[.int .i64 f, .int .i64 m, .slice A n c, .int .i64 s] 47)
  have h1 := Box.new hk1 47 #[.int .i64 0, .int .i64 0, .slice none 0 0, .int .i64 0]
  rw [World.size_alloc] at h1
  have hk2 := hk1.alloc (.cells #[.int .i64 0, .int .i64 0, .slice none 0 0, .int .i64 0] 47)
  have hb2 : Below w.heap.size w ((w.alloc (.cells #[.int .i64 f, .int .i64 m, .slice A n c, .int .i64 s] 47)).alloc (.cells #[.int .i64 0, .int .i64 0, .slice none 0 0, .int .i64 0] 47)) := (by repeat (first | (with_reducible exact Below.refl _ _) | (with_reducible refine Below.drew ?_) | (with_reducible refine belowDrewN ?_ _) | (with_reducible refine belowAlloc ?_ _) | ((with_reducible refine belowSet2 ?_ ?_); omega) | (with_reducible assumption) | (with_reducible refine belowVia (by assumption) ?_) | (with_reducible refine belowVia (Grow.below (by assumption)) ?_)))
  go_enter Try.func35, Try.ntmps35
  go_wp2_with fail
  refine (HC.out _ hk2).mono ?_
  rintro e w1 ⟨rfl, hb1⟩
  have b1 := h1.below hb1 (by simp)
  have hbw : Below w.heap.size w w1 := belowVia hb1 hb2
  clear h1 hb2 hk1 hk2 hb1
  have p0 : w1.cell? ⟨w.heap.size + 1, 0, none⟩ = some (.int .i64 0) := b1.cell 0
  have p1 : w1.cell? ⟨w.heap.size + 1, 1, none⟩ = some (.int .i64 0) := b1.cell 1
  have p2 : w1.cell? ⟨w.heap.size + 1, 2, none⟩ = some (.slice none 0 0) := b1.cell 2
  have p3 : w1.cell? ⟨w.heap.size + 1, 3, none⟩ = some (.int .i64 0) := b1.cell 3
  have fr := b1.frozen
  have b4 := b1.set4 (.int .i64 0) (.int .i64 0) (.slice none 0 0) (.int .i64 0)
  have hb4 : Below w.heap.size w ((((w1.setCell ⟨w.heap.size + 1, 0, none⟩ (.int .i64 0)).setCell ⟨w.heap.size + 1, 1, none⟩ (.int .i64 0)).setCell ⟨w.heap.size + 1, 2, none⟩ (.slice none 0 0)).setCell ⟨w.heap.size + 1, 3, none⟩ (.int .i64 0)) :=
    belowSet2 (by omega) (belowSet2 (by omega) (belowSet2 (by omega) (belowSet2 (by omega) hbw)))
  go_wp2_with fail
  refine bodyPost_ret (v := .tuple #[log0, .int .i64 1]) ?_ rfl ⟨rfl, hb4⟩
  clear p0 p1 p2 p3 fr hb4
  generalize (((w1.setCell ⟨w.heap.size + 1, 0, none⟩ (.int .i64 0)).setCell ⟨w.heap.size + 1, 1, none⟩ (.int .i64 0)).setCell ⟨w.heap.size + 1, 2, none⟩ (.slice none 0 0)).setCell ⟨w.heap.size + 1, 3, none⟩ (.int .i64 0) = WF at *
  have c0 : WF.cell? ⟨w.heap.size + 1, 0, none⟩ = some (.int .i64 0) := b4.cell 0
  have c1 : WF.cell? ⟨w.heap.size + 1, 1, none⟩ = some (.int .i64 0) := b4.cell 1
  have c2 : WF.cell? ⟨w.heap.size + 1, 2, none⟩ = some (.slice none 0 0) := b4.cell 2
  have c3 : WF.cell? ⟨w.heap.size + 1, 3, none⟩ = some (.int .i64 0) := b4.cell 3
  simp [results, Try.results35, go_sem, c0, c1, c2, c3, log0]
set_option maxRecDepth 100000 in
set_option maxHeartbeats 20000000 in
theorem append_lim (A : Option Addr) (n c : Nat) (xs : List (List UInt8)) (f m s : Int) (Ab : Option Addr) (nb cb : Nat) (D : Gh) (w : World) (hk : Keeps D w) (hs : SS D (.slice A n c) xs) (hc : chkL f m xs s = 0)
    (hlim : ¬ (nb ≤ 65536 ∧ (occ nb : Int) ≤ m - occs xs)) (hnb : nb ≤ 1000000000000) :
    Calls Try.prog 35 #[.agg #[.int .i64 f, .int .i64 m, .slice A n c, .int .i64 s], .slice Ab nb cb] w fun e w' => e = .returned (.tuple #[log0, .int .i64 2]) ∧ Below w.heap.size w w' := by
  obtain ⟨hf0, hm1, hm2, _, _, hs2, hx, ho⟩ := chkL_zero hc
  have hxn := hs.len.1
  have hxo := occs_ge xs
  have hn43 : n ≤ 8796093022208 := by omega
  have HC := Lib.hid (fun W (hW : Keeps D W) => logcheck_c A n c xs f m s D W hW hs hn43)
  rw [hc] at HC
  have HOC := Lib.hid (fun W (hW : Keeps D W) => (allocc_c A n c xs D W hW hs (fun x hx' => by have := hx x hx'; omega) (by omega)).mono (fun _ _ h => (⟨h.1, h.2.symm⟩ : _ ∧ _)))
  have HO := Lib.hid (fun W => (occ_c nb hnb W).mono (fun _ _ h => (⟨h.1, h.2.symm⟩ : _ ∧ _)))
  have hk1 := hk.alloc (.cells #[.int .i64 f, .int .i64 m, .slice A n c, .int .i64 s] 47)
  have h0 := Box.new hk 47 #[.int .i64 f, .int .i64 m, .slice A n c, .int .i64 s]
  have h1 := Box.new hk1 47 #[.int .i64 0, .int .i64 0, .slice none 0 0, .int .i64 0]
  rw [World.size_alloc] at h1
  have h0' := h0.alloc (.cells #[.int .i64 0, .int .i64 0, .slice none 0 0, .int .i64 0] 47)
  have hk2 := hk1.alloc (.cells #[.int .i64 0, .int .i64 0, .slice none 0 0, .int .i64 0] 47)
  have hb2 : Below w.heap.size w ((w.alloc (.cells #[.int .i64 f, .int .i64 m, .slice A n c, .int .i64 s] 47)).alloc (.cells #[.int .i64 0, .int .i64 0, .slice none 0 0, .int .i64 0] 47)) := (by repeat (first | (with_reducible exact Below.refl _ _) | (with_reducible refine Below.drew ?_) | (with_reducible refine belowDrewN ?_ _) | (with_reducible refine belowAlloc ?_ _) | ((with_reducible refine belowSet2 ?_ ?_); omega) | (with_reducible assumption) | (with_reducible refine belowVia (by assumption) ?_) | (with_reducible refine belowVia (Grow.below (by assumption)) ?_)))
  clear hx hc hs2 hxn hxo
  generalize occs xs = oc at *
  have hob : occ nb ≤ 8928571429 := by unfold occ; omega
  generalize hoo : occ nb = ob at *
  clear hoo
  go_enter Try.func35, Try.ntmps35
  go_wp2_with fail
  refine (HC.out _ hk2).mono ?_
  rintro e w1 ⟨rfl, hb1⟩
  have b1 := h1.below hb1 (by simp)
  have b0 := h0'.below hb1 (by simp; omega)
  have hbw : Below w.heap.size w w1 := belowVia hb1 hb2
  have hkw := hk.below hbw (Nat.le_refl _)
  clear h0 h0' h1 hb2 hk1 hk2 hb1
  have q1 : w1.cell? ⟨w.heap.size, 1, none⟩ = some (.int .i64 m) := b0.cell 1
  have q2 : w1.cell? ⟨w.heap.size, 2, none⟩ = some (.slice A n c) := b0.cell 2
  have e1 : IntKind.i64.wrap (m - (oc : Int)) = m - oc := by rw [IntKind.wrap_i64]; omega
  by_cases hl : nb ≤ 65536
  · have g1 : decide (65536 < (nb : Int)) = false := by simp; omega
    have g2 : decide (m - (oc : Int) < (ob : Int)) = true := by simp; omega
    clear hlim hl hob hnb hf0 hm1 hm2 ho
    go_wp2_with fail
    go_quiet (first | (with_reducible exact Calls.quiet_of_same (HO.out _)) | (with_reducible exact Calls.quiet_of_same (HOC.out _ (hkw.drewN _))))
    have b2 : Box (w1.drewN nq) D (w.heap.size + 1) 47 #[.int .i64 0, .int .i64 0, .slice none 0 0, .int .i64 0] := ⟨b1.heap, b1.off⟩
    have hb3 := belowDrewN hbw nq
    clear q1 q2 b0 b1 hbw hkw
    generalize w1.drewN nq = W1 at *
    have p0 : W1.cell? ⟨w.heap.size + 1, 0, none⟩ = some (.int .i64 0) := b2.cell 0
    have p1 : W1.cell? ⟨w.heap.size + 1, 1, none⟩ = some (.int .i64 0) := b2.cell 1
    have p2 : W1.cell? ⟨w.heap.size + 1, 2, none⟩ = some (.slice none 0 0) := b2.cell 2
    have p3 : W1.cell? ⟨w.heap.size + 1, 3, none⟩ = some (.int .i64 0) := b2.cell 3
    have fr := b2.frozen
    have b4 := b2.set4 (.int .i64 0) (.int .i64 0) (.slice none 0 0) (.int .i64 0)
    have hb4 : Below w.heap.size w ((((W1.setCell ⟨w.heap.size + 1, 0, none⟩ (.int .i64 0)).setCell ⟨w.heap.size + 1, 1, none⟩ (.int .i64 0)).setCell ⟨w.heap.size + 1, 2, none⟩ (.slice none 0 0)).setCell ⟨w.heap.size + 1, 3, none⟩ (.int .i64 0)) :=
      belowSet2 (by omega) (belowSet2 (by omega) (belowSet2 (by omega) (belowSet2 (by omega) hb3)))
    go_wp2_with fail
    refine bodyPost_ret (v := .tuple #[log0, .int .i64 2]) ?_ rfl ⟨rfl, hb4⟩
    clear p0 p1 p2 p3 fr hb4
    generalize (((W1.setCell ⟨w.heap.size + 1, 0, none⟩ (.int .i64 0)).setCell ⟨w.heap.size + 1, 1, none⟩ (.int .i64 0)).setCell ⟨w.heap.size + 1, 2, none⟩ (.slice none 0 0)).setCell ⟨w.heap.size + 1, 3, none⟩ (.int .i64 0) = WF at *
    have c0 : WF.cell? ⟨w.heap.size + 1, 0, none⟩ = some (.int .i64 0) := b4.cell 0
    have c1 : WF.cell? ⟨w.heap.size + 1, 1, none⟩ = some (.int .i64 0) := b4.cell 1
    have c2 : WF.cell? ⟨w.heap.size + 1, 2, none⟩ = some (.slice none 0 0) := b4.cell 2
    have c3 : WF.cell? ⟨w.heap.size + 1, 3, none⟩ = some (.int .i64 0) := b4.cell 3
    simp [results, Try.results35, go_sem, c0, c1, c2, c3, log0]
  · have g1 : decide (65536 < (nb : Int)) = true := by simp; omega
    clear hlim hl hob hnb hf0 hm1 hm2 ho
    go_wp2_with fail
    go_quiet (fail)
    have b2 : Box (w1.drewN nq) D (w.heap.size + 1) 47 #[.int .i64 0, .int .i64 0, .slice none 0 0, .int .i64 0] := ⟨b1.heap, b1.off⟩
    have hb3 := belowDrewN hbw nq
    clear q1 q2 b0 b1 hbw hkw
    generalize w1.drewN nq = W1 at *
    have p0 : W1.cell? ⟨w.heap.size + 1, 0, none⟩ = some (.int .i64 0) := b2.cell 0
    have p1 : W1.cell? ⟨w.heap.size + 1, 1, none⟩ = some (.int .i64 0) := b2.cell 1
    have p2 : W1.cell? ⟨w.heap.size + 1, 2, none⟩ = some (.slice none 0 0) := b2.cell 2
    have p3 : W1.cell? ⟨w.heap.size + 1, 3, none⟩ = some (.int .i64 0) := b2.cell 3
    have fr := b2.frozen
    have b4 := b2.set4 (.int .i64 0) (.int .i64 0) (.slice none 0 0) (.int .i64 0)
    have hb4 : Below w.heap.size w ((((W1.setCell ⟨w.heap.size + 1, 0, none⟩ (.int .i64 0)).setCell ⟨w.heap.size + 1, 1, none⟩ (.int .i64 0)).setCell ⟨w.heap.size + 1, 2, none⟩ (.slice none 0 0)).setCell ⟨w.heap.size + 1, 3, none⟩ (.int .i64 0)) :=
      belowSet2 (by omega) (belowSet2 (by omega) (belowSet2 (by omega) (belowSet2 (by omega) hb3)))
    go_wp2_with fail
    refine bodyPost_ret (v := .tuple #[log0, .int .i64 2]) ?_ rfl ⟨rfl, hb4⟩
    clear p0 p1 p2 p3 fr hb4
    generalize (((W1.setCell ⟨w.heap.size + 1, 0, none⟩ (.int .i64 0)).setCell ⟨w.heap.size + 1, 1, none⟩ (.int .i64 0)).setCell ⟨w.heap.size + 1, 2, none⟩ (.slice none 0 0)).setCell ⟨w.heap.size + 1, 3, none⟩ (.int .i64 0) = WF at *
    have c0 : WF.cell? ⟨w.heap.size + 1, 0, none⟩ = some (.int .i64 0) := b4.cell 0
    have c1 : WF.cell? ⟨w.heap.size + 1, 1, none⟩ = some (.int .i64 0) := b4.cell 1
    have c2 : WF.cell? ⟨w.heap.size + 1, 2, none⟩ = some (.slice none 0 0) := b4.cell 2
    have c3 : WF.cell? ⟨w.heap.size + 1, 3, none⟩ = some (.int .i64 0) := b4.cell 3
    simp [results, Try.results35, go_sem, c0, c1, c2, c3, log0]
set_option maxRecDepth 100000 in
set_option maxHeartbeats 20000000 in
theorem append_ok (A : Option Addr) (n c : Nat) (xs : List (List UInt8)) (f m s : Int) (Ab : Option Addr) (nb cb : Nat) (b : List UInt8) (D : Gh) (w : World) (hk : Keeps D w) (hs : SS D (.slice A n c) xs) (hb : BS D (.slice Ab nb cb) b) (hc : chkL f m xs s = 0)
    (hl : nb ≤ 65536) (hfit : (occ nb : Int) ≤ m - occs xs) :
    Calls Try.prog 35 #[.agg #[.int .i64 f, .int .i64 m, .slice A n c, .int .i64 s], .slice Ab nb cb] w fun e w' => ∃ A' c' D', e = .returned (.tuple #[.agg #[.int .i64 f, .int .i64 m, .slice A' (n + 1) c', .int .i64 s], .int .i64 0]) ∧ Grow w D w' D' ∧ SS D' (.slice A' (n + 1) c') (xs ++ [b]) := by
  have hnb : nb ≤ 1000000000000 := by omega
  obtain ⟨hf0, hm1, hm2, _, _, hs2, hx, ho⟩ := chkL_zero hc
  have hxn := hs.len.1
  have hxo := occs_ge xs
  have hn43 : n ≤ 8796093022208 := by omega
  obtain ⟨i3, hi3, hz30, hz31, hz32⟩ := info_parts info32
  obtain ⟨i5, hi5, hz50, hz51, hz52⟩ := info_parts info5
  obtain ⟨vs, hsl, hvl, hve⟩ := id hs
  have hone := SS.one hvl hve
  have HVL := Lib.hid (And.intro hvl hve)
  clear hvl hve
  have HC := Lib.hid (fun W (hW : Keeps D W) => logcheck_c A n c xs f m s D W hW hs hn43)
  rw [hc] at HC
  have HOC := Lib.hid (fun W (hW : Keeps D W) => (allocc_c A n c xs D W hW hs (fun x hx' => by have := hx x hx'; omega) (by omega)).mono (fun _ _ h => (⟨h.1, h.2.symm⟩ : _ ∧ _)))
  have HO := Lib.hid (fun W => (occ_c nb hnb W).mono (fun _ _ h => (⟨h.1, h.2.symm⟩ : _ ∧ _)))
  have hk1 := hk.alloc (.cells #[.int .i64 f, .int .i64 m, .slice A n c, .int .i64 s] 47)
  have h0 := Box.new hk 47 #[.int .i64 f, .int .i64 m, .slice A n c, .int .i64 s]
  have h1 := Box.new hk1 47 #[.int .i64 0, .int .i64 0, .slice none 0 0, .int .i64 0]
  rw [World.size_alloc] at h1
  have h0' := h0.alloc (.cells #[.int .i64 0, .int .i64 0, .slice none 0 0, .int .i64 0] 47)
  have hk2 := hk1.alloc (.cells #[.int .i64 0, .int .i64 0, .slice none 0 0, .int .i64 0] 47)
  have hb2 : Below w.heap.size w ((w.alloc (.cells #[.int .i64 f, .int .i64 m, .slice A n c, .int .i64 s] 47)).alloc (.cells #[.int .i64 0, .int .i64 0, .slice none 0 0, .int .i64 0] 47)) := (by repeat (first | (with_reducible exact Below.refl _ _) | (with_reducible refine Below.drew ?_) | (with_reducible refine belowDrewN ?_ _) | (with_reducible refine belowAlloc ?_ _) | ((with_reducible refine belowSet2 ?_ ?_); omega) | (with_reducible assumption) | (with_reducible refine belowVia (by assumption) ?_) | (with_reducible refine belowVia (Grow.below (by assumption)) ?_)))
  have hn4 : n ≤ 4096 := by omega
  have HXN := Lib.hid hxn
  clear hx hc hs2 hxn hxo
  generalize occs xs = oc at *
  have hob : occ nb ≤ 8928571429 := by unfold occ; omega
  generalize hoo : occ nb = ob at *
  clear hoo
  go_enter Try.func35, Try.ntmps35
  go_wp2_with fail
  refine (HC.out _ hk2).mono ?_
  rintro e w1 ⟨rfl, hb1⟩
  have b1 := h1.below hb1 (by simp)
  have b0 := h0'.below hb1 (by simp; omega)
  have hbw : Below w.heap.size w w1 := belowVia hb1 hb2
  have hkw := hk.below hbw (Nat.le_refl _)
  clear h0 h0' h1 hb2 hk1 hk2 hb1
  have q1 : w1.cell? ⟨w.heap.size, 1, none⟩ = some (.int .i64 m) := b0.cell 1
  have q2 : w1.cell? ⟨w.heap.size, 2, none⟩ = some (.slice A n c) := b0.cell 2
  have e1 : IntKind.i64.wrap (m - (oc : Int)) = m - oc := by rw [IntKind.wrap_i64]; omega
  have q0 : w1.cell? ⟨w.heap.size, 0, none⟩ = some (.int .i64 f) := b0.cell 0
  have g1 : decide (65536 < (nb : Int)) = false := by simp; omega
  have g2 : decide (m - (oc : Int) < (ob : Int)) = false := by simp; omega
  clear hfit hob hnb hf0 hm1 hm2 ho
  go_wp2_with fail
  go_quiet (first | (with_reducible exact Calls.quiet_of_same (HO.out _)) | (with_reducible exact Calls.quiet_of_same (HOC.out _ (hkw.drewN _))))
  have b2 : Box (w1.drewN nq) D (w.heap.size + 1) 47 #[.int .i64 0, .int .i64 0, .slice none 0 0, .int .i64 0] := ⟨b1.heap, b1.off⟩
  have b3 : Box (w1.drewN nq) D w.heap.size 47 #[.int .i64 f, .int .i64 m, .slice A n c, .int .i64 s] := ⟨b0.heap, b0.off⟩
  have hb3 := belowDrewN hbw nq
  have hk3 := hkw.drewN nq
  clear q0 q1 q2 b0 b1 hbw hkw
  generalize w1.drewN nq = W1 at *
  have q0 : W1.cell? ⟨w.heap.size, 0, none⟩ = some (.int .i64 f) := b3.cell 0
  have q1 : W1.cell? ⟨w.heap.size, 1, none⟩ = some (.int .i64 m) := b3.cell 1
  have q2 : W1.cell? ⟨w.heap.size, 2, none⟩ = some (.slice A n c) := b3.cell 2
  have q3 : W1.cell? ⟨w.heap.size, 3, none⟩ = some (.int .i64 s) := b3.cell 3
  have p0 : W1.cell? ⟨w.heap.size + 1, 0, none⟩ = some (.int .i64 0) := b2.cell 0
  have p1 : W1.cell? ⟨w.heap.size + 1, 1, none⟩ = some (.int .i64 0) := b2.cell 1
  have p2 : W1.cell? ⟨w.heap.size + 1, 2, none⟩ = some (.slice none 0 0) := b2.cell 2
  have p3 : W1.cell? ⟨w.heap.size + 1, 3, none⟩ = some (.int .i64 0) := b2.cell 3
  have fr := b2.frozen
  have b4 := b2.set4 (.int .i64 f) (.int .i64 m) (.slice A n c) (.int .i64 s)
  have b5 := ((((b3.far (p := ⟨w.heap.size + 1, 0, none⟩) (by simp) (.int .i64 f)).far (p := ⟨w.heap.size + 1, 1, none⟩) (by simp) (.int .i64 m)).far (p := ⟨w.heap.size + 1, 2, none⟩) (by simp) (.slice A n c)).far (p := ⟨w.heap.size + 1, 3, none⟩) (by simp) (.int .i64 s))
  have hg4 : Grow w D ((((W1.setCell ⟨w.heap.size + 1, 0, none⟩ (.int .i64 f)).setCell ⟨w.heap.size + 1, 1, none⟩ (.int .i64 m)).setCell ⟨w.heap.size + 1, 2, none⟩ (.slice A n c)).setCell ⟨w.heap.size + 1, 3, none⟩ (.int .i64 s)) D := Grow.set4 (Grow.of_below hk hb3) (by omega) b2.off _ _ _ _
  go_wp2_with ((with_reducible show wpList _ _ _ ((⟨some 30, _, _, _, _, _⟩ : Oper) :: _) _ _); refine stopL ?_)
  refine Stop.out ?_
  clear p0 p1 p2 p3 fr b2 b3 hb3 hk3 q0 q1 q2 q3
  generalize (((W1.setCell ⟨w.heap.size + 1, 0, none⟩ (.int .i64 f)).setCell ⟨w.heap.size + 1, 1, none⟩ (.int .i64 m)).setCell ⟨w.heap.size + 1, 2, none⟩ (.slice A n c)).setCell ⟨w.heap.size + 1, 3, none⟩ (.int .i64 s) = W4 at *
  have hmk : (Instr.makeSlice 24 (.int .i64 0) (.int .i64 ((n : Int) + 1))).run Try.prog W4 = .ok (.slice (some ⟨W4.heap.size, 0, none⟩) 0 (n + 1)) (W4.alloc (.cells (madeCells #[.slice none 0 0] (n + 1)) 32)) := by
    have := run_make (P := Try.prog) W4 24 32 i3 (.slice none 0 0) Try.underlying24 hi3 hz30 .i64 .i64 0 ((n : Int) + 1) (by omega) (by omega) (by rw [hz32]; omega) (by omega)
    have e1 : ((n : Int) + 1).toNat = n + 1 := by omega
    rw [this, e1, hz31, Nat.mul_one]
    rfl
  have q2 : W4.cell? ⟨w.heap.size, 2, none⟩ = some (.slice A n c) := b5.cell 2
  have hlt4 := b4.lt
  have b4'' := (b4.set_ 2 (.slice (some ⟨W4.heap.size, 0, none⟩) 0 (n + 1))).alloc (.cells (madeCells #[.slice none 0 0] (n + 1)) 32)
  have b5' := (b5.far (p := ⟨w.heap.size + 1, 2, none⟩) (by simp) (.slice (some ⟨W4.heap.size, 0, none⟩) 0 (n + 1))).alloc (.cells (madeCells #[.slice none 0 0] (n + 1)) 32)
  have hsz : (W4.setCell ⟨w.heap.size + 1, 2, none⟩ (.slice (some ⟨W4.heap.size, 0, none⟩) 0 (n + 1))).heap.size = W4.heap.size := by simp
  have hown4 := World.ownsRow_made (W4.setCell ⟨w.heap.size + 1, 2, none⟩ (.slice (some ⟨W4.heap.size, 0, none⟩) 0 (n + 1))) (base := w.heap.size + 1 + 1) (e := 32) (size := 1) (madeCells #[.slice none 0 0] (n + 1)) (n + 1) (by rw [hsz]; omega) (by unfold maxLen; omega) (by rw [size_madeCells]; omega)
  rw [hsz] at hown4
  have hg5 := (Grow.setNew hg4 (p := ⟨w.heap.size + 1, 2, none⟩) (by simp) b4.off (.slice (some ⟨W4.heap.size, 0, none⟩) 0 (n + 1))).alloc (.cells (madeCells #[.slice none 0 0] (n + 1)) 32)
  have q4 : (W4.alloc (.cells (madeCells #[.slice none 0 0] (n + 1)) 32)).cell? ⟨w.heap.size + 1, 2, none⟩ = some (.slice A n c) := (b4.alloc _).cell 2
  have f4 : (W4.alloc (.cells (madeCells #[.slice none 0 0] (n + 1)) 32)).frozen? ⟨w.heap.size + 1, 2, none⟩ = false := (b4.alloc _).frozen 2
  have q4' : W4.cell? ⟨w.heap.size + 1, 2, none⟩ = some (.slice A n c) := b4.cell 2
  have f4' : W4.frozen? ⟨w.heap.size + 1, 2, none⟩ = false := b4.frozen 2
  have hoff4 : D.off W4.heap.size := hg4.keeps.offNew (Nat.le_refl _)
  go_wp2_with ((with_reducible show wpList _ _ _ ((⟨some 36, _, _, _, _, _⟩ : Oper) :: _) _ _); refine stopL ?_)
  refine Stop.out ?_
  clear q4 f4 q4' f4' q2 hmk hg4 b4 b5
  generalize hgR : W4.heap.size = gR at *
  generalize (W4.setCell ⟨w.heap.size + 1, 2, none⟩ (.slice (some ⟨gR, 0, none⟩) 0 (n + 1))).alloc (.cells (madeCells #[.slice none 0 0] (n + 1)) 32) = W5 at *
  have q5 : W5.cell? ⟨w.heap.size, 2, none⟩ = some (.slice A n c) := b5'.cell 2
  have q6 : W5.cell? ⟨w.heap.size + 1, 2, none⟩ = some (.slice (some ⟨gR, 0, none⟩) 0 (n + 1)) := b4''.cell 2
  go_wp2_with (at_builtin; refine wpList_append_sl (o := ⟨some 40, _, _, _, _, _⟩) _ rfl _ _ 24 rfl (w.heap.size + 1 + 1) 32 i3 _ 24 Try.underlying24 hi3 hz30 hz31 hz32 rfl _ 0 [] rfl hown4 D hg5.keeps A n c vs rfl hsl hone ?c1 ?c2 ?c3 ?_)
  case c1 => unfold maxLen; omega
  case c2 => omega
  case c3 => exact Nat.le_trans (by omega) b4''.lt
  intro A6 c6 W6 hown6 hgr6 hat6
  have hgw : w.heap.size + 1 + 1 ≤ gR := by omega
  have b6 := b4''.grown hgr6 (by simp [Value.ownBlock]; omega)
  have hg6 : Grow w D W6 D := Grow.row hg5 hgr6 (fun g e => by simp [Value.ownBlock] at e; omega) (fun g e => by simp [Value.ownBlock] at e; subst e; exact hoff4)
  have ho6 := off_append hg5.keeps (fun g e => by simp [Value.ownBlock] at e; subst e; exact hoff4) hat6
  have q7 : W6.cell? ⟨w.heap.size + 1, 2, none⟩ = some (.slice (some ⟨gR, 0, none⟩) 0 (n + 1)) := b6.cell 2
  have f7 : W6.frozen? ⟨w.heap.size + 1, 2, none⟩ = false := b6.frozen 2
  clear q5 q6
  go_wp2_with fail
  have b7 := b6.set_ 2 (.slice A6 n c6)
  have hne6 : Value.ownBlock (.slice A6 n c6) ≠ some (w.heap.size + 1) := fun e => by have := (hown6.lt _ e).1; omega
  have hown7 := own_far2 (o := 2) (u := .slice A6 n c6) hne6 hown6
  have hg7 := Grow.setNew hg6 (p := ⟨w.heap.size + 1, 2, none⟩) (by simp) b6.off (.slice A6 n c6)
  clear q7 f7 b6 hg6 hown6 hgr6 hat6 b4'' b5' hg5 hown4 hsz
  generalize W6.setCell ⟨w.heap.size + 1, 2, none⟩ (.slice A6 n c6) = W7 at *
  replace b7 : Box W7 D (w.heap.size + 1) 47 #[.int .i64 f, .int .i64 m, .slice A6 n c6, .int .i64 s] := b7
  have q2 : W7.cell? ⟨w.heap.size + 1, 2, none⟩ = some (.slice A6 n c6) := b7.cell 2
  have f2 : W7.frozen? ⟨w.heap.size + 1, 2, none⟩ = false := b7.frozen 2
  have SH : Hid (∀ W, Box W D (w.heap.size + 1) 47 #[.int .i64 f, .int .i64 m, .slice A6 n c6, .int .i64 s] → (W.cell? ⟨w.heap.size + 1, 2, none⟩ = some (.slice A6 n c6) ∧ W.frozen? ⟨w.heap.size + 1, 2, none⟩ = false)) := fun W h => h.held rfl
  have hk7 := hg7.keeps
  have hlt7 := b7.lt
  go_region_law (first
    | ((with_reducible show (if Region.wanted (⟨some 48, _, _, _, _, _⟩ : Oper) _ = true then _ else _)); refine step_append_one (by rfl) _ _ _ (by rfl) (w.heap.size + 1 + 1) 32 i3 _ 24 Try.underlying24 hi3 hz30 hz31 hz32 rfl (.slice A6 n c6) n vs (by rfl) (by exact own8.alloc _) W8.heap.size (.slice A8 nb c8) (by rfl) (by exact heap_alloc_new W8 _) rfl (by unfold maxLen; omega) (by omega) (by have h := b8.lt; rw [World.size_alloc]; omega) ?_; intro A9 c9 W9 hown9 hgr9 hat9; have b9 : Box W9 D (w.heap.size + 1) 47 #[.int .i64 f, .int .i64 m, .slice A6 n c6, .int .i64 s] := Box.grown (b8.alloc _) hgr9 (fun e => hne6 e.symm); have q9 := (SH.out _ b9).1; have f9 := (SH.out _ b9).2)
    | ((with_reducible show (if Region.wanted (⟨some 46, _, _, _, _, _⟩ : Oper) _ = true then _ else _)); refine step_append_sl _ (by rfl) _ _ _ (by rfl) W7.heap.size 5 i5 _ 1 Try.underlying32 hi5 hz50 hz51 hz52 rfl _ 0 [] (by rfl) (by exact own_empty (by omega) (heap_alloc_new _ _)) D (by exact (by repeat (with_reducible first | assumption | refine Keeps.drew ?_ | refine Keeps.drewN ?_ _ | refine Keeps.alloc ?_ _ | exact Grow.keeps (by assumption)))) Ab nb cb _ (by rfl) hb (bv_one _) (by unfold maxLen; omega) (by omega) (by first | omega | (simp; done) | (simp; omega)) ?_; intro A8 c8 W8 hown8 hgr8 hat8; have b8 : Box W8 D (w.heap.size + 1) 47 #[.int .i64 f, .int .i64 m, .slice A6 n c6, .int .i64 s] := Box.grown (by (repeat (with_reducible first | assumption | refine Box.drew ?_ | refine Box.alloc ?_ _)); done) hgr8 (fun e => by have h : w.heap.size + 1 = W7.heap.size := Option.some.inj e; omega); have q8 := (SH.out _ b8).1; have f8 := (SH.out _ b8).2; have hlt8 := b8.lt; have own8 : W8.ownsRow (w.heap.size + 1 + 1) 32 1 (.slice A6 n c6) n vs := World.ownsRow.kept (by (repeat (first | (with_reducible assumption) | (with_reducible refine World.ownsRow.drew ?_) | (with_reducible refine World.ownsRow.alloc ?_ _) | ((with_reducible refine own_far2 ?_ ?_); (with_reducible assumption))))) hgr8 (.inr (fun e => Nat.lt_irrefl _ (hown7.lt _ e).2))))
  all_goals
    simp only [Nat.zero_add, List.nil_append] at hown8 hat8
    have hne9 : Value.ownBlock (.slice A9 (n + 1) c9) ≠ some (w.heap.size + 1) := fun e => by have := (hown9.lt _ e).1; omega
    have hg8 : Grow w D W8 D := Grow.row (by repeat (with_reducible first | assumption | exact Grow.refl (by assumption) | refine Grow.drew ?_ | refine Grow.drewN ?_ _ | refine Grow.alloc ?_ _ | refine Grow.trans ?_ (by assumption))) hgr8 (fun g e => by have h : W7.heap.size = g := Option.some.inj e; omega) (fun g e => by have h : W7.heap.size = g := Option.some.inj e; subst h; exact hk7.offNew (Nat.le_refl _))
    have ho8 : ∀ g, Value.ownBlock (.slice A8 nb c8) = some g → D.off g := fun g e => hk7.offNew (hown8.lt g e).1
    obtain ⟨D8, hg8', hle8, hsl8, hof8⟩ := hg8.pub hown8 (by omega) ho8
    have hfar : ∀ g, Value.ownBlock (.slice A6 n c6) = some g → Value.ownBlock (.slice A8 nb c8) ≠ some g := fun g e e' => by have h1 := (hown7.lt g e).2; have h2 := (hown8.lt g e').1; omega
    have hoD : ∀ g, Value.ownBlock (.slice A6 n c6) = some g → D8.off g := fun g e => hof8 g (ho6 g e) (hfar g e)
    have hoB : D8.off (w.heap.size + 1) := hof8 _ b8.off (fun e => by have := (hown8.lt _ e).1; omega)
    have hg9 : Grow w D W9 D8 := Grow.row (hg8'.alloc _) hgr9 (fun g e => by have := (hown7.lt g e).1; omega) hoD
    have ho9 := off_append (w := W8.alloc (.cells #[.slice A8 nb c8] 32)) (hg8'.keeps.alloc _) hoD (by first | exact hat9 | (rw [World.size_alloc]; exact hat9))
    have hg10 := Grow.setNew hg9 (p := ⟨w.heap.size + 1, 2, none⟩) (by simp) hoB (.slice A9 (n + 1) c9)
    have own10 := own_far2 (o := 2) (u := .slice A9 (n + 1) c9) hne9 hown9
    have b10 := b9.set_ 2 (.slice A9 (n + 1) c9)
    replace b10 : Box (W9.setCell ⟨w.heap.size + 1, 2, none⟩ (.slice A9 (n + 1) c9)) D (w.heap.size + 1) 47 #[.int .i64 f, .int .i64 m, .slice A9 (n + 1) c9, .int .i64 s] := b10
    obtain ⟨D10, hg11, hle11, hsl11, hof11⟩ := hg10.pub own10 (by omega) ho9
    have hoB10 := hof11 _ hoB hne9
    have HSS := Lib.hid (show SS D10 (.slice A9 (n + 1) c9) (xs ++ [b]) from ⟨vs ++ [.slice A8 nb c8], hsl11, by simp [HVL.out.1], ss_snoc HVL.out.1 HVL.out.2 (hle8.trans hle11) (Sl.le hsl8 hle11)⟩)
    clear hg10 own10 b9 q9 f9 hown9 hgr9 hat9 hg9 ho9 hoD hsl11 hof11 b8 q8 f8 hown8 hgr8 hat8 own8 hsl8 hof8 hg8 hg8' ho8 b7 q2 f2 SH
    generalize W9.setCell ⟨w.heap.size + 1, 2, none⟩ (.slice A9 (n + 1) c9) = W10 at *
    have p0 : W10.cell? ⟨w.heap.size + 1, 0, none⟩ = some (.int .i64 f) := b10.cell 0
    have p1 : W10.cell? ⟨w.heap.size + 1, 1, none⟩ = some (.int .i64 m) := b10.cell 1
    have p2 : W10.cell? ⟨w.heap.size + 1, 2, none⟩ = some (.slice A9 (n + 1) c9) := b10.cell 2
    have p3 : W10.cell? ⟨w.heap.size + 1, 3, none⟩ = some (.int .i64 s) := b10.cell 3
    have fr := b10.frozen
    have b11 := b10.set4 (.int .i64 f) (.int .i64 m) (.slice A9 (n + 1) c9) (.int .i64 s)
    have hg12 := Grow.set4 hg11 (g := w.heap.size + 1) (by omega) hoB10 (.int .i64 f) (.int .i64 m) (.slice A9 (n + 1) c9) (.int .i64 s)
    go_wp2_with fail
    refine bodyPost_ret (v := .tuple #[.agg #[.int .i64 f, .int .i64 m, .slice A9 (n + 1) c9, .int .i64 s], .int .i64 0]) ?_ rfl ⟨A9, c9, D10, rfl, hg12, HSS.out⟩
    clear p0 p1 p2 p3 fr hg12
    generalize (((W10.setCell ⟨w.heap.size + 1, 0, none⟩ (.int .i64 f)).setCell ⟨w.heap.size + 1, 1, none⟩ (.int .i64 m)).setCell ⟨w.heap.size + 1, 2, none⟩ (.slice A9 (n + 1) c9)).setCell ⟨w.heap.size + 1, 3, none⟩ (.int .i64 s) = WF at *
    have c0 : WF.cell? ⟨w.heap.size + 1, 0, none⟩ = some (.int .i64 f) := b11.cell 0
    have c1 : WF.cell? ⟨w.heap.size + 1, 1, none⟩ = some (.int .i64 m) := b11.cell 1
    have c2 : WF.cell? ⟨w.heap.size + 1, 2, none⟩ = some (.slice A9 (n + 1) c9) := b11.cell 2
    have c3 : WF.cell? ⟨w.heap.size + 1, 3, none⟩ = some (.int .i64 s) := b11.cell 3
    simp [results, Try.results35, go_sem, c0, c1, c2, c3]
end Go.Proofs.Ytegkmkglagmdiaa
