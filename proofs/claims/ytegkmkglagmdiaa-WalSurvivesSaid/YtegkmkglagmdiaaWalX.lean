/-
  What is proved here: the specification's Append computes what the log's own does
-/
import Derived.Test.YtegkmkglagmdiaaRows
import Derived.Test.YtegkmkglagmdiaaBaseB
import Derived.Test.YtegkmkglagmdiaaCrc
import Derived.Test.YtegkmkglagmdiaaWalP
import Derived.Test.YtegkmkglagmdiaaWalA
import Derived.Test.YtegkmkglagmdiaaWalB
import Derived.Test.YtegkmkglagmdiaaWalC
import Derived.Test.YtegkmkglagmdiaaWalD
import Derived.Test.YtegkmkglagmdiaaWalE
import Derived.Test.YtegkmkglagmdiaaDiskF
import Derived.Test.YtegkmkglagmdiaaDiskH
import Derived.Test.YtegkmkglagmdiaaWalF
import Derived.Test.YtegkmkglagmdiaaRangeF
import Derived.Test.YtegkmkglagmdiaaWalG
import Derived.Test.YtegkmkglagmdiaaWalH
import Derived.Test.YtegkmkglagmdiaaWalI
import Derived.Test.YtegkmkglagmdiaaWalJ
import Derived.Test.YtegkmkglagmdiaaWalK
import Derived.Test.YtegkmkglagmdiaaWalL
import Derived.Test.YtegkmkglagmdiaaWalS
import Derived.Test.YtegkmkglagmdiaaWalT
import Derived.Test.YtegkmkglagmdiaaWalU
import Derived.Test.YtegkmkglagmdiaaWalV
import Derived.Test.YtegkmkglagmdiaaWalW
import Derived.Test.YtegkmkglagmdiaaDiskI
import Derived.OwnWalkIn
import Derived.TacticsInMore
import Derived.LoopNIn
import Derived.LoopIn
import Derived.Scope
import Derived.StillTailTactics
import Derived.Shelf.Abstract
import Derived.RangeFuncCalls
import Derived.Laws.BitsAllLaws
import Derived.Deep.RegionHeld3
import Derived.Deep.RegionLaw
import Derived.Deep.DeepCutAuto
import Derived.Deep.QuietTactic
import Derived.BigQuiet
import Derived.Laws.EntriesVeiled
import Derived.Deep.MidRow
import Derived.Laws.CopyRow
namespace Go.Proofs.Ytegkmkglagmdiaa
open Go.RowKit Go.VS
theorem rsec_ok (n : Nat) (hn : n ≤ 1000000000000) (w : World) : Calls Try.prog 55 #[.int .i64 n] w fun e w' => e = .returned (.int .i64 (occ n : Nat)) ∧ w = w' := by
  rw [← secW_ok hn]
  exact rsec_c n w
theorem rused_ok (A : Option Addr) (n c : Nat) (xs : List (List UInt8)) (D : Gh) (w : World) (hk : Keeps D w) (hs : SS D (.slice A n c) xs) (hl : ∀ x ∈ xs, x.length ≤ 1000000000000) (ho : occs xs ≤ 10000000000000000) :
    Calls Try.prog 56 #[.slice A n c] w fun e w' => e = .returned (.int .i64 (occs xs : Nat)) ∧ w = w' := by
  rw [← usedW_ok hl (by omega)]
  exact rused_c A n c xs D w hk hs
set_option maxRecDepth 100000 in
set_option maxHeartbeats 20000000 in
theorem rappend_bad (A : Option Addr) (n c : Nat) (xs : List (List UInt8)) (f m s : Int) (V : Value) (D : Gh) (w : World) (hk : Keeps D w) (hs : SS D (.slice A n c) xs) (hn43 : n ≤ 8796093022208) (hc : chkL f m xs s = 1) (hV : ∃ Ab nb cb, V = .slice Ab nb cb) :
    Calls Try.prog 36 #[.agg #[.int .i64 f, .int .i64 m, .slice A n c, .int .i64 s], V] w fun e w' => e = .returned (.tuple #[log0, .int .i64 1]) ∧ Below w.heap.size w w' := by
  obtain ⟨Ab, nb, cb, rfl⟩ := hV
  have HC := Lib.hid (fun W (hW : Keeps D W) => rcheck_c A n c xs f m s D W hW hs hn43)
  rw [hc] at HC
  have hk1 := hk.alloc (.cells #[.int .i64 f, .int .i64 m, .slice A n c, .int .i64 s] 47)
  have h1 := Box.new hk1 47 #[.int .i64 0, .int .i64 0, .slice none 0 0, .int .i64 0]
  rw [World.size_alloc] at h1
  have hk2 := hk1.alloc (.cells #[.int .i64 0, .int .i64 0, .slice none 0 0, .int .i64 0] 47)
  have hb2 : Below w.heap.size w ((w.alloc (.cells #[.int .i64 f, .int .i64 m, .slice A n c, .int .i64 s] 47)).alloc (.cells #[.int .i64 0, .int .i64 0, .slice none 0 0, .int .i64 0] 47)) := (by repeat (first | (with_reducible exact Below.refl _ _) | (with_reducible refine Below.drew ?_) | (with_reducible refine belowDrewN ?_ _) | (with_reducible refine belowAlloc ?_ _) | ((with_reducible refine belowSet2 ?_ ?_); omega) | (with_reducible assumption) | (with_reducible refine belowVia (by assumption) ?_) | (with_reducible refine belowVia (Grow.below (by assumption)) ?_)))
  go_enter Try.func36, Try.ntmps36
  go_wp2_with fail
  refine (HC.out _ hk2).mono ?_
  rintro e w1 ⟨rfl, hb1⟩
  have b1 := h1.below hb1 (by simp)
  have hbw : Below w.heap.size w w1 := belowVia hb1 hb2
  clear h1 hb2 hk1 hk2 hb1
  have p0 : w1.cell? ⟨w.heap.size + 1, 0, none⟩ = some (.int .i64 0) := b1.cell 0
  have p1 : w1.cell? ⟨w.heap.size + 1, 1, none⟩ = some (.int .i64 0) := b1.cell 1
  have p2 : w1.cell? ⟨w.heap.size + 1, 2, none⟩ = some (.slice none 0 0) := b1.cell 2
  have p3 : w1.cell? ⟨w.heap.size + 1, 3, none⟩ = some (.int .i64 0) := b1.cell 3
  have fr := b1.frozen
  have b4 := b1.set4 (.int .i64 0) (.int .i64 0) (.slice none 0 0) (.int .i64 0)
  have hb4 : Below w.heap.size w ((((w1.setCell ⟨w.heap.size + 1, 0, none⟩ (.int .i64 0)).setCell ⟨w.heap.size + 1, 1, none⟩ (.int .i64 0)).setCell ⟨w.heap.size + 1, 2, none⟩ (.slice none 0 0)).setCell ⟨w.heap.size + 1, 3, none⟩ (.int .i64 0)) :=
    belowSet2 (by omega) (belowSet2 (by omega) (belowSet2 (by omega) (belowSet2 (by omega) hbw)))
  go_wp2_with fail
  refine bodyPost_ret (v := .tuple #[log0, .int .i64 1]) ?_ rfl ⟨rfl, hb4⟩
  clear p0 p1 p2 p3 fr hb4
  generalize (((w1.setCell ⟨w.heap.size + 1, 0, none⟩ (.int .i64 0)).setCell ⟨w.heap.size + 1, 1, none⟩ (.int .i64 0)).setCell ⟨w.heap.size + 1, 2, none⟩ (.slice none 0 0)).setCell ⟨w.heap.size + 1, 3, none⟩ (.int .i64 0) = WF at *
  have c0 : WF.cell? ⟨w.heap.size + 1, 0, none⟩ = some (.int .i64 0) := b4.cell 0
  have c1 : WF.cell? ⟨w.heap.size + 1, 1, none⟩ = some (.int .i64 0) := b4.cell 1
  have c2 : WF.cell? ⟨w.heap.size + 1, 2, none⟩ = some (.slice none 0 0) := b4.cell 2
  have c3 : WF.cell? ⟨w.heap.size + 1, 3, none⟩ = some (.int .i64 0) := b4.cell 3
  simp [results, Try.results36, go_sem, c0, c1, c2, c3, log0]
set_option maxRecDepth 100000 in
set_option maxHeartbeats 20000000 in
theorem rappend_lim (A : Option Addr) (n c : Nat) (xs : List (List UInt8)) (f m s : Int) (Ab : Option Addr) (nb cb : Nat) (D : Gh) (w : World) (hk : Keeps D w) (hs : SS D (.slice A n c) xs) (hc : chkL f m xs s = 0)
    (hlim : ¬ (nb ≤ 65536 ∧ (occ nb : Int) ≤ m - occs xs)) (hnb : nb ≤ 1000000000000) :
    Calls Try.prog 36 #[.agg #[.int .i64 f, .int .i64 m, .slice A n c, .int .i64 s], .slice Ab nb cb] w fun e w' => e = .returned (.tuple #[log0, .int .i64 2]) ∧ Below w.heap.size w w' := by
  obtain ⟨hf0, hm1, hm2, _, _, hs2, hx, ho⟩ := chkL_zero hc
  have hxn := hs.len.1
  have hxo := occs_ge xs
  have hn43 : n ≤ 8796093022208 := by omega
  have HC := Lib.hid (fun W (hW : Keeps D W) => rcheck_c A n c xs f m s D W hW hs hn43)
  rw [hc] at HC
  have HOC := Lib.hid (fun W (hW : Keeps D W) => (rused_ok A n c xs D W hW hs (fun x hx' => by have := hx x hx'; omega) (by omega)).mono (fun _ _ h => (⟨h.1, h.2.symm⟩ : _ ∧ _)))
  have HO := Lib.hid (fun W => (rsec_ok nb hnb W).mono (fun _ _ h => (⟨h.1, h.2.symm⟩ : _ ∧ _)))
  have hk1 := hk.alloc (.cells #[.int .i64 f, .int .i64 m, .slice A n c, .int .i64 s] 47)
  have h0 := Box.new hk 47 #[.int .i64 f, .int .i64 m, .slice A n c, .int .i64 s]
  have h1 := Box.new hk1 47 #[.int .i64 0, .int .i64 0, .slice none 0 0, .int .i64 0]
  rw [World.size_alloc] at h1
  have h0' := h0.alloc (.cells #[.int .i64 0, .int .i64 0, .slice none 0 0, .int .i64 0] 47)
  have hk2 := hk1.alloc (.cells #[.int .i64 0, .int .i64 0, .slice none 0 0, .int .i64 0] 47)
  have hb2 : Below w.heap.size w ((w.alloc (.cells #[.int .i64 f, .int .i64 m, .slice A n c, .int .i64 s] 47)).alloc (.cells #[.int .i64 0, .int .i64 0, .slice none 0 0, .int .i64 0] 47)) := (by repeat (first | (with_reducible exact Below.refl _ _) | (with_reducible refine Below.drew ?_) | (with_reducible refine belowDrewN ?_ _) | (with_reducible refine belowAlloc ?_ _) | ((with_reducible refine belowSet2 ?_ ?_); omega) | (with_reducible assumption) | (with_reducible refine belowVia (by assumption) ?_) | (with_reducible refine belowVia (Grow.below (by assumption)) ?_)))
  clear hx hc hs2 hxn hxo
  generalize occs xs = oc at *
  have hob : occ nb ≤ 8928571429 := by unfold occ; omega
  generalize hoo : occ nb = ob at *
  clear hoo
  go_enter Try.func36, Try.ntmps36
  go_wp2_with fail
  refine (HC.out _ hk2).mono ?_
  rintro e w1 ⟨rfl, hb1⟩
  have b1 := h1.below hb1 (by simp)
  have b0 := h0'.below hb1 (by simp; omega)
  have hbw : Below w.heap.size w w1 := belowVia hb1 hb2
  have hkw := hk.below hbw (Nat.le_refl _)
  clear h0 h0' h1 hb2 hk1 hk2 hb1
  have q1 : w1.cell? ⟨w.heap.size, 1, none⟩ = some (.int .i64 m) := b0.cell 1
  have q2 : w1.cell? ⟨w.heap.size, 2, none⟩ = some (.slice A n c) := b0.cell 2
  have e1 : IntKind.i64.wrap (m - (oc : Int)) = m - oc := by rw [IntKind.wrap_i64]; omega
  by_cases hl : nb ≤ 65536
  · have g1 : decide (65536 < (nb : Int)) = false := by simp; omega
    have g2 : decide (m - (oc : Int) < (ob : Int)) = true := by simp; omega
    clear hlim hl hob hnb hf0 hm1 hm2 ho
    go_wp2_with fail
    go_quiet (first | (with_reducible exact Calls.quiet_of_same (HO.out _)) | (with_reducible exact Calls.quiet_of_same (HOC.out _ (hkw.drewN _))))
    have b2 : Box (w1.drewN nq) D (w.heap.size + 1) 47 #[.int .i64 0, .int .i64 0, .slice none 0 0, .int .i64 0] := ⟨b1.heap, b1.off⟩
    have hb3 := belowDrewN hbw nq
    clear q1 q2 b0 b1 hbw hkw
    generalize w1.drewN nq = W1 at *
    have p0 : W1.cell? ⟨w.heap.size + 1, 0, none⟩ = some (.int .i64 0) := b2.cell 0
    have p1 : W1.cell? ⟨w.heap.size + 1, 1, none⟩ = some (.int .i64 0) := b2.cell 1
    have p2 : W1.cell? ⟨w.heap.size + 1, 2, none⟩ = some (.slice none 0 0) := b2.cell 2
    have p3 : W1.cell? ⟨w.heap.size + 1, 3, none⟩ = some (.int .i64 0) := b2.cell 3
    have fr := b2.frozen
    have b4 := b2.set4 (.int .i64 0) (.int .i64 0) (.slice none 0 0) (.int .i64 0)
    have hb4 : Below w.heap.size w ((((W1.setCell ⟨w.heap.size + 1, 0, none⟩ (.int .i64 0)).setCell ⟨w.heap.size + 1, 1, none⟩ (.int .i64 0)).setCell ⟨w.heap.size + 1, 2, none⟩ (.slice none 0 0)).setCell ⟨w.heap.size + 1, 3, none⟩ (.int .i64 0)) :=
      belowSet2 (by omega) (belowSet2 (by omega) (belowSet2 (by omega) (belowSet2 (by omega) hb3)))
    go_wp2_with fail
    refine bodyPost_ret (v := .tuple #[log0, .int .i64 2]) ?_ rfl ⟨rfl, hb4⟩
    clear p0 p1 p2 p3 fr hb4
    generalize (((W1.setCell ⟨w.heap.size + 1, 0, none⟩ (.int .i64 0)).setCell ⟨w.heap.size + 1, 1, none⟩ (.int .i64 0)).setCell ⟨w.heap.size + 1, 2, none⟩ (.slice none 0 0)).setCell ⟨w.heap.size + 1, 3, none⟩ (.int .i64 0) = WF at *
    have c0 : WF.cell? ⟨w.heap.size + 1, 0, none⟩ = some (.int .i64 0) := b4.cell 0
    have c1 : WF.cell? ⟨w.heap.size + 1, 1, none⟩ = some (.int .i64 0) := b4.cell 1
    have c2 : WF.cell? ⟨w.heap.size + 1, 2, none⟩ = some (.slice none 0 0) := b4.cell 2
    have c3 : WF.cell? ⟨w.heap.size + 1, 3, none⟩ = some (.int .i64 0) := b4.cell 3
    simp [results, Try.results36, go_sem, c0, c1, c2, c3, log0]
  · have g1 : decide (65536 < (nb : Int)) = true := by simp; omega
    clear hlim hl hob hnb hf0 hm1 hm2 ho
    go_wp2_with fail
    go_quiet (fail)
    have b2 : Box (w1.drewN nq) D (w.heap.size + 1) 47 #[.int .i64 0, .int .i64 0, .slice none 0 0, .int .i64 0] := ⟨b1.heap, b1.off⟩
    have hb3 := belowDrewN hbw nq
    clear q1 q2 b0 b1 hbw hkw
    generalize w1.drewN nq = W1 at *
    have p0 : W1.cell? ⟨w.heap.size + 1, 0, none⟩ = some (.int .i64 0) := b2.cell 0
    have p1 : W1.cell? ⟨w.heap.size + 1, 1, none⟩ = some (.int .i64 0) := b2.cell 1
    have p2 : W1.cell? ⟨w.heap.size + 1, 2, none⟩ = some (.slice none 0 0) := b2.cell 2
    have p3 : W1.cell? ⟨w.heap.size + 1, 3, none⟩ = some (.int .i64 0) := b2.cell 3
    have fr := b2.frozen
    have b4 := b2.set4 (.int .i64 0) (.int .i64 0) (.slice none 0 0) (.int .i64 0)
    have hb4 : Below w.heap.size w ((((W1.setCell ⟨w.heap.size + 1, 0, none⟩ (.int .i64 0)).setCell ⟨w.heap.size + 1, 1, none⟩ (.int .i64 0)).setCell ⟨w.heap.size + 1, 2, none⟩ (.slice none 0 0)).setCell ⟨w.heap.size + 1, 3, none⟩ (.int .i64 0)) :=
      belowSet2 (by omega) (belowSet2 (by omega) (belowSet2 (by omega) (belowSet2 (by omega) hb3)))
    go_wp2_with fail
    refine bodyPost_ret (v := .tuple #[log0, .int .i64 2]) ?_ rfl ⟨rfl, hb4⟩
    clear p0 p1 p2 p3 fr hb4
    generalize (((W1.setCell ⟨w.heap.size + 1, 0, none⟩ (.int .i64 0)).setCell ⟨w.heap.size + 1, 1, none⟩ (.int .i64 0)).setCell ⟨w.heap.size + 1, 2, none⟩ (.slice none 0 0)).setCell ⟨w.heap.size + 1, 3, none⟩ (.int .i64 0) = WF at *
    have c0 : WF.cell? ⟨w.heap.size + 1, 0, none⟩ = some (.int .i64 0) := b4.cell 0
    have c1 : WF.cell? ⟨w.heap.size + 1, 1, none⟩ = some (.int .i64 0) := b4.cell 1
    have c2 : WF.cell? ⟨w.heap.size + 1, 2, none⟩ = some (.slice none 0 0) := b4.cell 2
    have c3 : WF.cell? ⟨w.heap.size + 1, 3, none⟩ = some (.int .i64 0) := b4.cell 3
    simp [results, Try.results36, go_sem, c0, c1, c2, c3, log0]
set_option maxRecDepth 100000 in
set_option maxHeartbeats 20000000 in
theorem rappend_ok (A : Option Addr) (n c : Nat) (xs : List (List UInt8)) (f m s : Int) (Ab : Option Addr) (nb cb : Nat) (b : List UInt8) (D : Gh) (w : World) (hk : Keeps D w) (hs : SS D (.slice A n c) xs) (hb : BS D (.slice Ab nb cb) b) (hc : chkL f m xs s = 0)
    (hl : nb ≤ 65536) (hfit : (occ nb : Int) ≤ m - occs xs) :
    Calls Try.prog 36 #[.agg #[.int .i64 f, .int .i64 m, .slice A n c, .int .i64 s], .slice Ab nb cb] w fun e w' => ∃ A' c' D', e = .returned (.tuple #[.agg #[.int .i64 f, .int .i64 m, .slice A' (n + 1) c', .int .i64 s], .int .i64 0]) ∧ Grow w D w' D' ∧ SS D' (.slice A' (n + 1) c') (xs ++ [b]) := by
  have hnb : nb ≤ 1000000000000 := by omega
  obtain ⟨hf0, hm1, hm2, _, _, hs2, hx, ho⟩ := chkL_zero hc
  have hxn := hs.len.1
  have hxo := occs_ge xs
  have hn43 : n ≤ 8796093022208 := by omega
  obtain ⟨i3, hi3, hz30, hz31, hz32⟩ := info_parts info32
  obtain ⟨i5, hi5, hz50, hz51, hz52⟩ := info_parts info5
  obtain ⟨vs, hsl, hvl, hve⟩ := id hs
  have hone := SS.one hvl hve
  have HVL := Lib.hid (And.intro hvl hve)
  clear hvl hve
  have HC := Lib.hid (fun W (hW : Keeps D W) => rcheck_c A n c xs f m s D W hW hs hn43)
  rw [hc] at HC
  have HOC := Lib.hid (fun W (hW : Keeps D W) => (rused_ok A n c xs D W hW hs (fun x hx' => by have := hx x hx'; omega) (by omega)).mono (fun _ _ h => (⟨h.1, h.2.symm⟩ : _ ∧ _)))
  have HO := Lib.hid (fun W => (rsec_ok nb hnb W).mono (fun _ _ h => (⟨h.1, h.2.symm⟩ : _ ∧ _)))
  have hk1 := hk.alloc (.cells #[.int .i64 f, .int .i64 m, .slice A n c, .int .i64 s] 47)
  have h0 := Box.new hk 47 #[.int .i64 f, .int .i64 m, .slice A n c, .int .i64 s]
  have h1 := Box.new hk1 47 #[.int .i64 0, .int .i64 0, .slice none 0 0, .int .i64 0]
  rw [World.size_alloc] at h1
  have h0' := h0.alloc (.cells #[.int .i64 0, .int .i64 0, .slice none 0 0, .int .i64 0] 47)
  have hk2 := hk1.alloc (.cells #[.int .i64 0, .int .i64 0, .slice none 0 0, .int .i64 0] 47)
  have hb2 : Below w.heap.size w ((w.alloc (.cells #[.int .i64 f, .int .i64 m, .slice A n c, .int .i64 s] 47)).alloc (.cells #[.int .i64 0, .int .i64 0, .slice none 0 0, .int .i64 0] 47)) := (by repeat (first | (with_reducible exact Below.refl _ _) | (with_reducible refine Below.drew ?_) | (with_reducible refine belowDrewN ?_ _) | (with_reducible refine belowAlloc ?_ _) | ((with_reducible refine belowSet2 ?_ ?_); omega) | (with_reducible assumption) | (with_reducible refine belowVia (by assumption) ?_) | (with_reducible refine belowVia (Grow.below (by assumption)) ?_)))
  have hn4 : n ≤ 4096 := by omega
  have HXN := Lib.hid hxn
  clear hx hc hs2 hxn hxo
  generalize occs xs = oc at *
  have hob : occ nb ≤ 8928571429 := by unfold occ; omega
  generalize hoo : occ nb = ob at *
  clear hoo
  go_enter Try.func36, Try.ntmps36
  go_wp2_with fail
  refine (HC.out _ hk2).mono ?_
  rintro e w1 ⟨rfl, hb1⟩
  have b1 := h1.below hb1 (by simp)
  have b0 := h0'.below hb1 (by simp; omega)
  have hbw : Below w.heap.size w w1 := belowVia hb1 hb2
  have hkw := hk.below hbw (Nat.le_refl _)
  clear h0 h0' h1 hb2 hk1 hk2 hb1
  have q1 : w1.cell? ⟨w.heap.size, 1, none⟩ = some (.int .i64 m) := b0.cell 1
  have q2 : w1.cell? ⟨w.heap.size, 2, none⟩ = some (.slice A n c) := b0.cell 2
  have e1 : IntKind.i64.wrap (m - (oc : Int)) = m - oc := by rw [IntKind.wrap_i64]; omega
  have q0 : w1.cell? ⟨w.heap.size, 0, none⟩ = some (.int .i64 f) := b0.cell 0
  have g1 : decide (65536 < (nb : Int)) = false := by simp; omega
  have g2 : decide (m - (oc : Int) < (ob : Int)) = false := by simp; omega
  clear hfit hob hnb hf0 hm1 hm2 ho
  go_wp2_with fail
  go_quiet (first | (with_reducible exact Calls.quiet_of_same (HO.out _)) | (with_reducible exact Calls.quiet_of_same (HOC.out _ (hkw.drewN _))))
  have b2 : Box (w1.drewN nq) D (w.heap.size + 1) 47 #[.int .i64 0, .int .i64 0, .slice none 0 0, .int .i64 0] := ⟨b1.heap, b1.off⟩
  have b3 : Box (w1.drewN nq) D w.heap.size 47 #[.int .i64 f, .int .i64 m, .slice A n c, .int .i64 s] := ⟨b0.heap, b0.off⟩
  have hb3 := belowDrewN hbw nq
  have hk3 := hkw.drewN nq
  clear q0 q1 q2 b0 b1 hbw hkw
  generalize w1.drewN nq = W1 at *
  have q0 : W1.cell? ⟨w.heap.size, 0, none⟩ = some (.int .i64 f) := b3.cell 0
  have q1 : W1.cell? ⟨w.heap.size, 1, none⟩ = some (.int .i64 m) := b3.cell 1
  have q2 : W1.cell? ⟨w.heap.size, 2, none⟩ = some (.slice A n c) := b3.cell 2
  have q3 : W1.cell? ⟨w.heap.size, 3, none⟩ = some (.int .i64 s) := b3.cell 3
  have p0 : W1.cell? ⟨w.heap.size + 1, 0, none⟩ = some (.int .i64 0) := b2.cell 0
  have p1 : W1.cell? ⟨w.heap.size + 1, 1, none⟩ = some (.int .i64 0) := b2.cell 1
  have p2 : W1.cell? ⟨w.heap.size + 1, 2, none⟩ = some (.slice none 0 0) := b2.cell 2
  have p3 : W1.cell? ⟨w.heap.size + 1, 3, none⟩ = some (.int .i64 0) := b2.cell 3
  clear p0 p1 p2 p3
  have hgW : Grow w D W1 D := Grow.of_below hk hb3
  have hG1 := hgW.alloc (.cells #[] 32)
  have hoff1 : D.off W1.heap.size := hk3.offNew (Nat.le_refl _)
  have hlt3 := b3.lt
  have hlt2 := b2.lt
  have hown1 : (W1.alloc (.cells #[] 32)).ownsRow W1.heap.size 32 1 (.slice (some ⟨W1.heap.size, 0, none⟩) 0 0) 0 [] := own_empty (Nat.le_refl _) (heap_alloc_new _ _)
  have b2a := b2.alloc (.cells #[] 32)
  have b3a := b3.alloc (.cells #[] 32)
  have hszW : W1.heap.size ≤ (W1.alloc (.cells #[] 32)).heap.size := by rw [World.size_alloc]; omega
  go_wp2_with ((with_reducible show wpList _ _ _ ((⟨some 30, _, _, _, _, _⟩ : Oper) :: _) _ _); refine stopL ?_)
  refine Stop.out ?_
  clear q0 q1 q2 q3 hb3 b2 b3 hk3
  generalize hg1 : W1.heap.size = g1 at *
  generalize W1.alloc (.cells #[] 32) = W2 at *
  have q2 : W2.cell? ⟨w.heap.size, 2, none⟩ = some (.slice A n c) := b3a.cell 2
  go_wp2_with (at_builtin; refine wpList_append_sl (o := ⟨some 32, _, _, _, _, _⟩) _ rfl _ _ 24 rfl g1 32 i3 _ 24 Try.underlying24 hi3 hz30 hz31 hz32 rfl _ 0 [] rfl hown1 D hG1.keeps A n c vs rfl hsl hone ?c1 ?c2 ?c3 ?_)
  case c1 => unfold maxLen; omega
  case c2 => omega
  case c3 => exact hszW
  intro A6 c6 W6 hown6 hgr6 hat6
  have b3b := b3a.grown hgr6 (by simp [Value.ownBlock]; omega)
  have b2b := b2a.grown hgr6 (by simp [Value.ownBlock]; omega)
  have hg6 : Grow w D W6 D := Grow.row hG1 hgr6 (fun g e => by simp [Value.ownBlock] at e; omega) (fun g e => by simp [Value.ownBlock] at e; subst e; exact hoff1)
  have ho6 := off_append hG1.keeps (fun g e => by simp [Value.ownBlock] at e; subst e; exact hoff1) hat6
  have hsz6 : g1 ≤ W6.heap.size := Nat.le_trans hszW hgr6.size
  clear hown1 hgr6 hat6 q2 b2a b3a hG1
  go_wp2_with (at_builtin; refine wpList_append_one (o := ⟨some 35, _, _, _, _, _⟩) rfl _ _ 24 rfl g1 32 i3 _ 24 Try.underlying24 hi3 hz30 hz31 hz32 rfl _ n vs rfl (hown6.alloc _) W6.heap.size _ rfl (heap_alloc_new _ _) rfl ?d1 ?d2 ?d3 ?_)
  case d1 => unfold maxLen; omega
  case d2 => omega
  case d3 => rw [World.size_alloc]; omega
  intro A9 c9 W9 hown9 hgr9 hat9
  have hne6 : Value.ownBlock (.slice A6 n c6) ≠ some w.heap.size := fun e => by have := (hown6.lt _ e).1; omega
  have hne6' : Value.ownBlock (.slice A6 n c6) ≠ some (w.heap.size + 1) := fun e => by have := (hown6.lt _ e).1; omega
  have b3c := (b3b.alloc (.cells #[.slice Ab nb cb] 32)).grown hgr9 (Ne.symm hne6)
  have b2c := (b2b.alloc (.cells #[.slice Ab nb cb] 32)).grown hgr9 (Ne.symm hne6')
  have hg9 : Grow w D W9 D := Grow.row (hg6.alloc _) hgr9 (fun g e => by have := (hown6.lt g e).1; omega) ho6
  have ho9 := off_append (hg6.keeps.alloc (.cells #[.slice Ab nb cb] 32)) ho6 (by rw [World.size_alloc]; exact hat9)
  have hne9 : Value.ownBlock (.slice A9 (n + 1) c9) ≠ some w.heap.size := fun e => by have := (hown9.lt _ e).1; omega
  have hne9' : Value.ownBlock (.slice A9 (n + 1) c9) ≠ some (w.heap.size + 1) := fun e => by have := (hown9.lt _ e).1; omega
  have hg10 := Grow.setNew hg9 (p := ⟨w.heap.size, 2, none⟩) (Nat.le_refl _) b3c.off (.slice A9 (n + 1) c9)
  have own10 := own_far2 (o := 2) (u := .slice A9 (n + 1) c9) hne9 hown9
  have b10 := b3c.set_ 2 (.slice A9 (n + 1) c9)
  replace b10 : Box (W9.setCell ⟨w.heap.size, 2, none⟩ (.slice A9 (n + 1) c9)) D w.heap.size 47 #[.int .i64 f, .int .i64 m, .slice A9 (n + 1) c9, .int .i64 s] := b10
  have z10 := b2c.far (p := ⟨w.heap.size, 2, none⟩) (by simp) (.slice A9 (n + 1) c9)
  obtain ⟨D10, hg11, hle11, hsl11, hof11⟩ := hg10.pub own10 (by omega) ho9
  have hoB10 := hof11 _ b2c.off hne9'
  have HSS := Lib.hid (show SS D10 (.slice A9 (n + 1) c9) (xs ++ [b]) from ⟨vs ++ [.slice Ab nb cb], hsl11, by simp [HVL.out.1], ss_snoc HVL.out.1 HVL.out.2 hle11 (hb.le hle11)⟩)
  have q2 : W9.cell? ⟨w.heap.size, 2, none⟩ = some (.slice A n c) := b3c.cell 2
  have f2 : W9.frozen? ⟨w.heap.size, 2, none⟩ = false := b3c.frozen 2
  go_wp2_with ((with_reducible show wpList _ _ _ ((⟨some 37, _, _, _, _, _⟩ : Oper) :: _) _ _); refine stopL ?_)
  refine Stop.out ?_
  clear hg10 own10 q2 f2 hown9 hgr9 hat9 hg9 ho9 hsl11 hof11 b3c b2c b3b b2b hown6 hg6 ho6
  generalize W9.setCell ⟨w.heap.size, 2, none⟩ (.slice A9 (n + 1) c9) = W10 at *
  have q0 : W10.cell? ⟨w.heap.size, 0, none⟩ = some (.int .i64 f) := b10.cell 0
  have q1 : W10.cell? ⟨w.heap.size, 1, none⟩ = some (.int .i64 m) := b10.cell 1
  have q2 : W10.cell? ⟨w.heap.size, 2, none⟩ = some (.slice A9 (n + 1) c9) := b10.cell 2
  have q3 : W10.cell? ⟨w.heap.size, 3, none⟩ = some (.int .i64 s) := b10.cell 3
  have p0 : W10.cell? ⟨w.heap.size + 1, 0, none⟩ = some (.int .i64 0) := z10.cell 0
  have p1 : W10.cell? ⟨w.heap.size + 1, 1, none⟩ = some (.int .i64 0) := z10.cell 1
  have p2 : W10.cell? ⟨w.heap.size + 1, 2, none⟩ = some (.slice none 0 0) := z10.cell 2
  have p3 : W10.cell? ⟨w.heap.size + 1, 3, none⟩ = some (.int .i64 0) := z10.cell 3
  have fr := z10.frozen
  have b11 := z10.set4 (.int .i64 f) (.int .i64 m) (.slice A9 (n + 1) c9) (.int .i64 s)
  have hg12 := Grow.set4 hg11 (g := w.heap.size + 1) (by omega) hoB10 (.int .i64 f) (.int .i64 m) (.slice A9 (n + 1) c9) (.int .i64 s)
  go_wp2_with fail
  refine bodyPost_ret (v := .tuple #[.agg #[.int .i64 f, .int .i64 m, .slice A9 (n + 1) c9, .int .i64 s], .int .i64 0]) ?_ rfl ⟨A9, c9, D10, rfl, hg12, HSS.out⟩
  clear p0 p1 p2 p3 fr hg12
  generalize (((W10.setCell ⟨w.heap.size + 1, 0, none⟩ (.int .i64 f)).setCell ⟨w.heap.size + 1, 1, none⟩ (.int .i64 m)).setCell ⟨w.heap.size + 1, 2, none⟩ (.slice A9 (n + 1) c9)).setCell ⟨w.heap.size + 1, 3, none⟩ (.int .i64 s) = WF at *
  have c0 : WF.cell? ⟨w.heap.size + 1, 0, none⟩ = some (.int .i64 f) := b11.cell 0
  have c1 : WF.cell? ⟨w.heap.size + 1, 1, none⟩ = some (.int .i64 m) := b11.cell 1
  have c2 : WF.cell? ⟨w.heap.size + 1, 2, none⟩ = some (.slice A9 (n + 1) c9) := b11.cell 2
  have c3 : WF.cell? ⟨w.heap.size + 1, 3, none⟩ = some (.int .i64 s) := b11.cell 3
  simp [results, Try.results36, go_sem, c0, c1, c2, c3]
end Go.Proofs.Ytegkmkglagmdiaa
