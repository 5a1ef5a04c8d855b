/-
  What is proved here: Path of an element that is there: the path of the tree.
-/
import Derived.Test.YtohknemfcohhfaaDoorRows
import Derived.Test.YtohknemfcohhfaaDoorBaseC
import Derived.Test.YtohknemfcohhfaaDoorSha
import Derived.Test.YtohknemfcohhfaaDoorDigA
import Derived.Test.YtohknemfcohhfaaDoorDigC
import Derived.Test.YtohknemfcohhfaaDoorDigD
import Derived.Test.YtohknemfcohhfaaDoorDigE
import Derived.Test.YtohknemfcohhfaaDoorDigF
import Derived.Test.YtohknemfcohhfaaDoorDigG
import Derived.Test.YtohknemfcohhfaaDoorDigH
import Derived.Test.YtohknemfcohhfaaDoorDigI
import Derived.Test.YtohknemfcohhfaaDoorDigJ
import Derived.Test.YtohknemfcohhfaaDoorDigK
import Derived.Test.YtohknemfcohhfaaDoorDigL
import Derived.Test.YtohknemfcohhfaaDoorDigM
import Derived.Test.YtohknemfcohhfaaDoorDigN
import Derived.Test.YtohknemfcohhfaaDoorDigO
import Derived.Test.YtohknemfcohhfaaDoorDigP
import Derived.Test.YtohknemfcohhfaaDoorDigQ
import Derived.Test.YtohknemfcohhfaaDoorDigR
import Derived.Test.YtohknemfcohhfaaDoorDigS
import Derived.Test.YtohknemfcohhfaaDoorTree
import Derived.Test.YtohknemfcohhfaaDoorShelf
import Derived.Lib.ConvBytes
import Derived.StillTailTactics
import Derived.Lib.AppendZerosOnto
import Derived.Deep.RegionHeld3
import Derived.Stop.BytesEq
import Derived.Great.BuildSlice
import Derived.Deep.MidRow
import Derived.Deep.RegionLaw
import Derived.Deep.DeepCutAuto
import Derived.Deep.QuietTactic
import Derived.BigQuiet
import Derived.Laws.EntriesVeiled
namespace Go.Proofs.YtohknemfcohhfaaDoor
open Go.RowKit Go.VS
/-- the length of a slice. -/
def slLen (v : Value) : Nat := match v with | .slice _ l _ => l | _ => 0
set_option maxRecDepth 100000 in
set_option maxHeartbeats 1000000 in
theorem path_ok {sh : List UInt8 → List UInt8} (hs : Sh sh) (A : Option Addr) (n c : Nat) (ds : List (List UInt8)) (a : Nat) (D : Gh) (w : World) (hk : Keeps D w) (hT : Tab D) (hd : DS D (.slice A n c) ds) (hn : n ≤ 1000000) (ha : a < n) :
    Calls Tryd.prog 25 #[.slice A n c, .int .i64 a] w fun e w' => ∃ A' c' D', e = .returned (.tuple #[.slice A' (pathF (tagB sh) ds a).length c', .int .i64 0]) ∧ Grow w D w' D' ∧ DS D' (.slice A' (pathF (tagB sh) ds a).length c') (pathF (tagB sh) ds a) := by
  obtain ⟨i0, hi, hz0, hz1, hz2⟩ := info_parts info26
  have g1 : decide ((a : Int) < 0) = false := by simp
  have g2 : decide ((n : Int) ≤ (a : Int)) = false := by simp; omega
  obtain ⟨hnl0, _, _⟩ := hd.len
  generalize hP : pathF (tagB sh) ds a = P at *
  have HP := Lib.hid hP
  clear hP
  have hL : P.length ≤ 40 := by rw [← HP.out, pathF_len _ _ _ _ rfl]; exact lenF_le 40 _ _ (by omega)
  have g3 : decide (n ≤ a) = false := by simp; omega
  have HNL0 := Lib.hid hnl0
  clear hnl0
  go_enter Tryd.func25, Tryd.ntmps25
  go_wp2_with fail
  go_loopw [0, 1, 4] (fun x y z wr => ∃ (A1 : Option Addr) (n1 c1 : Nat) (ls : List Dg) (a1 : Nat) (Ap : Option Addr) (cp : Nat) (ps : List Dg), x = .slice A1 n1 c1 ∧ y = .int .i64 a1 ∧ z = .slice Ap ps.length cp ∧ DS D (.slice A1 n1 c1) ls ∧ a1 < n1 ∧ n1 ≤ n ∧ wr.ownsRow w.heap.size 26 32 (.slice Ap ps.length cp) ps.length (flat ps) ∧ (∀ p ∈ ps, p.length = 32) ∧ ps ++ (pathF (tagB sh) ls a1).reverse = P.reverse ∧ Grow w D wr D) (fun x _ _ _ => slLen x)
  case atStart => exact ⟨A, n, c, ds, a, none, 0, [], rfl, rfl, rfl, hd, ha, Nat.le_refl _, World.ownsRow_nil _ _ _ _, by simp, by rw [HP.out]; rfl, Grow.refl hk⟩
  case round =>
    obtain ⟨A1, n1, c1, ls, a1, Ap, cp, ps, rfl, rfl, rfl, hds, ha1, hn1, hown, hall, heq, hG⟩ := hrel
    obtain ⟨hnl, hnc, hcm⟩ := hds.len
    unfold maxLen at hcm
    have hpl : ps.length ≤ 40 := by
      have := congrArg List.length heq
      simp only [List.length_append, List.length_reverse] at this
      omega
    have HNL := Lib.hid hnl
    clear hnl
    by_cases h2 : 2 ≤ n1
    · obtain ⟨b, o, rfl, h32, hrange⟩ := ds_range hds hG.keeps (k := 0) (by rw [← HNL.out]; omega)
      clear h32 hrange
      have hh1 := half_lt h2
      have hh2 := half_pos n1
      have hsp := split_c n1 h2 (by omega)
      obtain ⟨hsl1, hds1⟩ := ds_head hds (k := half n1) (by omega)
      obtain ⟨Ad, hsl2, hds2⟩ := ds_tail hds (k := half n1) (by omega)
      have hgt : (1 : Int) < (n1 : Int) := by omega
      by_cases hlo : a1 < half n1
      · have e := pathF_lo (tagB sh) (l := ls) (at_ := a1) (by rw [← HNL.out]; exact h2) (by rw [← HNL.out]; exact hlo)
        rw [← HNL.out] at e
        rw [e] at heq
        clear e
        have hkr := hG.keeps
        have HTC := Lib.hid (fun W hk => tree_c hs _ _ _ _ D W hk hT hds2 (by omega))
        have hT32 := Lib.hid (treeF_len hs (ls.drop (half n1)))
        generalize treeF (tagB sh) (ls.drop (half n1)) = r at *
        generalize half n1 = k at *
        have HEQ := Lib.hid heq
        clear heq
        go_wp2_with fail
        refine (hsp _).mono ?_
        rintro e W ⟨rfl, rfl⟩
        go_wp2_with fail
        rw [dg_darr r hT32.out] at HTC
        have hs32 : (darr r).size = 32 := darr_size r (by rw [hT32.out]; omega)
        have hfz := foldz r hT32.out
        go_region_held3 (fun _ => True) (first | trivial | go_keep)
          (first | (go_at_call 23; refine (HTC.out _ (by repeat (with_reducible first | assumption | refine Keeps.drew ?_ | refine Keeps.drewN ?_ _ | refine Keeps.alloc ?_ _ | exact Grow.keeps (by assumption)))).mono ?_; rintro e w1 ⟨rfl, hb1⟩; obtain ⟨A5, c5, w5, hrun5, hown5, hG5⟩ := app_step r hT32.out hk hown.drew hG.drew hb1 (by omega)) | (refine step_append_run _ rfl _ _ 30 30 rfl _ _ rfl rfl _ _ hrun5 ?_))
        go_wp2_with fail
        go_roundw
        case rel => exact ⟨some ⟨b, o, none⟩, k, c1, ls.take k, a1, A5, c5, ps ++ [r], rfl, rfl, by rw [List.length_append]; rfl, hds1, by omega, by omega, by rw [List.length_append]; exact hown5, fun p hp => (List.mem_append.1 hp).elim (hall p) (fun h => by rw [List.mem_singleton.1 h]; exact hT32.out), by rw [← HEQ.out]; simp, hG5⟩
        case measure => simp [slLen]; omega
      · have hlo' : ¬ ((a1 : Int) < (half n1 : Int)) := by omega
        have hwr : IntKind.i64.wrap ((a1 : Int) - (half n1 : Int)) = ((a1 - half n1 : Nat) : Int) := by rw [IntKind.wrap_i64]; omega
        have e := pathF_hi (tagB sh) (l := ls) (at_ := a1) (by rw [← HNL.out]; exact h2) (by rw [← HNL.out]; exact hlo)
        rw [← HNL.out] at e
        rw [e] at heq
        clear e
        have hkr := hG.keeps
        have HTC := Lib.hid (fun W hk => tree_c hs _ _ _ _ D W hk hT hds1 (by omega))
        have hT32 := Lib.hid (treeF_len hs (ls.take (half n1)))
        generalize treeF (tagB sh) (ls.take (half n1)) = r at *
        generalize half n1 = k at *
        have HEQ := Lib.hid heq
        clear heq
        go_wp2_with fail
        refine (hsp _).mono ?_
        rintro e W ⟨rfl, rfl⟩
        go_wp2_with fail
        rw [dg_darr r hT32.out] at HTC
        have hs32 : (darr r).size = 32 := darr_size r (by rw [hT32.out]; omega)
        have hfz := foldz r hT32.out
        go_region_held3 (fun _ => True) (first | trivial | go_keep)
          (first | (go_at_call 23; refine (HTC.out _ (by repeat (with_reducible first | assumption | refine Keeps.drew ?_ | refine Keeps.drewN ?_ _ | refine Keeps.alloc ?_ _ | exact Grow.keeps (by assumption)))).mono ?_; rintro e w1 ⟨rfl, hb1⟩; obtain ⟨A5, c5, w5, hrun5, hown5, hG5⟩ := app_step r hT32.out hk hown.drew hG.drew hb1 (by omega)) | (refine step_append_run _ rfl _ _ 30 30 rfl _ _ rfl rfl _ _ hrun5 ?_))
        go_wp2_with fail
        go_roundw
        case rel => exact ⟨Ad, n1 - k, c1 - k, ls.drop k, a1 - k, A5, c5, ps ++ [r], rfl, rfl, by rw [List.length_append]; rfl, hds2, by omega, by omega, by rw [List.length_append]; exact hown5, fun p hp => (List.mem_append.1 hp).elim (hall p) (fun h => by rw [List.mem_singleton.1 h]; exact hT32.out), by rw [← HEQ.out]; simp, hG5⟩
        case measure => simp [slLen]; omega
    · have hgt : ¬ ((1 : Int) < (n1 : Int)) := by omega
      rw [pathF_one _ _ (by rw [← HNL.out]; omega)] at heq
      have hrev : ps.reverse = P := by
        have := congrArg List.reverse heq
        simpa using this
      have hlen : P.length = ps.length := by rw [← hrev, List.length_reverse]
      have HREV := Lib.hid hrev
      have HLEN := Lib.hid hlen
      clear heq hrev hlen
      go_wp2_with fail
      refine (rev_c _ _ _ w.heap.size ps wr hown rfl hall (by omega)).mono ?_
      rintro e w5 ⟨rfl, hown5, hg5⟩
      rw [HREV.out] at hown5
      have hG5 := hG.row hg5 (fun k h => (hown.lt k h).1) (fun k h => hk.offNew (hown.lt k h).1)
      obtain ⟨D2, hG2, _, hs2, _⟩ := hG5.pubN hown5 (Nat.le_refl _) (fun g h => hk.offNew (hown5.lt g h).1)
      have hallP : ∀ d ∈ P, d.length = 32 := fun d hd => hall d (by rw [← HREV.out] at hd; exact List.mem_reverse.1 hd)
      have HP2 := Lib.hid (show ∃ A' c' D', Value.slice Ap ps.length cp = .slice A' P.length c' ∧ Grow w D w5 D' ∧ DS D' (.slice A' P.length c') P from ⟨Ap, cp, D2, by rw [HLEN.out], hG2, hallP, by rw [HLEN.out]; exact hs2⟩)
      clear hown hown5 hg5 hG hG5 hG2 hs2
      go_wp2
      go_ret2
      obtain ⟨A', c', D', e, h2⟩ := HP2.out
      exact ⟨A', c', D', by rw [← e]; rfl, h2⟩
end Go.Proofs.YtohknemfcohhfaaDoor
