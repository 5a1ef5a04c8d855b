/-
  What is proved here: valid, Clone, New, what Sign and Verify refuse
-/
import Derived.Test.YtohknemfcohhfaaDoorRows
import Derived.Test.YtohknemfcohhfaaDoorBaseC
import Derived.Test.YtohknemfcohhfaaDoorSha
import Derived.Test.YtohknemfcohhfaaDoorDigA
import Derived.Test.YtohknemfcohhfaaDoorDigC
import Derived.Test.YtohknemfcohhfaaDoorDigD
import Derived.Test.YtohknemfcohhfaaDoorDigE
import Derived.Test.YtohknemfcohhfaaDoorDigF
import Derived.Test.YtohknemfcohhfaaDoorDigG
import Derived.Test.YtohknemfcohhfaaDoorDigH
import Derived.Test.YtohknemfcohhfaaDoorDigI
import Derived.Test.YtohknemfcohhfaaDoorDigJ
import Derived.Test.YtohknemfcohhfaaDoorDigK
import Derived.Test.YtohknemfcohhfaaDoorDigL
import Derived.Test.YtohknemfcohhfaaDoorDigM
import Derived.Test.YtohknemfcohhfaaDoorDigN
import Derived.Test.YtohknemfcohhfaaDoorDigO
import Derived.Test.YtohknemfcohhfaaDoorDigP
import Derived.Test.YtohknemfcohhfaaDoorDigQ
import Derived.Test.YtohknemfcohhfaaDoorDigR
import Derived.Test.YtohknemfcohhfaaDoorDigS
import Derived.Test.YtohknemfcohhfaaDoorDigT
import Derived.Test.YtohknemfcohhfaaDoorLawTags
import Derived.Test.YtohknemfcohhfaaDoorTree
import Derived.Test.YtohknemfcohhfaaDoorShelf
import Derived.Lib.ConvBytes
import Derived.StillTailTactics
import Derived.Lib.AppendZerosOnto
import Derived.Deep.RegionHeld3
import Derived.Stop.BytesEq
import Derived.Great.BuildSlice
import Derived.Deep.MidRow
import Derived.Deep.RegionLaw
import Derived.Deep.DeepCutAuto
import Derived.Deep.QuietTactic
import Derived.BigQuiet
import Derived.Laws.EntriesVeiled
namespace Go.Proofs.YtohknemfcohhfaaDoor
open Go.RowKit Go.VS
/-- is a key valid? -/
def validF (n : Nat) (m u : Int) : Bool := decide (1 ≤ n ∧ n ≤ 64 ∧ 1 ≤ m ∧ m ≤ 256 ∧ 0 ≤ u ∧ u ≤ m)
/-- a key as a value. -/
abbrev keyV (A : Option Addr) (n c : Nat) (m u : Int) : Value := .agg #[.slice A n c, .int .i64 m, .int .i64 u]
/-- a signature as a value. -/
abbrev sigV (i : Int) (B : Option Addr) (b d : Nat) (E : Option Addr) (e f : Nat) : Value := .agg #[.int .i64 i, .slice B b d, .slice E e f]
abbrev key0 : Value := keyV none 0 0 0 0
abbrev sig0 : Value := sigV 0 none 0 0 none 0 0
set_option maxRecDepth 100000 in
set_option maxHeartbeats 1000000 in
theorem valid_c (A : Option Addr) (n c : Nat) (hn : n ≤ maxLen) (m u : Int) (w : World) :
    Calls Tryd.prog 65 #[keyV A n c m u] w fun e w' => e = .returned (.bool (validF n m u)) ∧ Below w.heap.size w w' := by
  have hbel : Below w.heap.size w (w.alloc (.cells #[.slice A n c, .int .i64 m, .int .i64 u] 45)) := (by repeat (first | (with_reducible exact Below.refl _ _) | (with_reducible refine Below.drew ?_) | (with_reducible refine belowDrewN ?_ _) | (with_reducible refine belowAlloc ?_ _) | ((with_reducible refine belowSet2 ?_ ?_); omega) | (with_reducible assumption) | (with_reducible refine belowVia (by assumption) ?_) | (with_reducible refine belowVia (Grow.below (by assumption)) ?_)))
  unfold maxLen at hn
  go_enter Tryd.func65, Tryd.ntmps65
  go_wp2
  all_goals
    go_ret
    exact ⟨by first | (simp [validF]; omega) | exact congrArg (fun b => Ending.returned (Value.bool b)) (decide_eq_decide.2 (by omega)), hbel⟩
set_option maxRecDepth 100000 in
set_option maxHeartbeats 1000000 in
theorem clone_c (A : Option Addr) (n c : Nat) (bs : List UInt8) (D : Gh) (w : World) (hk : Keeps D w) (hb : BS D (.slice A n c) bs) (hn : n ≤ 1000000) :
    Calls Tryd.prog 70 #[.slice A n c] w fun e w' => ∃ A' c' D', e = .returned (.slice A' n c') ∧ Grow w D w' D' ∧ BS D' (.slice A' n c') bs := by
  obtain ⟨i0, hi, hz0, hz1, hz2⟩ := info_parts info5
  have hnil := fun w a n c => Lib.run_eql_slice_nil (P := Tryd.prog) w 22 5 a n c 0 0 Tryd.underlying22
  obtain ⟨hm, hnc, hcm, hc⟩ := Sl.cells hk hb
  rcases A with _ | ad
  · have h0 : n = 0 := by
      rcases Nat.eq_zero_or_pos n with h0 | h0
      · exact h0
      · obtain ⟨b, o, h, _⟩ := hc h0; cases h
    subst h0
    obtain rfl : bs = [] := List.eq_nil_of_length_eq_zero (by rw [List.length_map] at hm; exact hm.symm)
    clear hm hnc hcm hc
    go_enter Tryd.func70, Tryd.ntmps70
    go_wp2
    go_ret
    exact ⟨none, 0, D, rfl, Grow.refl hk, BS.nil D⟩
  · clear hm hnc hcm hc
    go_enter Tryd.func70, Tryd.ntmps70
    go_wp2_with (at_builtin; refine wpList_append_sl _ rfl _ _ 22 rfl w.heap.size 5 i0 (.int .u8 0) 1 Tryd.underlying22 hi hz0 hz1 hz2 rfl _ 0 [] rfl (own_empty (Nat.le_refl _) (heap_alloc_new _ _)) D (hk.alloc _) _ _ _ _ rfl hb (bv_one _) ?c1 ?c2 ?c3 ?_)
    case c1 => unfold maxLen; omega
    case c2 => omega
    case c3 => simp
    intro A' c' w1 hown hgr hob
    have hbel : Below w.heap.size w w1 := ((Below.refl _ _).alloc (Nat.le_refl _) _).grown hgr (by simp) (by simp [Value.ownBlock])
    obtain ⟨D', hG, hsl⟩ := pub_row hk hbel (Nat.le_refl _) hown
    go_wp2
    go_ret
    exact ⟨A', c', D', rfl, hG, hsl⟩
set_option maxRecDepth 100000 in
set_option maxHeartbeats 1000000 in
theorem new_bad (A : Option Addr) (n c : Nat) (bs : List UInt8) (m : Int) (D : Gh) (w : World) (hk : Keeps D w) (hb : BS D (.slice A n c) bs) (hn : n ≤ 1000000) (hv : validF n m 0 = false) :
    Calls Tryd.prog 40 #[.slice A n c, .int .i64 m] w fun e w' => e = .returned (.tuple #[key0, .int .i64 320]) ∧ Below w.heap.size w w' := by
  have HCL := Lib.hid (fun W hk => clone_c A n c bs D W hk hb hn)
  have hB0 := Box.new hk 45 #[.slice none 0 0, .int .i64 0, .int .i64 0]
  have HV := Lib.hid hv
  clear hv
  go_enter Tryd.func40, Tryd.ntmps40
  go_wp2_with fail
  refine (HCL.out _ (hk.alloc _)).mono ?_
  rintro e w1 ⟨A', c', D', rfl, hG, hb'⟩
  have hB1 := hB0.grow hG
  have hbel1 : Below w.heap.size w w1 := belowVia hG.below (by repeat (first | (with_reducible exact Below.refl _ _) | (with_reducible refine Below.drew ?_) | (with_reducible refine belowDrewN ?_ _) | (with_reducible refine belowAlloc ?_ _) | ((with_reducible refine belowSet2 ?_ ?_); omega) | (with_reducible assumption) | (with_reducible refine belowVia (by assumption) ?_) | (with_reducible refine belowVia (Grow.below (by assumption)) ?_)))
  have q := hB1.cell
  have f := hB1.frozen
  have q1 := q 1
  have q2 := q 2
  have q0 := q 0
  go_wp2_with fail
  have hB2 := ((hB1.set_ 0 (.slice A' n c')).set_ 1 (.int .i64 m)).set_ 2 (.int .i64 0)
  have hbel2 : Below w.heap.size w (((w1.setCell ⟨w.heap.size, 0, none⟩ (.slice A' n c')).setCell ⟨w.heap.size, 1, none⟩ (.int .i64 m)).setCell ⟨w.heap.size, 2, none⟩ (.int .i64 0)) := (by repeat (first | (with_reducible exact Below.refl _ _) | (with_reducible refine Below.drew ?_) | (with_reducible refine belowDrewN ?_ _) | (with_reducible refine belowAlloc ?_ _) | ((with_reducible refine belowSet2 ?_ ?_); omega) | (with_reducible assumption) | (with_reducible refine belowVia (by assumption) ?_) | (with_reducible refine belowVia (Grow.below (by assumption)) ?_)))
  clear q f q0 q1 q2 hB0 hB1 hbel1
  generalize ((w1.setCell ⟨w.heap.size, 0, none⟩ (.slice A' n c')).setCell ⟨w.heap.size, 1, none⟩ (.int .i64 m)).setCell ⟨w.heap.size, 2, none⟩ (.int .i64 0) = W at *
  refine (valid_c A' n c' (by unfold maxLen; omega) m 0 W).mono ?_
  rintro e w2 ⟨rfl, hb2⟩
  rw [HV.out]
  have hB3 := hB2.below hb2 hB2.lt
  have hbel3 := belowVia hb2 hbel2
  have q := hB3.cell
  have f := hB3.frozen
  have q1 := q 1
  have q2 := q 2
  have q0 := q 0
  go_wp2
  exact bodyPost_ret (v := .tuple #[key0, .int .i64 320]) (by simp [results, Tryd.results40, go_sem, q]) rfl ⟨rfl, (by repeat (first | (with_reducible exact Below.refl _ _) | (with_reducible refine Below.drew ?_) | (with_reducible refine belowDrewN ?_ _) | (with_reducible refine belowAlloc ?_ _) | ((with_reducible refine belowSet2 ?_ ?_); omega) | (with_reducible assumption) | (with_reducible refine belowVia (by assumption) ?_) | (with_reducible refine belowVia (Grow.below (by assumption)) ?_)))⟩
set_option maxRecDepth 100000 in
set_option maxHeartbeats 1000000 in
theorem new_ok (A : Option Addr) (n c : Nat) (bs : List UInt8) (m : Int) (D : Gh) (w : World) (hk : Keeps D w) (hb : BS D (.slice A n c) bs) (hn : n ≤ 1000000) (hv : validF n m 0 = true) :
    Calls Tryd.prog 40 #[.slice A n c, .int .i64 m] w fun e w' => ∃ A' c' D', e = .returned (.tuple #[keyV A' n c' m 0, .int .i64 0]) ∧ Grow w D w' D' ∧ BS D' (.slice A' n c') bs := by
  have HCL := Lib.hid (fun W hk => clone_c A n c bs D W hk hb hn)
  have hB0 := Box.new hk 45 #[.slice none 0 0, .int .i64 0, .int .i64 0]
  have HV := Lib.hid hv
  clear hv
  go_enter Tryd.func40, Tryd.ntmps40
  go_wp2_with fail
  refine (HCL.out _ (hk.alloc _)).mono ?_
  rintro e w1 ⟨A', c', D', rfl, hG, hb'⟩
  have hB1 := hB0.grow hG
  have hG1 : Grow w D w1 D' := Grow.trans ((Grow.refl hk).alloc _) hG
  have q := hB1.cell
  have f := hB1.frozen
  have q1 := q 1
  have q2 := q 2
  have q0 := q 0
  go_wp2_with fail
  have hB2 := ((hB1.set_ 0 (.slice A' n c')).set_ 1 (.int .i64 m)).set_ 2 (.int .i64 0)
  have hG2 : Grow w D (((w1.setCell ⟨w.heap.size, 0, none⟩ (.slice A' n c')).setCell ⟨w.heap.size, 1, none⟩ (.int .i64 m)).setCell ⟨w.heap.size, 2, none⟩ (.int .i64 0)) D' := ((hG1.setNew (p := ⟨_, 0, none⟩) (Nat.le_refl _) hB1.off _).setNew (p := ⟨_, 1, none⟩) (Nat.le_refl _) hB1.off _).setNew (p := ⟨_, 2, none⟩) (Nat.le_refl _) hB1.off _
  clear q f q0 q1 q2 hB0 hB1 hG1
  generalize ((w1.setCell ⟨w.heap.size, 0, none⟩ (.slice A' n c')).setCell ⟨w.heap.size, 1, none⟩ (.int .i64 m)).setCell ⟨w.heap.size, 2, none⟩ (.int .i64 0) = W at *
  refine (valid_c A' n c' (by unfold maxLen; omega) m 0 W).mono ?_
  rintro e w2 ⟨rfl, hb2⟩
  rw [HV.out]
  have hB3 := hB2.below hb2 hB2.lt
  have hG3 := hG2.trans (Grow.of_below hG2.keeps hb2)
  have q := hB3.cell
  have f := hB3.frozen
  have q1 := q 1
  have q2 := q 2
  have q0 := q 0
  go_wp2
  exact bodyPost_ret (v := .tuple #[keyV A' n c' m 0, .int .i64 0]) (by simp [results, Tryd.results40, go_sem, q]) rfl ⟨A', c', D', rfl, ((hG3.setNew (p := ⟨_, 0, none⟩) (Nat.le_refl _) hB3.off _).setNew (p := ⟨_, 1, none⟩) (Nat.le_refl _) hB3.off _).setNew (p := ⟨_, 2, none⟩) (Nat.le_refl _) hB3.off _, hb'⟩
set_option maxRecDepth 100000 in
set_option maxHeartbeats 1000000 in
/-- Verify refuses what is out of shape. -/
theorem verify_bad (p : List UInt8) (m : Int) (A : Option Addr) (n c : Nat) (hn : n ≤ maxLen) (i : Int) (B : Option Addr) (b d : Nat) (hb : b ≤ maxLen) (E : Option Addr) (e f : Nat) (w : World)
    (h : m < 1 ∨ 256 < m ∨ i < 0 ∨ m ≤ i ∨ b ≠ 67 ∨ 65536 < n) :
    Calls Tryd.prog 37 #[.agg (darr p), .int .i64 m, .slice A n c, sigV i B b d E e f] w fun x w' => x = .returned (.bool false) ∧ Below w.heap.size w w' := by
  have hbel : Below w.heap.size w ((w.alloc (.cells (darr p) 26)).alloc (.cells #[.int .i64 i, .slice B b d, .slice E e f] 49)) := (by repeat (first | (with_reducible exact Below.refl _ _) | (with_reducible refine Below.drew ?_) | (with_reducible refine belowDrewN ?_ _) | (with_reducible refine belowAlloc ?_ _) | ((with_reducible refine belowSet2 ?_ ?_); omega) | (with_reducible assumption) | (with_reducible refine belowVia (by assumption) ?_) | (with_reducible refine belowVia (Grow.below (by assumption)) ?_)))
  unfold maxLen at hn hb
  go_enter Tryd.func37, Tryd.ntmps37
  by_cases h1 : m < 1
  · go_wp2
    all_goals
      go_ret
      exact ⟨rfl, hbel⟩
  by_cases h2 : 256 < m
  · go_wp2
    all_goals
      go_ret
      exact ⟨rfl, hbel⟩
  by_cases h3 : i < 0
  · go_wp2
    all_goals
      go_ret
      exact ⟨rfl, hbel⟩
  by_cases h4 : m ≤ i
  · go_wp2
    all_goals
      go_ret
      exact ⟨rfl, hbel⟩
  by_cases h5 : b = 67
  · have h6 : (65536 : Int) < (n : Int) := by omega
    subst h5
    clear h
    go_wp2
    all_goals
      go_ret
      exact ⟨rfl, hbel⟩
  · have h6 : ¬ ((b : Int) = 67) := by omega
    clear h
    go_wp2
    all_goals
      go_ret
      exact ⟨rfl, hbel⟩
set_option maxRecDepth 100000 in
set_option maxHeartbeats 1000000 in
/-- Sign refuses an invalid key. -/
theorem sign_bad (A : Option Addr) (n c : Nat) (hn : n ≤ maxLen) (m u : Int) (B : Option Addr) (b d : Nat) (hb : b ≤ maxLen) (w : World) (D : Gh) (hk : Keeps D w) (E : Int)
    (h : (validF n m u = false ∧ E = 320) ∨ (validF n m u = true ∧ 65536 < b ∧ E = 2) ∨ (validF n m u = true ∧ b ≤ 65536 ∧ u = m ∧ E = 320)) :
    Calls Tryd.prog 33 #[keyV A n c m u, .slice B b d] w fun x w' => x = .returned (.tuple #[key0, sig0, .int .i64 E]) ∧ Below w.heap.size w w' := by
  have hB0 := ((Box.new2 hk rfl 45 #[.slice A n c, .int .i64 m, .int .i64 u]).alloc (.cells #[.slice none 0 0, .int .i64 0, .int .i64 0] 45)).alloc (.cells #[.int .i64 0, .slice none 0 0, .slice none 0 0] 49)
  have hB1 := (Box.new2 (hk.alloc (.cells #[.slice A n c, .int .i64 m, .int .i64 u] 45)) (g := w.heap.size + 1) (by simp) 45 #[.slice none 0 0, .int .i64 0, .int .i64 0]).alloc (.cells #[.int .i64 0, .slice none 0 0, .slice none 0 0] 49)
  have hB2 := Box.new2 ((hk.alloc (.cells #[.slice A n c, .int .i64 m, .int .i64 u] 45)).alloc (.cells #[.slice none 0 0, .int .i64 0, .int .i64 0] 45)) (g := w.heap.size + 1 + 1) (by simp) 49 #[.int .i64 0, .slice none 0 0, .slice none 0 0]
  have hbel : Below w.heap.size w (((w.alloc (.cells #[.slice A n c, .int .i64 m, .int .i64 u] 45)).alloc (.cells #[.slice none 0 0, .int .i64 0, .int .i64 0] 45)).alloc (.cells #[.int .i64 0, .slice none 0 0, .slice none 0 0] 49)) := (by repeat (first | (with_reducible exact Below.refl _ _) | (with_reducible refine Below.drew ?_) | (with_reducible refine belowDrewN ?_ _) | (with_reducible refine belowAlloc ?_ _) | ((with_reducible refine belowSet2 ?_ ?_); omega) | (with_reducible assumption) | (with_reducible refine belowVia (by assumption) ?_) | (with_reducible refine belowVia (Grow.below (by assumption)) ?_)))
  have HVC := Lib.hid (fun W => valid_c A n c hn m u W)
  unfold maxLen at hn hb
  go_enter Tryd.func33, Tryd.ntmps33
  go_wp2_with fail
  generalize ((w.alloc (.cells #[.slice A n c, .int .i64 m, .int .i64 u] 45)).alloc (.cells #[.slice none 0 0, .int .i64 0, .int .i64 0] 45)).alloc (.cells #[.int .i64 0, .slice none 0 0, .slice none 0 0] 49) = W at *
  refine (HVC.out _).mono ?_
  rintro e w1 ⟨rfl, hb1⟩
  have hB0' := hB0.below hb1 hB0.lt
  have hB1' := hB1.below hb1 hB1.lt
  have hB2' := hB2.below hb1 hB2.lt
  have hbel1 := belowVia hb1 hbel
  clear hB0 hB1 hB2 hb1 hbel HVC
  have q0 := hB0'.cell 0
  have q1 := hB0'.cell 1
  have q2 := hB0'.cell 2
  have r0 := hB1'.cell 0
  have r1 := hB1'.cell 1
  have r2 := hB1'.cell 2
  have s0 := hB2'.cell 0
  have s1 := hB2'.cell 1
  have s2 := hB2'.cell 2
  have fr := hB1'.frozen
  have fs := hB2'.frozen
  rcases h with ⟨hv, rfl⟩ | ⟨hv, h2, rfl⟩ | ⟨hv, h2, rfl, rfl⟩
  · rw [hv]
    clear hv
    go_wp2
    exact bodyPost_ret (v := .tuple #[key0, sig0, .int .i64 320]) (by simp [results, Tryd.results33, go_sem, r0, r1, r2, s0, s1, s2]) rfl ⟨rfl, (by repeat (first | (with_reducible exact Below.refl _ _) | (with_reducible refine Below.drew ?_) | (with_reducible refine belowDrewN ?_ _) | (with_reducible refine belowAlloc ?_ _) | ((with_reducible refine belowSet2 ?_ ?_); omega) | (with_reducible assumption) | (with_reducible refine belowVia (by assumption) ?_) | (with_reducible refine belowVia (Grow.below (by assumption)) ?_)))⟩
  · rw [hv]
    clear hv
    have g2 : (65536 : Int) < (b : Int) := by omega
    go_wp2
    exact bodyPost_ret (v := .tuple #[key0, sig0, .int .i64 2]) (by simp [results, Tryd.results33, go_sem, r0, r1, r2, s0, s1, s2]) rfl ⟨rfl, (by repeat (first | (with_reducible exact Below.refl _ _) | (with_reducible refine Below.drew ?_) | (with_reducible refine belowDrewN ?_ _) | (with_reducible refine belowAlloc ?_ _) | ((with_reducible refine belowSet2 ?_ ?_); omega) | (with_reducible assumption) | (with_reducible refine belowVia (by assumption) ?_) | (with_reducible refine belowVia (Grow.below (by assumption)) ?_)))⟩
  · rw [hv]
    clear hv
    have g2 : ¬ ((65536 : Int) < (b : Int)) := by omega
    go_wp2
    exact bodyPost_ret (v := .tuple #[key0, sig0, .int .i64 320]) (by simp [results, Tryd.results33, go_sem, r0, r1, r2, s0, s1, s2]) rfl ⟨rfl, (by repeat (first | (with_reducible exact Below.refl _ _) | (with_reducible refine Below.drew ?_) | (with_reducible refine belowDrewN ?_ _) | (with_reducible refine belowAlloc ?_ _) | ((with_reducible refine belowSet2 ?_ ?_); omega) | (with_reducible assumption) | (with_reducible refine belowVia (by assumption) ?_) | (with_reducible refine belowVia (Grow.below (by assumption)) ?_)))⟩
end Go.Proofs.YtohknemfcohhfaaDoor
