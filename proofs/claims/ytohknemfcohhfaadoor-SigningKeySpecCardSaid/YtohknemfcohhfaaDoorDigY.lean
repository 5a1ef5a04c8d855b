/-
  What is proved here: Path of the reference, Path whatever the index
-/
import Derived.Test.YtohknemfcohhfaaDoorRows
import Derived.Test.YtohknemfcohhfaaDoorBaseC
import Derived.Test.YtohknemfcohhfaaDoorSha
import Derived.Test.YtohknemfcohhfaaDoorDigA
import Derived.Test.YtohknemfcohhfaaDoorDigB
import Derived.Test.YtohknemfcohhfaaDoorDigC
import Derived.Test.YtohknemfcohhfaaDoorDigD
import Derived.Test.YtohknemfcohhfaaDoorDigE
import Derived.Test.YtohknemfcohhfaaDoorDigF
import Derived.Test.YtohknemfcohhfaaDoorDigG
import Derived.Test.YtohknemfcohhfaaDoorDigL
import Derived.Test.YtohknemfcohhfaaDoorLawHalves
import Derived.Test.YtohknemfcohhfaaDoorDigW
import Derived.Test.YtohknemfcohhfaaDoorDigX
import Derived.Test.YtohknemfcohhfaaDoorDigT
import Derived.Test.YtohknemfcohhfaaDoorDigR
import Derived.Great.BuildSlice
import Derived.Test.YtohknemfcohhfaaDoorDigQ
import Derived.Stop.BytesEq
import Derived.Test.YtohknemfcohhfaaDoorDigU
import Derived.Test.YtohknemfcohhfaaDoorDigV
import Derived.Lib.ConvBytes
import Derived.StillTailTactics
import Derived.Lib.AppendZerosOnto
import Derived.Deep.RegionHeld3
import Derived.Deep.MidRow
import Derived.Deep.RegionLaw
import Derived.Deep.DeepCutAuto
import Derived.Deep.QuietTactic
import Derived.BigQuiet
import Derived.Laws.EntriesVeiled
namespace Go.Proofs.YtohknemfcohhfaaDoor
open Go.RowKit Go.VS
theorem own_baseN {w : World} {base base' s : Nat} {e : TypeId} {v : Value} {n : Nat} {xs : List Value} (h : w.ownsRow base e s v n xs) (hb : base' ≤ base) : w.ownsRow base' e s v n xs := by
  refine ⟨h.1, ?_⟩
  rcases h.2 with hn | ⟨g, cap, cur, hv, hg, r⟩
  · exact .inl hn
  · exact .inr ⟨g, cap, cur, hv, Nat.le_trans hb hg, r⟩
set_option maxRecDepth 100000 in
set_option maxHeartbeats 1000000 in
theorem rpath_c {sh : List UInt8 → List UInt8} (hs : Sh sh) : ∀ (m : Nat) (A : Option Addr) (n c : Nat) (ds : List (List UInt8)) (a : Nat) (D : Gh) (w : World), Keeps D w → DS D (.slice A n c) ds → a < n → n ≤ m → n ≤ 1000000 →
    Calls Tryd.prog 60 #[.slice A n c, .int .i64 a] w fun e w' => ∃ A' c', e = .returned (.slice A' (pathF (tagB sh) ds a).length c') ∧ Below w.heap.size w w' ∧ w'.ownsRow w.heap.size 26 32 (.slice A' (pathF (tagB sh) ds a).length c') (pathF (tagB sh) ds a).length (flat (pathF (tagB sh) ds a)) := by
  intro m
  induction m using Nat.strongRecOn with
  | ind m ih =>
    intro A n c ds a D w hk hd ha hm hlim
    obtain ⟨hnl, hnc, hcm⟩ := hd.len
    unfold maxLen at hcm
    have HN := Lib.hid hnl
    clear hnl
    by_cases h2 : 2 ≤ n
    · obtain ⟨b, o, rfl, h32, hrange⟩ := ds_range hd hk (k := 0) (by rw [← HN.out]; omega)
      clear h32 hrange
      have hh1 := half_lt h2
      have hh2 := half_pos n
      have hsp := rhalf_c n h2 (by omega)
      have hne : ((n : Int) == 1) = false := by simp; omega
      obtain ⟨hsl1, hds1⟩ := ds_head hd (k := half n) (by omega)
      obtain ⟨Ad, hsl2, hds2⟩ := ds_tail hd (k := half n) (by omega)
      have hL40 : (pathF (tagB sh) ds a).length ≤ 40 := by rw [pathF_len _ _ _ _ rfl]; exact lenF_le 40 _ _ (by rw [← HN.out]; omega)
      by_cases hlo : a < half n
      · have e := pathF_lo (tagB sh) (l := ds) (at_ := a) (by rw [← HN.out]; exact h2) (by rw [← HN.out]; exact hlo)
        rw [← HN.out] at e
        rw [e] at hL40 ⊢
        clear e
        have ih1 := fun W hk => ih (half n) (by omega) _ _ _ _ a D W hk hds1 hlo (Nat.le_refl _) (by omega)
        have HTC := Lib.hid (fun W hk => rtree_c hs (n - half n) _ _ _ _ D W hk hds2 (Nat.le_refl _) (by omega))
        have hT32 := Lib.hid (treeF_len hs (ds.drop (half n)))
        generalize treeF (tagB sh) (ds.drop (half n)) = r at *
        generalize pathF (tagB sh) (ds.take (half n)) a = p1 at *
        rw [List.length_append] at hL40 ⊢
        simp only [List.length_cons, List.length_nil, Nat.zero_add] at hL40 ⊢
        generalize half n = k at *
        rw [dg_darr r hT32.out] at HTC
        have hs32 : (darr r).size = 32 := darr_size r (by rw [hT32.out]; omega)
        have hfz := foldz r hT32.out
        clear ih
        go_enter Tryd.func60, Tryd.ntmps60
        go_wp2_with fail
        refine (hsp _).mono ?_
        rintro e W ⟨rfl, rfl⟩
        go_wp2_with fail
        go_region_held3 (fun _ => True) (first | trivial | go_keep)
          (first | (go_at_call 60; refine (ih1 _ (by repeat (with_reducible first | assumption | refine Keeps.drew ?_ | refine Keeps.drewN ?_ _ | refine Keeps.alloc ?_ _ | exact Grow.keeps (by assumption)))).mono ?_; rintro e w1 ⟨A1, c1, rfl, hb1, hown1⟩; have hk1 : Keeps D w1 := Keeps.below (by repeat (with_reducible first | assumption | refine Keeps.drew ?_ | refine Keeps.drewN ?_ _ | refine Keeps.alloc ?_ _ | exact Grow.keeps (by assumption))) hb1 (Nat.le_refl _); have hbel1 : Below w.heap.size w w1 := belowVia hb1 (by repeat (first | (with_reducible exact Below.refl _ _) | (with_reducible refine Below.drew ?_) | (with_reducible refine belowDrewN ?_ _) | (with_reducible refine belowAlloc ?_ _) | ((with_reducible refine belowSet2 ?_ ?_); omega) | (with_reducible assumption) | (with_reducible refine belowVia (by assumption) ?_) | (with_reducible refine belowVia (Grow.below (by assumption)) ?_))); have hown1' := own_baseN (base' := w.heap.size) hown1 (Nat.le_refl _)) | (go_at_call 24; refine (HTC.out _ (by repeat (with_reducible first | assumption | refine Keeps.drew ?_ | refine Keeps.drewN ?_ _ | refine Keeps.alloc ?_ _ | exact Grow.keeps (by assumption)))).mono ?_; rintro e w2 ⟨rfl, hb2⟩; obtain ⟨A5, c5, w5, hrun5, hown5, hG5⟩ := app_step r hT32.out hk hown1' (Grow.of_below hk hbel1) hb2 (by omega)) | (refine step_append_run _ rfl _ _ 30 30 rfl _ _ rfl rfl _ _ hrun5 ?_))
        all_goals
          go_wp2_with fail
          go_ret
          exact ⟨A5, c5, rfl, hG5.below, hown5⟩
      · have e := pathF_hi (tagB sh) (l := ds) (at_ := a) (by rw [← HN.out]; exact h2) (by rw [← HN.out]; exact hlo)
        rw [← HN.out] at e
        rw [e] at hL40 ⊢
        clear e
        have ih1 := fun W hk => ih (n - half n) (by omega) _ _ _ _ (a - half n) D W hk hds2 (by omega) (Nat.le_refl _) (by omega)
        have HTC := Lib.hid (fun W hk => rtree_c hs (half n) _ _ _ _ D W hk hds1 (Nat.le_refl _) (by omega))
        have hT32 := Lib.hid (treeF_len hs (ds.take (half n)))
        have hlo' : ¬ ((a : Int) < (half n : Int)) := by omega
        have e1 : ((a - half n : Nat) : Int) = (a : Int) - (half n : Int) := by omega
        have hwr : IntKind.i64.wrap ((a : Int) - (half n : Int)) = (a : Int) - (half n : Int) := by rw [IntKind.wrap_i64]; omega
        simp only [e1] at ih1
        clear e1
        generalize treeF (tagB sh) (ds.take (half n)) = r at *
        generalize pathF (tagB sh) (ds.drop (half n)) (a - half n) = p1 at *
        rw [List.length_append] at hL40 ⊢
        simp only [List.length_cons, List.length_nil, Nat.zero_add] at hL40 ⊢
        generalize half n = k at *
        rw [dg_darr r hT32.out] at HTC
        have hs32 : (darr r).size = 32 := darr_size r (by rw [hT32.out]; omega)
        have hfz := foldz r hT32.out
        clear ih
        go_enter Tryd.func60, Tryd.ntmps60
        go_wp2_with fail
        refine (hsp _).mono ?_
        rintro e W ⟨rfl, rfl⟩
        go_wp2_with fail
        go_region_held3 (fun _ => True) (first | trivial | go_keep)
          (first | (go_at_call 60; refine (ih1 _ (by repeat (with_reducible first | assumption | refine Keeps.drew ?_ | refine Keeps.drewN ?_ _ | refine Keeps.alloc ?_ _ | exact Grow.keeps (by assumption)))).mono ?_; rintro e w1 ⟨A1, c1, rfl, hb1, hown1⟩; have hk1 : Keeps D w1 := Keeps.below (by repeat (with_reducible first | assumption | refine Keeps.drew ?_ | refine Keeps.drewN ?_ _ | refine Keeps.alloc ?_ _ | exact Grow.keeps (by assumption))) hb1 (Nat.le_refl _); have hbel1 : Below w.heap.size w w1 := belowVia hb1 (by repeat (first | (with_reducible exact Below.refl _ _) | (with_reducible refine Below.drew ?_) | (with_reducible refine belowDrewN ?_ _) | (with_reducible refine belowAlloc ?_ _) | ((with_reducible refine belowSet2 ?_ ?_); omega) | (with_reducible assumption) | (with_reducible refine belowVia (by assumption) ?_) | (with_reducible refine belowVia (Grow.below (by assumption)) ?_))); have hown1' := own_baseN (base' := w.heap.size) hown1 (Nat.le_refl _)) | (go_at_call 24; refine (HTC.out _ (by repeat (with_reducible first | assumption | refine Keeps.drew ?_ | refine Keeps.drewN ?_ _ | refine Keeps.alloc ?_ _ | exact Grow.keeps (by assumption)))).mono ?_; rintro e w2 ⟨rfl, hb2⟩; obtain ⟨A5, c5, w5, hrun5, hown5, hG5⟩ := app_step r hT32.out hk hown1' (Grow.of_below hk hbel1) hb2 (by omega)) | (refine step_append_run _ rfl _ _ 30 30 rfl _ _ rfl rfl _ _ hrun5 ?_))
        all_goals
          go_wp2_with fail
          go_ret
          exact ⟨A5, c5, rfl, hG5.below, hown5⟩
    · obtain rfl : n = 1 := by omega
      rw [pathF_one _ _ (by rw [← HN.out]; omega)]
      have hown0 := own_e0 (s := 32) (e := 26) (Nat.le_refl w.heap.size) (heap_alloc_new w (.cells #[] 26))
      clear ih
      go_enter Tryd.func60, Tryd.ntmps60
      go_wp2_with fail
      go_ret
      exact ⟨_, _, rfl, (by repeat (first | (with_reducible exact Below.refl _ _) | (with_reducible refine Below.drew ?_) | (with_reducible refine belowDrewN ?_ _) | (with_reducible refine belowAlloc ?_ _) | ((with_reducible refine belowSet2 ?_ ?_); omega) | (with_reducible assumption) | (with_reducible refine belowVia (by assumption) ?_) | (with_reducible refine belowVia (Grow.below (by assumption)) ?_))), hown0⟩
/-- what Path returns. -/
def pathR (sh : List UInt8 → List UInt8) (ds : List Dg) (at_ : Int) : List Dg × Int :=
  if 0 ≤ at_ ∧ at_ < ds.length then (pathF (tagB sh) ds at_.toNat, 0) else ([], 1)
theorem pathF_all {sh : List UInt8 → List UInt8} (hs : Sh sh) : ∀ (n : Nat) (ds : List Dg) (a : Nat), ds.length = n → ∀ d ∈ pathF (tagB sh) ds a, d.length = 32 := by
  intro n
  induction n using Nat.strongRecOn with
  | ind n ih =>
    intro ds a hl d hd
    by_cases h2 : 2 ≤ ds.length
    · have h3 := half_lt h2
      have h4 := half_pos ds.length
      by_cases hlo : a < half ds.length
      · rw [pathF_lo _ h2 hlo] at hd
        rcases List.mem_append.1 hd with h | h
        · exact ih (half ds.length) (by omega) _ _ (by simp; omega) d h
        · rw [List.mem_singleton.1 h]; exact treeF_len hs _
      · rw [pathF_hi _ h2 hlo] at hd
        rcases List.mem_append.1 hd with h | h
        · exact ih (ds.length - half ds.length) (by omega) _ _ (by simp) d h
        · rw [List.mem_singleton.1 h]; exact treeF_len hs _
    · rw [pathF_one _ _ (by omega)] at hd
      simp at hd
set_option maxRecDepth 100000 in
set_option maxHeartbeats 1000000 in
theorem rpathR_c {sh : List UInt8 → List UInt8} (hs : Sh sh) (A : Option Addr) (n c : Nat) (ds : List (List UInt8)) (at_ : Int) (D : Gh) (w : World) (hk : Keeps D w) (hd : DS D (.slice A n c) ds) (hn : n ≤ 1000000) :
    Calls Tryd.prog 26 #[.slice A n c, .int .i64 at_] w fun e w' => ∃ A' c' D', e = .returned (.tuple #[.slice A' (pathR sh ds at_).1.length c', .int .i64 (pathR sh ds at_).2]) ∧ Grow w D w' D' ∧ DS D' (.slice A' (pathR sh ds at_).1.length c') (pathR sh ds at_).1 := by
  obtain ⟨hnl, hnc, hcm⟩ := hd.len
  by_cases h : 0 ≤ at_ ∧ at_ < ds.length
  · have HR : pathR sh ds at_ = (pathF (tagB sh) ds at_.toNat, 0) := by unfold pathR; rw [if_pos h]
    rw [HR]
    obtain ⟨a, rfl⟩ := Int.eq_ofNat_of_zero_le h.1
    have hall := pathF_all hs _ ds a rfl
    simp only [Int.toNat_natCast]
    have hrp := rpath_c hs n A n c ds a D w hk hd (by omega) (Nat.le_refl _) hn
    generalize pathF (tagB sh) ds a = P at *
    have g1 : decide ((a : Int) < 0) = false := by simp
    have g2 : decide ((n : Int) ≤ (a : Int)) = false := by simp; omega
    have g3 : decide (n ≤ a) = false := by simp; omega
    have HALL := Lib.hid hall
    clear hall hnl h HR
    go_enter Tryd.func26, Tryd.ntmps26
    go_wp2_with fail
    refine hrp.mono ?_
    rintro e w1 ⟨A1, c1, rfl, hb1, hown1⟩
    obtain ⟨D2, hG2, _, hs2, _⟩ := (Grow.of_below hk hb1).pubN hown1 (Nat.le_refl _) (fun g h => hk.offNew (hown1.lt g h).1)
    go_wp2
    go_ret2
    exact ⟨A1, c1, D2, rfl, hG2, HALL.out, hs2⟩
  · have HR : pathR sh ds at_ = ([], 1) := by unfold pathR; rw [if_neg h]
    rw [HR]
    have HD := Lib.hid (DS.nil D)
    by_cases h1 : at_ < 0
    · have g1 : decide (at_ < 0) = true := by simp; omega
      clear h hnl
      go_enter Tryd.func26, Tryd.ntmps26
      go_wp2
      go_ret2
      first | exact ⟨none, 0, D, rfl, Grow.refl hk, HD.out⟩ | exact ⟨none, 0, rfl, D, Grow.refl hk, HD.out⟩
    · have g1 : decide (at_ < 0) = false := by simp; omega
      have g2 : decide ((n : Int) ≤ at_) = true := by simp; omega
      clear h hnl
      go_enter Tryd.func26, Tryd.ntmps26
      go_wp2
      go_ret2
      first | exact ⟨none, 0, D, rfl, Grow.refl hk, HD.out⟩ | exact ⟨none, 0, rfl, D, Grow.refl hk, HD.out⟩
set_option maxRecDepth 100000 in
set_option maxHeartbeats 1000000 in
theorem pathR_c {sh : List UInt8 → List UInt8} (hs : Sh sh) (A : Option Addr) (n c : Nat) (ds : List (List UInt8)) (at_ : Int) (D : Gh) (w : World) (hk : Keeps D w) (hT : Tab D) (hd : DS D (.slice A n c) ds) (hn : n ≤ 1000000) :
    Calls Tryd.prog 25 #[.slice A n c, .int .i64 at_] w fun e w' => ∃ A' c' D', e = .returned (.tuple #[.slice A' (pathR sh ds at_).1.length c', .int .i64 (pathR sh ds at_).2]) ∧ Grow w D w' D' ∧ DS D' (.slice A' (pathR sh ds at_).1.length c') (pathR sh ds at_).1 := by
  obtain ⟨hnl, hnc, hcm⟩ := hd.len
  by_cases h : 0 ≤ at_ ∧ at_ < ds.length
  · have HR : pathR sh ds at_ = (pathF (tagB sh) ds at_.toNat, 0) := by unfold pathR; rw [if_pos h]
    rw [HR]
    obtain ⟨a, rfl⟩ := Int.eq_ofNat_of_zero_le h.1
    exact path_ok hs A n c ds a D w hk hT hd hn (by omega)
  · have HR : pathR sh ds at_ = ([], 1) := by unfold pathR; rw [if_neg h]
    rw [HR]
    have HD := Lib.hid (DS.nil D)
    by_cases h1 : at_ < 0
    · have g1 : decide (at_ < 0) = true := by simp; omega
      clear h hnl
      go_enter Tryd.func25, Tryd.ntmps25
      go_wp2
      go_ret2
      first | exact ⟨none, 0, D, rfl, Grow.refl hk, HD.out⟩ | exact ⟨none, 0, rfl, D, Grow.refl hk, HD.out⟩
    · have g1 : decide (at_ < 0) = false := by simp; omega
      have g2 : decide ((n : Int) ≤ at_) = true := by simp; omega
      clear h hnl
      go_enter Tryd.func25, Tryd.ntmps25
      go_wp2
      go_ret2
      first | exact ⟨none, 0, D, rfl, Grow.refl hk, HD.out⟩ | exact ⟨none, 0, rfl, D, Grow.refl hk, HD.out⟩
end Go.Proofs.YtohknemfcohhfaaDoor
