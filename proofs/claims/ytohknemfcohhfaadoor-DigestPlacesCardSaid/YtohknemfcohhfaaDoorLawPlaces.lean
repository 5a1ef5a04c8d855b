/-
  What is proved here: DigestPlaces, the walk: it returns true.
-/
import Derived.Test.YtohknemfcohhfaaDoorRows
import Derived.Test.YtohknemfcohhfaaDoorBaseC
import Derived.Test.YtohknemfcohhfaaDoorSha
import Derived.Test.YtohknemfcohhfaaDoorDigA
import Derived.Test.YtohknemfcohhfaaDoorDigC
import Derived.Test.YtohknemfcohhfaaDoorDigD
import Derived.Test.YtohknemfcohhfaaDoorDigE
import Derived.Test.YtohknemfcohhfaaDoorDigF
import Derived.Test.YtohknemfcohhfaaDoorDigG
import Derived.Test.YtohknemfcohhfaaDoorDigH
import Derived.Test.YtohknemfcohhfaaDoorDigI
import Derived.Test.YtohknemfcohhfaaDoorDigJ
import Derived.Test.YtohknemfcohhfaaDoorDigK
import Derived.Test.YtohknemfcohhfaaDoorDigL
import Derived.Test.YtohknemfcohhfaaDoorDigM
import Derived.Test.YtohknemfcohhfaaDoorDigN
import Derived.Test.YtohknemfcohhfaaDoorDigO
import Derived.Test.YtohknemfcohhfaaDoorDigP
import Derived.Test.YtohknemfcohhfaaDoorDigQ
import Derived.Test.YtohknemfcohhfaaDoorDigR
import Derived.Test.YtohknemfcohhfaaDoorDigS
import Derived.Test.YtohknemfcohhfaaDoorDigT
import Derived.Test.YtohknemfcohhfaaDoorLawTags
import Derived.Test.YtohknemfcohhfaaDoorTree
import Derived.Test.YtohknemfcohhfaaDoorShelf
import Derived.Lib.ConvBytes
import Derived.StillTailTactics
import Derived.Lib.AppendZerosOnto
import Derived.Deep.RegionHeld3
import Derived.Stop.BytesEq
import Derived.Great.BuildSlice
import Derived.Deep.MidRow
import Derived.Deep.RegionLaw
import Derived.Deep.DeepCutAuto
import Derived.Deep.QuietTactic
import Derived.BigQuiet
import Derived.Laws.EntriesVeiled
namespace Go.Proofs.YtohknemfcohhfaaDoor
open Go.RowKit Go.VS
theorem i64_mask10 (n : Int) : bits .and .i64 n 1023 = n % 1024 := by
  have hm : (BitVec.ofInt 64 1023).toNat = 2 ^ 10 - 1 := by decide
  have key : (BitVec.ofInt 64 n &&& BitVec.ofInt 64 1023).toNat = (n % ((2 ^ 64 : Nat) : Int)).toNat % 2 ^ 10 := by
    rw [BitVec.toNat_and, BitVec.toNat_ofInt, hm, Nat.and_two_pow_sub_one_eq_mod]
  show IntKind.i64.wrap ((BitVec.ofInt 64 n &&& BitVec.ofInt 64 1023).toNat : Nat) = n % 1024
  rw [key, IntKind.wrap_i64]
  omega
/-- (i & 1023) % m. -/
theorem idx_of (i : Int) (m : Nat) (hm : 0 < m) : ∃ a : Nat, (bits .and .i64 i 1023).tmod (m : Int) = (a : Int) ∧ a < m := by
  rw [i64_mask10]
  have h0 := Int.emod_nonneg i (show (1024 : Int) ≠ 0 by decide)
  rw [Int.tmod_eq_emod_of_nonneg h0]
  have h1 := Int.emod_nonneg (i % 1024) (show (m : Int) ≠ 0 by omega)
  have h2 := Int.emod_lt_of_pos (i % 1024) (show (0 : Int) < (m : Int) by omega)
  exact ⟨((i % 1024) % (m : Int)).toNat, by omega, by omega⟩
theorem parts_take (p q : List Dg) : ∀ (x : Nat), x < p.length → x < q.length → parts (p.take (x + 1)) (q.take (x + 1)) = parts (p.take x) (q.take x) + (if p.getD x [] = q.getD x [] then 0 else 1) := by
  intro x h1 h2
  rw [List.take_add_one, List.take_add_one, List.getElem?_eq_getElem h1, List.getElem?_eq_getElem h2]
  simp only [Option.toList_some]
  rw [parts_concat _ _ _ _ (by simp; omega)]
  simp [List.getD, List.getElem?_eq_getElem h1, List.getElem?_eq_getElem h2]
/-- append onto a new slice literal of no elements. -/
theorem app_lit {w W : World} {D : Gh} (hk : Keeps D w) (hG : Grow w D W D) (A : Option Addr) (m c : Nat) (ds : List (List UInt8)) (hd : DS D (.slice A m c) ds) (hm : m ≤ 100000) :
    ∃ A' c' w', (Builtin.append_ #[30, 30] 30 #[.slice (some ⟨W.heap.size, 0, none⟩) 0 0, .slice A m c]).run Tryd.prog (W.alloc (.cells #[] 26)) = .ok (.slice A' m c') w' ∧ w'.ownsRow w.heap.size 26 32 (.slice A' m c') m (flat ds) ∧ Grow w D w' D := by
  obtain ⟨hl, _, _⟩ := hd.len
  have hown : (W.alloc (.cells #[] 26)).ownsRow w.heap.size 26 32 (.slice (some ⟨W.heap.size, 0, none⟩) 0 0) 0 [] := own_emptyN hG.below.size (heap_alloc_new W _)
  have hG1 := hG.alloc (.cells #[] 26)
  obtain ⟨A', c', w', hrun, hown', hg, _⟩ := run_append_dg (W.alloc (.cells #[] 26)) hown D hG1.keeps A m c ds (by rw [hl]; exact hl ▸ hd.2) (by omega) (by have := hG.below.size; simp; omega)
  simp only [Nat.zero_add, List.nil_append] at hrun hown'
  exact ⟨A', c', w', hrun, hown', hG1.row hg (fun k h => (hown.lt k h).1) (fun k h => hk.offNew (hown.lt k h).1)⟩
theorem oneD32 (d : List UInt8) : (d.map bv).toArray.all (·.oneCell') = true := all_oneCell_toArray (bv_one d)
set_option maxRecDepth 100000 in
set_option maxHeartbeats 1000000 in
theorem places_walk {sh : List UInt8 → List UInt8} (hs : Sh sh) (A : Option Addr) (n c : Nat) (bs : List UInt8) (iv kv : Int) (d : List UInt8) (hd32 : d.length = 32) (D : Gh) (w : World) (hk : Keeps D w) (hT : Tab D) (hb : BS D (.slice A n c) bs) :
    Calls Tryd.prog 8 #[.slice A n c, .int .i64 iv, .int .i64 kv, dg d] w fun e w' => e = .returned (.bool true) ∧ Below w.heap.size w w' := by
  rw [dg_darr d hd32]
  have hB0 := Box.new2 hk rfl 26 (darr d)
  have hbel0 : Below w.heap.size w (w.alloc (.cells (darr d) 26)) := (by repeat (first | (with_reducible exact Below.refl _ _) | (with_reducible refine Below.drew ?_) | (with_reducible refine belowDrewN ?_ _) | (with_reducible refine belowAlloc ?_ _) | ((with_reducible refine belowSet2 ?_ ?_); omega) | (with_reducible assumption) | (with_reducible refine belowVia (by assumption) ?_) | (with_reducible refine belowVia (Grow.below (by assumption)) ?_)))
  have hk0 := hk.alloc (.cells (darr d) 26)
  have HSA := Lib.hid (sane27_c hs D (w.alloc (.cells (darr d) 26)) hk0 hT)
  go_enter Tryd.func8, Tryd.ntmps8
  go_wp2_with fail
  refine HSA.out.mono ?_
  rintro e w1 ⟨rfl, hb1⟩
  have hk1 := hk0.below hb1 (Nat.le_refl _)
  have hB1 := hB0.below hb1 hB0.lt
  have hbel1 := belowVia hb1 hbel0
  clear HSA hB0 hk0 hb1 hbel0
  go_wp2_with fail
  refine (digestsOf_c A n c bs D w1 hk1 hb).mono ?_
  rintro e w2 ⟨A2, c2, D2, rfl, hG2, hds⟩
  have hT2 := hT.le hG2.le
  have hbel2 : Below w.heap.size w w2 := belowVia hG2.below hbel1
  have hB2 := hB1.grow hG2
  have hk2 := hG2.keeps
  have hl40 : (lD bs).length ≤ 40 := by rw [lD_len]; omega
  generalize lD bs = ds at *
  obtain ⟨m, hm⟩ : ∃ m, m = ds.length := ⟨_, rfl⟩
  rw [← hm] at hl40 hds ⊢
  have HM := Lib.hid hm
  clear hm hk1 hB1 hbel1 hG2
  by_cases h2 : m < 2
  · have g1 : (m : Int) < 2 := by omega
    go_wp2
    go_ret
    exact ⟨rfl, hbel2⟩
  have g1 : ¬ ((m : Int) < 2) := by omega
  have gm0 : ¬ ((m : Int) = 0) := by omega
  obtain ⟨i, hiE, hi⟩ := idx_of iv m (by omega)
  obtain ⟨k, hkE, hkm⟩ := idx_of kv m (by omega)
  have gd : decide ((m : Int) < 2) = false := by simp; omega
  go_wp2_with fail
  go_quiet (fail)
  have hk3 := hk2.drewN nq
  have hB3 := hB2.drewN nq
  have hbel3 := belowDrewN hbel2 nq
  generalize w2.drewN nq = w3 at *
  clear hk2 hB2 hbel2
  by_cases hik : i = k
  · subst hik
    go_wp2
    go_ret
    exact ⟨rfl, hbel3⟩
  have gik : ((i : Int) == (k : Int)) = false := by simp; omega
  have gik2 : ¬ ((i : Int) = (k : Int)) := by omega
  have HIK := Lib.hid hik
  clear hik
  obtain ⟨A4, c4, w4, hrun4, hown4, hG4⟩ := app_lit hk3 (Grow.refl hk3) A2 m c2 ds hds (by omega)
  obtain ⟨g, rfl⟩ : ∃ g, A4 = some ⟨g, 0, none⟩ := by
    rcases hown4.2 with ⟨_, h0⟩ | ⟨g, cap, cur, hv, _⟩
    · omega
    · injection hv with hv _ _; exact ⟨g, hv⟩
  have hB4 := hB3.grow hG4
  have hall := hds.1
  obtain ⟨hown5, hg5⟩ := row_store2 hown4 hall HM.out.symm k (by rw [← HM.out]; exact hkm) d hd32
  have hth := row_there hown4 HM.out.symm k (by rw [← HM.out]; exact hkm)
  have hG5 := hG4.row hg5 (fun k h => (hown4.lt k h).1) (fun k h => hk3.offNew (hown4.lt k h).1)
  obtain ⟨D5, hG6, hle6, hsl6, hoff6⟩ := hG5.pubN hown5 (Nat.le_refl _) (fun g h => hk3.offNew (hown5.lt g h).1)
  have hall6 : ∀ p ∈ ds.set k d, p.length = 32 := fun p hp => by
    rcases List.mem_or_eq_of_mem_set hp with h | h
    · exact hall p h
    · rw [h]; exact hd32
  have hds6 : DS D5 (.slice (some ⟨g, 0, none⟩) m c4) (ds.set k d) := ⟨hall6, by rw [List.length_set, ← HM.out]; exact hsl6⟩
  have hsz := sz26 d hd32
  have hdf := Lib.hid (darr_full d hd32)
  have hth' : w4.there g (k * 32) (darr d).size := by rw [darr_size d (by omega)]; exact hth
  have hone : (darr d).all (·.oneCell') = true := darr_one d
  have HW5 := Lib.hid (show w4.setCells g (k * 32) (darr d).toList = w4.setCells g (k * 32) (d.map bv) by rw [hdf.out])
  have hk0 : (0 : Int) ≤ (k : Int) := by omega
  have hk1 : (k : Int) < (m : Int) := by omega
  clear hown4 hown5 hg5 hG5 hsl6 hoff6 hth hall6 hB3
  go_wp2_with (first | (at_builtin; refine Lib.wpList_append_run _ rfl _ _ 30 30 rfl _ _ rfl rfl _ _ hrun4 ?_) | (refine wpList_load_row rfl 26 _ rfl w.heap.size rfl 26 _ (0, 0) _ hB4.heap Tryd.underlying26 rfl hsz ?_) | (refine wpList_store_mid rfl 26 _ _ rfl g (k * 32) (darr d) rfl rfl hth' hsz hone ?_; rw [HW5.out]))
  have hT5 := hT2.le hG6.le
  refine (path_ok hs _ _ _ ds i D5 _ hG6.keeps hT5 (hds.le hG6.le) (by omega) hi).mono ?_
  rintro e w5 ⟨A5, c5, D6, rfl, hG7, hp⟩
  go_wp2_with fail
  refine (path_ok hs _ _ _ (ds.set k d) i D6 _ hG7.keeps (hT5.le hG7.le) (hds6.le hG7.le) (by omega) hi).mono ?_
  rintro e w6 ⟨A6, c6, D7, rfl, hG8, hq⟩
  have hbel6 := belowVia hG8.below (belowVia hG7.below (belowVia hG6.below hbel3))
  have hp7 := hp.le hG8.le
  have hk7 := hG8.keeps
  have hpl : (pathF (tagB sh) ds i).length ≤ 40 := by rw [pathF_len _ _ _ _ rfl]; exact lenF_le 40 _ _ (by rw [← HM.out]; omega)
  have hql : (pathF (tagB sh) (ds.set k d) i).length = (pathF (tagB sh) ds i).length := by rw [pathF_len _ _ _ _ rfl, pathF_len _ _ _ _ rfl, List.length_set]
  have hparts := places (tagB sh) m ds i k d HM.out.symm HIK.out
  generalize pathF (tagB sh) ds i = P at *
  generalize pathF (tagB sh) (ds.set k d) i = Q at *
  rw [hql] at hq ⊢
  obtain ⟨L, hL⟩ : ∃ L, L = P.length := ⟨_, rfl⟩
  rw [← hL] at hql hp hp7 hq hpl ⊢
  have HLP := Lib.hid hL
  have HLQ := Lib.hid hql
  have HPARTS := Lib.hid hparts
  clear hL hql hparts hp hG6 hG7 hG8 hds6 hrun4 hle6 hG4 hB4 hth' HW5 hdf hone hsz
  go_wp2_with fail
  go_loopw [15, 71] (fun cnt y wr => ∃ x : Nat, y = .int .i64 x ∧ cnt = .int .i64 (parts (P.take x) (Q.take x) : Nat) ∧ x ≤ L ∧ Below w6.heap.size w6 wr ∧ Keeps D7 wr) (fun _ y _ => 40 - (intOf y).toNat)
  case atStart => exact ⟨0, rfl, rfl, by omega, Below.refl _ _, hk7⟩
  case round =>
    obtain ⟨x, rfl, rfl, hxL, hbr, hkr⟩ := hrel
    by_cases hx : x < L
    · have g1' : (x : Int) < (L : Int) := by omega
      have gx0 : (0 : Int) ≤ (x : Int) := by omega
      obtain ⟨b1, o1, rfl, h321, hr1⟩ := ds_range hp7 hkr (k := x) (by rw [← HLP.out]; exact hx)
      obtain ⟨b2, o2, rfl, h322, hr2⟩ := ds_range hq hkr (k := x) (by rw [HLQ.out]; exact hx)
      have hst := Lib.hid (parts_take P Q x (by rw [← HLP.out]; exact hx) (by rw [HLQ.out]; exact hx))
      have e1 : P.getD x [] = P[x]'(by rw [← HLP.out]; exact hx) := by simp [List.getD, List.getElem?_eq_getElem (show x < P.length by rw [← HLP.out]; exact hx)]
      have e2 : Q.getD x [] = Q[x]'(by rw [HLQ.out]; exact hx) := by simp [List.getD, List.getElem?_eq_getElem (show x < Q.length by rw [HLQ.out]; exact hx)]
      rw [e1, e2] at hst
      clear e1 e2
      have hle : parts (P.take x) (Q.take x) ≤ 40 := by
        have : ∀ (p q : List Dg), parts p q ≤ p.length := by
          intro p
          induction p with
          | nil => intro q; simp [parts]
          | cons a p ih => intro q; cases q with
            | nil => simp [parts]
            | cons b q => have := ih q; simp only [parts, List.length_cons]; split <;> omega
        have h := this (P.take x) (Q.take x)
        rw [List.length_take] at h
        omega
      generalize parts (P.take x) (Q.take x) = cn at *
      generalize P[x]'(by rw [← HLP.out]; exact hx) = p at *
      generalize Q[x]'(by rw [HLQ.out]; exact hx) = q at *
      rw [Nat.mul_comm] at hr1 hr2
      have hu26 := Tryd.underlying26
      have hs1 := sz26l p h321
      have hs2 := sz26l q h322
      have heq : ∀ W, (Op.equalIn 10000 26 (.agg (p.map bv).toArray) (.agg (q.map bv).toArray)).run Tryd.prog W = .ok (p == q) W := fun W => by
        have := eq26 p q h321 h322 W
        rwa [darr_full p h321, darr_full q h322] at this
      have hrd1 : wr.drew.rangeAt b1 (o1 + x * 32) (p.map bv) := hr1
      have hrd2 : wr.drew.rangeAt b2 (o2 + x * 32) (q.map bv) := hr2
      clear h321 h322 hr1 hr2
      have hcn1 : IntKind.i64.wrap ((cn : Int) + 1) = ((cn + 1 : Nat) : Int) := by rw [IntKind.wrap_i64]; omega
      by_cases hpq : p = q
      · have hb : (p == q) = true := by simp [hpq]
        rw [if_pos hpq, Nat.add_zero] at hst
        rw [hb] at heq
        have HST := hst
        clear hst hpq hb
        go_wp2_with fail
        refine wp_region_held_drew (S := fun W => W.rangeAt b1 (o1 + x * 32) (p.map bv) ∧ W.rangeAt b2 (o2 + x * 32) (q.map bv)) (by kernel_rfl) ⟨hrd1, hrd2⟩ (fun hHeld => ?_)
        refine wpAnyH_take (i := 0) (v := (.slice (some ⟨b1, o1, none⟩) L c5)) rfl (by kernel_rfl) (by kernel_rfl) (by kernel_rfl) (fun _ _ _ h => h) (Or.inl ⟨by rfl, fun w _ => by go_simp⟩) hHeld ?_
        simp only [Act.put, List.getElem_toArray, List.getElem_cons_zero, List.setIfInBounds_toArray, List.set_cons_zero, List.set_cons_succ]
        refine wpAnyH_take (i := 1) (v := (.int .i64 x)) rfl (by kernel_rfl) (by kernel_rfl) (by kernel_rfl) (fun _ _ _ h => h) (Or.inl ⟨by rfl, fun w _ => by go_simp⟩) hHeld ?_
        simp only [Act.put, List.getElem_toArray, List.getElem_cons_zero, List.getElem_cons_succ, List.setIfInBounds_toArray, List.set_cons_zero, List.set_cons_succ]
        refine wpAnyH_take (i := 2) (v := (.pointer (some ⟨b1, o1 + x * 32, none⟩))) rfl (by kernel_rfl) (by kernel_rfl) (by kernel_rfl) (fun _ _ _ h => h) (Or.inl ⟨by rfl, fun w _ => by go_simp⟩) hHeld ?_
        simp only [Act.put, List.getElem_toArray, List.getElem_cons_zero, List.getElem_cons_succ, List.setIfInBounds_toArray, List.set_cons_zero, List.set_cons_succ]
        refine wpAnyH_take (i := 3) (v := (.agg (p.map bv).toArray)) rfl (by kernel_rfl) (by kernel_rfl) (by kernel_rfl) (fun _ _ _ h => h) (yieldsIf_load_mid (by rfl) _ _ rfl _ _ rfl _ _ (fun w h => h.1) hu26 rfl hs1) hHeld ?_
        simp only [Act.put, List.getElem_toArray, List.getElem_cons_zero, List.getElem_cons_succ, List.setIfInBounds_toArray, List.set_cons_zero, List.set_cons_succ]
        refine wpAnyH_take (i := 4) (v := (.slice (some ⟨b2, o2, none⟩) L c6)) rfl (by kernel_rfl) (by kernel_rfl) (by kernel_rfl) (fun _ _ _ h => h) (Or.inl ⟨by rfl, fun w _ => by go_simp⟩) hHeld ?_
        simp only [Act.put, List.getElem_toArray, List.getElem_cons_zero, List.getElem_cons_succ, List.setIfInBounds_toArray, List.set_cons_zero, List.set_cons_succ]
        refine wpAnyH_take (i := 5) (v := (.int .i64 x)) rfl (by kernel_rfl) (by kernel_rfl) (by kernel_rfl) (fun _ _ _ h => h) (Or.inl ⟨by rfl, fun w _ => by go_simp⟩) hHeld ?_
        simp only [Act.put, List.getElem_toArray, List.getElem_cons_zero, List.getElem_cons_succ, List.setIfInBounds_toArray, List.set_cons_zero, List.set_cons_succ]
        refine wpAnyH_take (i := 6) (v := (.pointer (some ⟨b2, o2 + x * 32, none⟩))) rfl (by kernel_rfl) (by kernel_rfl) (by kernel_rfl) (fun _ _ _ h => h) (Or.inl ⟨by rfl, fun w _ => by go_simp⟩) hHeld ?_
        simp only [Act.put, List.getElem_toArray, List.getElem_cons_zero, List.getElem_cons_succ, List.setIfInBounds_toArray, List.set_cons_zero, List.set_cons_succ]
        refine wpAnyH_take (i := 7) (v := (.agg (q.map bv).toArray)) rfl (by kernel_rfl) (by kernel_rfl) (by kernel_rfl) (fun _ _ _ h => h) (yieldsIf_load_mid (by rfl) _ _ rfl _ _ rfl _ _ (fun w h => h.2) hu26 rfl hs2) hHeld ?_
        simp only [Act.put, List.getElem_toArray, List.getElem_cons_zero, List.getElem_cons_succ, List.setIfInBounds_toArray, List.set_cons_zero, List.set_cons_succ]
        refine wpAnyH_take (i := 8) (v := (.bool false)) rfl (by kernel_rfl) (by kernel_rfl) (by kernel_rfl) (fun _ _ _ h => h) (Or.inl ⟨by rfl, fun w _ => by go_simp⟩) hHeld ?_
        simp only [Act.put, List.getElem_toArray, List.getElem_cons_zero, List.getElem_cons_succ, List.setIfInBounds_toArray, List.set_cons_zero, List.set_cons_succ]
        refine wpAnyH_done (by kernel_rfl) ?_ _
        go_wp2_with fail
        go_roundw
        case rel => exact ⟨x + 1, by go_num, by rw [HST.out, Nat.add_zero], by omega, hbr.drew, hkr.drew⟩
        case measure => simp [intOf]; omega
      · have hb : (p == q) = false := by simp [hpq]
        rw [if_neg hpq] at hst
        rw [hb] at heq
        have HST := hst
        clear hst hpq hb
        go_wp2_with fail
        refine wp_region_held_drew (S := fun W => W.rangeAt b1 (o1 + x * 32) (p.map bv) ∧ W.rangeAt b2 (o2 + x * 32) (q.map bv)) (by kernel_rfl) ⟨hrd1, hrd2⟩ (fun hHeld => ?_)
        refine wpAnyH_take (i := 0) (v := (.slice (some ⟨b1, o1, none⟩) L c5)) rfl (by kernel_rfl) (by kernel_rfl) (by kernel_rfl) (fun _ _ _ h => h) (Or.inl ⟨by rfl, fun w _ => by go_simp⟩) hHeld ?_
        simp only [Act.put, List.getElem_toArray, List.getElem_cons_zero, List.setIfInBounds_toArray, List.set_cons_zero, List.set_cons_succ]
        refine wpAnyH_take (i := 1) (v := (.int .i64 x)) rfl (by kernel_rfl) (by kernel_rfl) (by kernel_rfl) (fun _ _ _ h => h) (Or.inl ⟨by rfl, fun w _ => by go_simp⟩) hHeld ?_
        simp only [Act.put, List.getElem_toArray, List.getElem_cons_zero, List.getElem_cons_succ, List.setIfInBounds_toArray, List.set_cons_zero, List.set_cons_succ]
        refine wpAnyH_take (i := 2) (v := (.pointer (some ⟨b1, o1 + x * 32, none⟩))) rfl (by kernel_rfl) (by kernel_rfl) (by kernel_rfl) (fun _ _ _ h => h) (Or.inl ⟨by rfl, fun w _ => by go_simp⟩) hHeld ?_
        simp only [Act.put, List.getElem_toArray, List.getElem_cons_zero, List.getElem_cons_succ, List.setIfInBounds_toArray, List.set_cons_zero, List.set_cons_succ]
        refine wpAnyH_take (i := 3) (v := (.agg (p.map bv).toArray)) rfl (by kernel_rfl) (by kernel_rfl) (by kernel_rfl) (fun _ _ _ h => h) (yieldsIf_load_mid (by rfl) _ _ rfl _ _ rfl _ _ (fun w h => h.1) hu26 rfl hs1) hHeld ?_
        simp only [Act.put, List.getElem_toArray, List.getElem_cons_zero, List.getElem_cons_succ, List.setIfInBounds_toArray, List.set_cons_zero, List.set_cons_succ]
        refine wpAnyH_take (i := 4) (v := (.slice (some ⟨b2, o2, none⟩) L c6)) rfl (by kernel_rfl) (by kernel_rfl) (by kernel_rfl) (fun _ _ _ h => h) (Or.inl ⟨by rfl, fun w _ => by go_simp⟩) hHeld ?_
        simp only [Act.put, List.getElem_toArray, List.getElem_cons_zero, List.getElem_cons_succ, List.setIfInBounds_toArray, List.set_cons_zero, List.set_cons_succ]
        refine wpAnyH_take (i := 5) (v := (.int .i64 x)) rfl (by kernel_rfl) (by kernel_rfl) (by kernel_rfl) (fun _ _ _ h => h) (Or.inl ⟨by rfl, fun w _ => by go_simp⟩) hHeld ?_
        simp only [Act.put, List.getElem_toArray, List.getElem_cons_zero, List.getElem_cons_succ, List.setIfInBounds_toArray, List.set_cons_zero, List.set_cons_succ]
        refine wpAnyH_take (i := 6) (v := (.pointer (some ⟨b2, o2 + x * 32, none⟩))) rfl (by kernel_rfl) (by kernel_rfl) (by kernel_rfl) (fun _ _ _ h => h) (Or.inl ⟨by rfl, fun w _ => by go_simp⟩) hHeld ?_
        simp only [Act.put, List.getElem_toArray, List.getElem_cons_zero, List.getElem_cons_succ, List.setIfInBounds_toArray, List.set_cons_zero, List.set_cons_succ]
        refine wpAnyH_take (i := 7) (v := (.agg (q.map bv).toArray)) rfl (by kernel_rfl) (by kernel_rfl) (by kernel_rfl) (fun _ _ _ h => h) (yieldsIf_load_mid (by rfl) _ _ rfl _ _ rfl _ _ (fun w h => h.2) hu26 rfl hs2) hHeld ?_
        simp only [Act.put, List.getElem_toArray, List.getElem_cons_zero, List.getElem_cons_succ, List.setIfInBounds_toArray, List.set_cons_zero, List.set_cons_succ]
        refine wpAnyH_take (i := 8) (v := (.bool true)) rfl (by kernel_rfl) (by kernel_rfl) (by kernel_rfl) (fun _ _ _ h => h) (Or.inl ⟨by rfl, fun w _ => by go_simp⟩) hHeld ?_
        simp only [Act.put, List.getElem_toArray, List.getElem_cons_zero, List.getElem_cons_succ, List.setIfInBounds_toArray, List.set_cons_zero, List.set_cons_succ]
        refine wpAnyH_done (by kernel_rfl) ?_ _
        go_wp2_with fail
        go_roundw
        case rel => exact ⟨x + 1, by go_num, by rw [HST.out]; go_num, by omega, hbr.drew, hkr.drew⟩
        case measure => simp [intOf]; omega
    · have g1' : ¬ ((x : Int) < (L : Int)) := by omega
      have hxe : x = L := by omega
      have ht1 : P.take x = P := by rw [hxe, HLP.out]; exact List.take_length
      have ht2 : Q.take x = Q := by rw [hxe, ← HLQ.out]; exact List.take_length
      rw [ht1, ht2]
      have hle1 : ((parts P Q : Nat) : Int) ≤ 1 := by have := HPARTS.out; omega
      have hle2 : parts P Q ≤ 1 := HPARTS.out
      generalize parts P Q = cn at *
      clear ht1 ht2 hxe
      go_wp2
      go_ret
      exact ⟨by simp, belowVia hbr hbel6⟩
end Go.Proofs.YtohknemfcohhfaaDoor
