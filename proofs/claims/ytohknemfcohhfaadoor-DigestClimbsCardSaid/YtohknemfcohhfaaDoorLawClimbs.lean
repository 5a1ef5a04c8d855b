/-
  What is proved here: the walk of DigestClimbs: paths lead to the digest of the list; longer ones are refused.
-/
import Derived.Test.YtohknemfcohhfaaDoorRows
import Derived.Test.YtohknemfcohhfaaDoorBaseC
import Derived.Test.YtohknemfcohhfaaDoorSha
import Derived.Test.YtohknemfcohhfaaDoorDigA
import Derived.Test.YtohknemfcohhfaaDoorDigC
import Derived.Test.YtohknemfcohhfaaDoorDigD
import Derived.Test.YtohknemfcohhfaaDoorDigE
import Derived.Test.YtohknemfcohhfaaDoorDigF
import Derived.Test.YtohknemfcohhfaaDoorDigG
import Derived.Test.YtohknemfcohhfaaDoorDigH
import Derived.Test.YtohknemfcohhfaaDoorDigI
import Derived.Test.YtohknemfcohhfaaDoorDigJ
import Derived.Test.YtohknemfcohhfaaDoorDigK
import Derived.Test.YtohknemfcohhfaaDoorDigL
import Derived.Test.YtohknemfcohhfaaDoorDigM
import Derived.Test.YtohknemfcohhfaaDoorDigN
import Derived.Test.YtohknemfcohhfaaDoorDigO
import Derived.Test.YtohknemfcohhfaaDoorDigP
import Derived.Test.YtohknemfcohhfaaDoorDigQ
import Derived.Test.YtohknemfcohhfaaDoorDigR
import Derived.Test.YtohknemfcohhfaaDoorDigS
import Derived.Test.YtohknemfcohhfaaDoorDigT
import Derived.Test.YtohknemfcohhfaaDoorLawTags
import Derived.Test.YtohknemfcohhfaaDoorTwoB
import Derived.Test.YtohknemfcohhfaaDoorTree
import Derived.Test.YtohknemfcohhfaaDoorShelf
import Derived.Lib.ConvBytes
import Derived.StillTailTactics
import Derived.Lib.AppendZerosOnto
import Derived.Deep.RegionHeld3
import Derived.Stop.BytesEq
import Derived.Great.BuildSlice
import Derived.Deep.MidRow
import Derived.Deep.RegionLaw
import Derived.Deep.DeepCutAuto
import Derived.Deep.QuietTactic
import Derived.BigQuiet
import Derived.Laws.EntriesVeiled
namespace Go.Proofs.YtohknemfcohhfaaDoor
open Go.RowKit Go.VS
/-- climbing an element's own path leads to the digest of the list. -/
theorem climb_own (sh : List UInt8 → List UInt8) (ds : List Dg) (i m : Nat) (hm : m = ds.length) (hi : i < m) (hm2 : m ≤ 40) (d : Dg) (hd : ds[i]? = some d) : climbR sh d i m (pathF (tagB sh) ds i) = (treeF (tagB sh) ds, 0) := by
  unfold climbR
  rw [if_pos ⟨by omega, by omega, by omega, by rw [pathF_len _ _ _ _ rfl]; simp [hm]⟩]
  have := climb_path (tagB sh) m ds i d hm.symm hd
  simp only [Int.toNat_natCast]
  rw [this]
theorem climb_long (sh : List UInt8 → List UInt8) (ds : List Dg) (i m : Nat) (hm : m = ds.length) (d : Dg) : climbR sh d i m (pathF (tagB sh) ds i ++ [d]) = (zeros32, 1) := by
  unfold climbR
  rw [if_neg]
  rintro ⟨_, _, _, h⟩
  rw [List.length_append, pathF_len _ _ _ _ rfl, ← hm] at h
  simp at h
theorem foldzC (r : List UInt8) (hr : r.length = 32) : List.foldl (fun (cs : Array Value) (x : Value × Nat) => cs.setIfInBounds x.snd x.fst) #[.int .u8 0, .int .u8 0, .int .u8 0, .int .u8 0, .int .u8 0, .int .u8 0, .int .u8 0, .int .u8 0, .int .u8 0, .int .u8 0, .int .u8 0, .int .u8 0, .int .u8 0, .int .u8 0, .int .u8 0, .int .u8 0, .int .u8 0, .int .u8 0, .int .u8 0, .int .u8 0, .int .u8 0, .int .u8 0, .int .u8 0, .int .u8 0, .int .u8 0, .int .u8 0, .int .u8 0, .int .u8 0, .int .u8 0, .int .u8 0, .int .u8 0, .int .u8 0] (r.map bv).zipIdx = darr r := foldzL2 r hr
set_option maxRecDepth 100000 in
set_option maxHeartbeats 8000000 in
theorem climbs_walk {sh : List UInt8 → List UInt8} (hs : Sh sh) (A : Option Addr) (n c : Nat) (bs : List UInt8) (D : Gh) (w : World) (hk : Keeps D w) (hT : Tab D) (hb : BS D (.slice A n c) bs) :
    Calls Tryd.prog 6 #[.slice A n c] w fun e w' => e = .returned (.bool true) ∧ Below w.heap.size w w' := by
  have HSA := Lib.hid (sane27_c hs D w hk hT)
  go_enter Tryd.func6, Tryd.ntmps6
  go_wp2_with fail
  refine HSA.out.mono ?_
  rintro e w1 ⟨rfl, hb1⟩
  have hk1 := hk.below hb1 (Nat.le_refl _)
  go_wp2_with fail
  refine (digestsOf_c A n c bs D w1 hk1 hb).mono ?_
  rintro e w2 ⟨A2, c2, D2, rfl, hG2, hds⟩
  have hT2 := hT.le hG2.le
  have hbel2 : Below w.heap.size w w2 := belowVia hG2.below hb1
  have hk2 := hG2.keeps
  have hl40 : (lD bs).length ≤ 40 := by rw [lD_len]; omega
  generalize lD bs = ds at *
  obtain ⟨m, hm⟩ : ∃ m, m = ds.length := ⟨_, rfl⟩
  rw [← hm] at hl40 hds ⊢
  clear HSA hb1 hk1 hG2 hb
  have HM := Lib.hid hm
  clear hm
  go_wp2_with fail
  go_loopw [18] (fun y wr => ∃ i : Nat, y = .int .i64 i ∧ i ≤ m ∧ Below w2.heap.size w2 wr ∧ Keeps D2 wr) (fun y _ => 40 - (intOf y).toNat)
  case atStart => exact ⟨0, rfl, by omega, Below.refl _ _, hk2⟩
  case round =>
    obtain ⟨i, rfl, him, hbr, hkr⟩ := hrel
    by_cases hi : i < m
    · have g1 : (i : Int) < (m : Int) := by omega
      have g0 : (0 : Int) ≤ (i : Int) := by omega
      obtain ⟨b, o, rfl, h32, hrange⟩ := ds_range hds hkr (k := i) (by rw [← HM.out]; exact hi)
      have hdi : ds[i]? = some (ds[i]'(by rw [← HM.out]; exact hi)) := List.getElem?_eq_getElem _
      have HC1 := Lib.hid (climb_own sh ds i m HM.out hi hl40 _ hdi)
      have HC2 := Lib.hid (climb_long sh ds i m HM.out (ds[i]'(by rw [← HM.out]; exact hi)))
      clear hdi
      generalize ds[i]'(by rw [← HM.out]; exact hi) = d at *
      rw [Nat.mul_comm] at hrange
      have hsz := sz26l d h32
      have H32 := Lib.hid h32
      have hs26 := sz26 d h32
      have hsd : (darr []).size = (darr d).size := by rw [darr_size _ (by simp), darr_size _ (by omega)]
      have hde := Lib.hid (darr_eq d h32)
      clear h32
      go_wp2_with (first | (refine wpList_load_mid rfl 26 _ rfl b (o + i * 32) rfl _ _ hrange Tryd.underlying26 rfl hsz ?_; rw [hde.out]) | (refine wpList_store_row rfl 26 _ _ rfl wr.heap.size (darr d) rfl rfl 26 (darr []) (heap_alloc_new wr _) hs26 hsd (darr_one _) ?_; rw [World.setRow_alloc_new]))
      have hB0 := Box.new2 hkr rfl 26 (darr d)
      have hk0 := hkr.alloc (.cells (darr d) 26)
      have hbel0 : Below w2.heap.size w2 (wr.alloc (.cells (darr d) 26)) := (by repeat (first | (with_reducible exact Below.refl _ _) | (with_reducible refine Below.drew ?_) | (with_reducible refine belowDrewN ?_ _) | (with_reducible refine belowAlloc ?_ _) | ((with_reducible refine belowSet2 ?_ ?_); omega) | (with_reducible assumption) | (with_reducible refine belowVia (by assumption) ?_) | (with_reducible refine belowVia (Grow.below (by assumption)) ?_)))
      refine (path_ok hs _ _ _ ds i D2 _ hk0 hT2 hds (by omega) hi).mono ?_
      rintro e w3 ⟨A5, c5, D5, rfl, hG5, hp⟩
      have hB3 := hB0.grow hG5
      have hbel3 := belowVia hG5.below hbel0
      have hk3 := hG5.keeps
      have hT5 := hT2.le hG5.le
      have hds5 := hds.le hG5.le
      have HCL := Lib.hid (climbR_c hs d H32.out i m A5 _ c5 _ D5 w3 hk3 hT5 hp)
      rw [HC1.out, dg_darr d H32.out] at HCL
      have hpl : (pathF (tagB sh) ds i).length ≤ 6 := by rw [pathF_len _ _ _ _ rfl]; exact lenF_le 6 _ _ (by rw [← HM.out]; omega)
      have HTR := Lib.hid (fun (D' : Gh) (W : World) (hk : Keeps D' W) (hle : D5.le D') => tree_c hs _ _ _ _ D' W hk (hT5.le hle) (hds5.le hle) (by omega))
      have hr32 := Lib.hid (treeF_len hs ds)
      generalize treeF (tagB sh) ds = r at *
      generalize pathF (tagB sh) ds i = P at *
      rw [show dg (r, (0 : Int)).1 = .agg (darr r) from dg_darr r hr32.out] at HCL
      simp only [dg_darr r hr32.out] at HTR
      obtain ⟨L, hL⟩ : ∃ L, L = P.length := ⟨_, rfl⟩
      rw [← hL] at hpl hp HCL ⊢
      have HL := Lib.hid hL
      clear hL hB0 hk0 hbel0 hG5 HC1
      go_wp2_with (refine wpList_load_row rfl 26 _ rfl wr.heap.size rfl 26 _ (0, 0) _ hB3.heap Tryd.underlying26 rfl hs26 ?_)
      refine HCL.out.mono ?_
      rintro e w4 ⟨rfl, hb4⟩
      have hB4 := hB3.below hb4 hB3.lt
      have hk4 := hk3.below hb4 (Nat.le_refl _)
      have hbel4 := belowVia hb4 hbel3
      have hsr : (darr []).size = (darr r).size := by rw [darr_size _ (by simp), darr_size _ (by rw [hr32.out]; omega)]
      have hsr26 := sz26 r hr32.out
      have hB5 := hB4.alloc (.cells (darr r) 26)
      have hB8 := Box.new2 hk4 rfl 26 (darr r)
      have hk5 := hk4.alloc (.cells (darr r) 26)
      have hbel5 : Below w2.heap.size w2 (w4.alloc (.cells (darr r) 26)) := (by repeat (first | (with_reducible exact Below.refl _ _) | (with_reducible refine Below.drew ?_) | (with_reducible refine belowDrewN ?_ _) | (with_reducible refine belowAlloc ?_ _) | ((with_reducible refine belowSet2 ?_ ?_); omega) | (with_reducible assumption) | (with_reducible refine belowVia (by assumption) ?_) | (with_reducible refine belowVia (Grow.below (by assumption)) ?_)))
      clear HCL hB3 hk3 hbel3 hb4 hB4
      go_wp2_with (refine wpList_store_row rfl 26 _ _ rfl w4.heap.size (darr r) rfl rfl 26 (darr []) (heap_alloc_new w4 _) hsr26 hsr (darr_one _) ?_; rw [World.setRow_alloc_new])
      clear hk4 hbel4 hsr hsr26
      generalize hg8 : w4.heap.size = g8 at *
      generalize w4.alloc (Obj.cells (darr r) 26) = W4 at *
      generalize hg5 : wr.heap.size = g5 at *
      have hu26 := Tryd.underlying26
      have hszr := sz26l r hr32.out
      have SH : Hid (∀ W, Box W D5 g8 26 (darr r) → W.rangeAt g8 0 (r.map bv)) := fun W h j v hv => by
        rw [Nat.zero_add, h.cell, darr_full r hr32.out]; simpa using hv
      have heq : ∀ W, (Op.equalIn 10000 26 (.agg (r.map bv).toArray) (.agg (darr r))).run Tryd.prog W = .ok true W := fun W => by
        have := eq26 r r hr32.out hr32.out W
        rw [← darr_full r hr32.out, this]
        simp
      have gL : ¬ ((7 : Int) < (L : Int)) := by omega
      have hk5d := hk5.drew
      have hB8d := hB8.drew
      have hB5d := hB5.drew
      have hbel5d := hbel5.drew
      have hlt8 := hB8.lt
      have hlt5 := hB5.lt
      go_region_held3 (fun w' => w'.rangeAt g8 0 (r.map bv))
        (first | (refine SH.out _ ?_; (repeat (with_reducible first | assumption | refine Box.drew ?_ | refine Box.alloc ?_ _)); done) | go_keep)
        (first | (go_at_call 23; refine (HTR.out D5 W4.drew hk5d (Gh.le.refl _)).mono ?_; rintro e W5 ⟨rfl, hb9⟩; have hB10 : Box W5 D5 g8 26 (darr r) := hB8d.below hb9 hlt8; have hB11 : Box W5 D5 g5 26 (darr d) := hB5d.below hb9 hlt5; have hk9 : Keeps D5 W5 := hk5d.below hb9 (Nat.le_refl _); have hbel9 : Below w2.heap.size w2 W5 := belowVia hb9 hbel5d))
      all_goals
        go_wp2_with fail
        go_cut [11] (fun y wx => y = .int .i64 1 ∧ Below w2.heap.size w2 wx ∧ Keeps D5 wx)
        case rest =>
          obtain ⟨rfl, hbelx, hkx⟩ := hcut
          go_wp2
          go_roundw
          case rel => exact ⟨i + 1, by go_num, by omega, hbelx, hk2.below hbelx (Nat.le_refl _)⟩
          case measure => simp [intOf]; omega
        have hall : ∀ x ∈ P ++ [d], x.length = 32 := fun x hx => by
          rw [List.mem_append, List.mem_singleton] at hx
          rcases hx with hx | rfl
          · exact hp.1 x hx
          · exact H32.out
        have hl1000 : L ≤ 1000 := by omega
        have HCL := Lib.hid (fun (A9 : Option Addr) (l9 c9 : Nat) (D9 : Gh) (W : World) (hk : Keeps D9 W) (hle : D5.le D9) (h9 : DS D9 (.slice A9 l9 c9) (P ++ [d])) => climbR_c hs d H32.out i m A9 l9 c9 (P ++ [d]) D9 W hk (hT5.le hle) h9)
        rw [HC2.out] at HCL
        simp only [dg_darr zeros32 rfl] at HCL
        unfold dg at HCL
        replace hk9 := hk9.drew
        replace hB11 := hB11.drew
        replace hbel9 := hbel9.drew
        clear HTR hds5 hB10 hB8 hB5 hk5d hB8d hB5d hbel5d hlt8 hlt5 hk5 hbel5 hb9 SH heq hszr
        have hu26 := Tryd.underlying26
        have hszd := sz26l d H32.out
        have hd32 := H32.out
        have hfz := foldzC d H32.out
        have hsp : (d.map bv).toArray.size = 32 := by simp [H32.out]
        have hsp2 : (d.map bv).length = 32 := by simp [H32.out]
        have hz32 : (darr zeros32).size = 32 := rfl
        refine wp_region_held_drew (S := fun W => W.rangeAt g5 0 (d.map bv)) (by kernel_rfl) (fun j v hv => by
          rw [Nat.zero_add, hB11.cell, darr_full d H32.out]; simpa using hv) (fun hHeld => ?_)
        generalize W5.drew = X0 at *
        have hap := Aq.start X0
        have SH : Hid (∀ W, Below X0.heap.size X0 W → W.rangeAt g5 0 (d.map bv)) := fun W hb j v hv => by
          rw [Nat.zero_add, (hB11.below hb hB11.lt).cell, darr_full d H32.out]; simpa using hv
        refine wpAnyH_take (i := 0) (v := (.agg (d.map bv).toArray)) rfl (by kernel_rfl) (by kernel_rfl) (by kernel_rfl) (fun _ _ _ h => h) (yieldsIf_load_mid (by rfl) _ _ rfl _ _ rfl _ _ (fun w h => h) hu26 rfl hszd) hHeld ?_
        simp only [Act.put, List.getElem_toArray, List.getElem_cons_zero, List.setIfInBounds_toArray, List.set_cons_zero, List.set_cons_succ]
        refine wpAnyH_take (i := 1) (v := ?_) rfl (by kernel_rfl) (by kernel_rfl) (by kernel_rfl) (fun _ _ _ h => h) (Or.inl ⟨by rfl, ?_⟩) hHeld ?_
        rotate_left
        · (intro wz hSw; (try dsimp only at hSw); go_simp; try with_reducible rfl)
        simp only [Act.put, List.getElem_toArray, List.getElem_cons_zero, List.getElem_cons_succ, List.setIfInBounds_toArray, List.set_cons_zero, List.set_cons_succ]
        refine wpAnyH_take (i := 2) (v := ?_) rfl (by kernel_rfl) (by kernel_rfl) (by kernel_rfl) (fun _ _ _ h => h) (Or.inl ⟨by rfl, ?_⟩) hHeld ?_
        rotate_left
        · (intro wz hSw; (try dsimp only at hSw); go_simp; try with_reducible rfl)
        simp only [Act.put, List.getElem_toArray, List.getElem_cons_zero, List.getElem_cons_succ, List.setIfInBounds_toArray, List.set_cons_zero, List.set_cons_succ]
        refine wpAnyH_take (i := 3) (v := ?_) rfl (by kernel_rfl) (by kernel_rfl) (by kernel_rfl) (fun _ _ _ h => h) (Or.inl ⟨by rfl, ?_⟩) hHeld ?_
        rotate_left
        · (intro wz hSw; (try dsimp only at hSw); go_simp; try with_reducible rfl)
        simp only [Act.put, List.getElem_toArray, List.getElem_cons_zero, List.getElem_cons_succ, List.setIfInBounds_toArray, List.set_cons_zero, List.set_cons_succ]
        refine wpAnyH_take (i := 5) (v := ?_) rfl (by kernel_rfl) (by kernel_rfl) (by kernel_rfl) (fun _ _ _ h => h) (Or.inl ⟨by rfl, ?_⟩) hHeld ?_
        rotate_left
        · (intro wz hSw; (try dsimp only at hSw); go_simp; try with_reducible rfl)
        simp only [Act.put, List.getElem_toArray, List.getElem_cons_zero, List.getElem_cons_succ, List.setIfInBounds_toArray, List.set_cons_zero, List.set_cons_succ]
        refine wpAnyH_take (i := 7) (v := (.agg (d.map bv).toArray)) rfl (by kernel_rfl) (by kernel_rfl) (by kernel_rfl) (fun _ _ _ h => h) (yieldsIf_load_mid (by rfl) _ _ rfl _ _ rfl _ _ (fun w h => h) hu26 rfl hszd) hHeld ?_
        simp only [Act.put, List.getElem_toArray, List.getElem_cons_zero, List.getElem_cons_succ, List.setIfInBounds_toArray, List.set_cons_zero, List.set_cons_succ]
        refine wpAnyH_ready (rs := [4, 8, 14]) (by kernel_rfl) (by simp) (AllReadyH.cons rfl (fun K' hK => ?_) (AllReadyH.cons rfl (fun K' hK => ?_) (AllReadyH.cons rfl (fun K' hK => ?_) AllReadyH.nil)))
        · go_simp
          replace hap := hap.build0
          refine hK.out _ _ (SH.out _ hap.below) (fun hHeld => ?_)
          clear hK K'
          generalize X0.alloc (.cells #[] 26) = X1 at *
          refine wpAnyH_ready (rs := [6, 8, 14]) (by kernel_rfl) (by simp) (AllReadyH.cons rfl (fun K' hK => ?_) (AllReadyH.cons rfl (fun K' hK => ?_) (AllReadyH.cons rfl (fun K' hK => ?_) AllReadyH.nil)))
          · obtain ⟨A1, c1, X2, hrun, hapn⟩ := hap.app1 D5 hk9 A5 L c5 P hp hl1000
            refine step_append_run _ rfl _ _ 30 30 rfl _ _ rfl rfl _ _ hrun ?_
            refine hK.out _ _ (SH.out _ hapn.below) (fun hHeld => ?_)
            clear hK K' hrun hap
            have hap := hapn
            clear hapn
            refine wpAnyH_ready (rs := [8, 14]) (by kernel_rfl) (by simp) (AllReadyH.cons rfl (fun K' hK => ?_) (AllReadyH.cons rfl (fun K' hK => ?_) AllReadyH.nil))
            · go_simp
              replace hap := hap.build (darr d)
              refine hK.out _ _ (SH.out _ hap.below) (fun hHeld => ?_)
              clear hK K'
              generalize X2.alloc (.cells (darr d) 26) = X3 at *
              refine wpAnyH_ready (rs := [9, 14]) (by kernel_rfl) (by simp) (AllReadyH.cons rfl (fun K' hK => ?_) (AllReadyH.cons rfl (fun K' hK => ?_) AllReadyH.nil))
              · obtain ⟨A2, c2', X4, hrun, hapn⟩ := hap.app2 H32.out (go := X2.heap.size) (by simp) hl1000
                refine step_append_run _ rfl _ _ 30 30 rfl _ _ rfl rfl _ _ hrun ?_
                refine hK.out _ _ (SH.out _ hapn.below) (fun hHeld => ?_)
                clear hK K' hrun hap
                have hap := hapn
                clear hapn
                refine wpAnyH_ready (rs := [10, 14]) (by kernel_rfl) (by simp) (AllReadyH.cons rfl (fun K' hK => ?_) (AllReadyH.cons rfl (fun K' hK => ?_) AllReadyH.nil))
                · obtain ⟨D9, hG9, hds9⟩ := hap.pub hall D5 hk9
                  have HCX := Lib.hid (HCL.out A2 (L + 1) c2' D9 X4 hG9.keeps hG9.le hds9)
                  go_simp
                  go_wp2_with ((go_at_call 28; refine HCX.out.mono ?_; rintro e X5 ⟨rfl, hb28⟩))
                  replace hap := hap.call hb28
                  refine hK.out _ _ (SH.out _ hap.below) (fun hHeld => ?_)
                  clear hK K'
                  clear HCX hb28 hG9 hds9
                  refine wpAnyH_take (i := 11) (v := ?_) rfl (by kernel_rfl) (by kernel_rfl) (by kernel_rfl) (fun _ _ _ h => h) (Or.inl ⟨by rfl, ?_⟩) hHeld ?_
                  rotate_left
                  · (intro wz hSw; (try dsimp only at hSw); go_simp; try with_reducible rfl)
                  simp only [Act.put, List.getElem_toArray, List.getElem_cons_zero, List.getElem_cons_succ, List.setIfInBounds_toArray, List.set_cons_zero, List.set_cons_succ]
                  refine wpAnyH_take (i := 12) (v := ?_) rfl (by kernel_rfl) (by kernel_rfl) (by kernel_rfl) (fun _ _ _ h => h) (Or.inl ⟨by rfl, ?_⟩) hHeld ?_
                  rotate_left
                  · (intro wz hSw; (try dsimp only at hSw); go_simp; try with_reducible rfl)
                  simp only [Act.put, List.getElem_toArray, List.getElem_cons_zero, List.getElem_cons_succ, List.setIfInBounds_toArray, List.set_cons_zero, List.set_cons_succ]
                  refine wpAnyH_take (i := 13) (v := ?_) rfl (by kernel_rfl) (by kernel_rfl) (by kernel_rfl) (fun _ _ _ h => h) (Or.inl ⟨by rfl, ?_⟩) hHeld ?_
                  rotate_left
                  · (intro wz hSw; (try dsimp only at hSw); go_simp; try with_reducible rfl)
                  simp only [Act.put, List.getElem_toArray, List.getElem_cons_zero, List.getElem_cons_succ, List.setIfInBounds_toArray, List.set_cons_zero, List.set_cons_succ]
                  refine wpAnyH_ready (rs := [14]) (by kernel_rfl) (by simp) (AllReadyH.cons rfl (fun K' hK => ?_) AllReadyH.nil)
                  go_simp
                  replace hap := hap.build (darr [])
                  refine hK.out _ _ (SH.out _ hap.below) (fun hHeld => ?_)
                  clear hK K'
                  change wpAnyH _ _ _ _ _ _ _ _ (X5.alloc (.cells (darr []) 26))
                  generalize X5.alloc (.cells (darr []) 26) = X6 at *
                  refine wpAnyH_ready (rs := [15]) (by kernel_rfl) (by simp) (AllReadyH.cons rfl (fun K' hK => ?_) AllReadyH.nil)
                  obtain ⟨hst, hbst⟩ := hap.store (gz := X5.heap.size) (by simp) zeros32 rfl
                  go_simp
                  refine hK.out _ _ (SH.out _ hbst) (fun hHeld => ?_)
                  clear hK K' hst
                  refine wpAnyH_ready (rs := [16]) (by kernel_rfl) (by simp) (AllReadyH.cons rfl (fun K' hK => ?_) AllReadyH.nil)
                  go_simp
                  refine hK.out _ _ hHeld (fun hHeld => ?_)
                  clear hK K'
                  refine wpAnyH_done (by kernel_rfl) ?_ _
                  go_wp2_with fail
                  go_meet
                  exact ⟨rfl, belowVia hbst hbel9, hk9.below hbst (Nat.le_refl _)⟩
                · go_simp
                  replace hap := hap.build (darr [])
                  refine hK.out _ _ (SH.out _ hap.below) (fun hHeld => ?_)
                  clear hK K'
                  change wpAnyH _ _ _ _ _ _ _ _ (X4.alloc (.cells (darr []) 26))
                  generalize X4.alloc (.cells (darr []) 26) = X5 at *
                  refine wpAnyH_ready (rs := [10]) (by kernel_rfl) (by simp) (AllReadyH.cons rfl (fun K' hK => ?_) AllReadyH.nil)
                  obtain ⟨D9, hG9, hds9⟩ := hap.pub hall D5 hk9
                  have HCX := Lib.hid (HCL.out A2 (L + 1) c2' D9 X5 hG9.keeps hG9.le hds9)
                  go_simp
                  go_wp2_with ((go_at_call 28; refine HCX.out.mono ?_; rintro e X6 ⟨rfl, hb28⟩))
                  replace hap := hap.call hb28
                  refine hK.out _ _ (SH.out _ hap.below) (fun hHeld => ?_)
                  clear hK K'
                  clear HCX hb28 hG9 hds9
                  refine wpAnyH_take (i := 11) (v := ?_) rfl (by kernel_rfl) (by kernel_rfl) (by kernel_rfl) (fun _ _ _ h => h) (Or.inl ⟨by rfl, ?_⟩) hHeld ?_
                  rotate_left
                  · (intro wz hSw; (try dsimp only at hSw); go_simp; try with_reducible rfl)
                  simp only [Act.put, List.getElem_toArray, List.getElem_cons_zero, List.getElem_cons_succ, List.setIfInBounds_toArray, List.set_cons_zero, List.set_cons_succ]
                  refine wpAnyH_take (i := 12) (v := ?_) rfl (by kernel_rfl) (by kernel_rfl) (by kernel_rfl) (fun _ _ _ h => h) (Or.inl ⟨by rfl, ?_⟩) hHeld ?_
                  rotate_left
                  · (intro wz hSw; (try dsimp only at hSw); go_simp; try with_reducible rfl)
                  simp only [Act.put, List.getElem_toArray, List.getElem_cons_zero, List.getElem_cons_succ, List.setIfInBounds_toArray, List.set_cons_zero, List.set_cons_succ]
                  refine wpAnyH_take (i := 13) (v := ?_) rfl (by kernel_rfl) (by kernel_rfl) (by kernel_rfl) (fun _ _ _ h => h) (Or.inl ⟨by rfl, ?_⟩) hHeld ?_
                  rotate_left
                  · (intro wz hSw; (try dsimp only at hSw); go_simp; try with_reducible rfl)
                  simp only [Act.put, List.getElem_toArray, List.getElem_cons_zero, List.getElem_cons_succ, List.setIfInBounds_toArray, List.set_cons_zero, List.set_cons_succ]
                  refine wpAnyH_ready (rs := [15]) (by kernel_rfl) (by simp) (AllReadyH.cons rfl (fun K' hK => ?_) AllReadyH.nil)
                  obtain ⟨hst, hbst⟩ := hap.store (gz := X4.heap.size) (by simp) zeros32 rfl
                  go_simp
                  refine hK.out _ _ (SH.out _ hbst) (fun hHeld => ?_)
                  clear hK K' hst
                  refine wpAnyH_ready (rs := [16]) (by kernel_rfl) (by simp) (AllReadyH.cons rfl (fun K' hK => ?_) AllReadyH.nil)
                  go_simp
                  refine hK.out _ _ hHeld (fun hHeld => ?_)
                  clear hK K'
                  refine wpAnyH_done (by kernel_rfl) ?_ _
                  go_wp2_with fail
                  go_meet
                  exact ⟨rfl, belowVia hbst hbel9, hk9.below hbst (Nat.le_refl _)⟩
              · go_simp
                replace hap := hap.build (darr [])
                refine hK.out _ _ (SH.out _ hap.below) (fun hHeld => ?_)
                clear hK K'
                change wpAnyH _ _ _ _ _ _ _ _ (X3.alloc (.cells (darr []) 26))
                generalize X3.alloc (.cells (darr []) 26) = X4 at *
                refine wpAnyH_ready (rs := [9]) (by kernel_rfl) (by simp) (AllReadyH.cons rfl (fun K' hK => ?_) AllReadyH.nil)
                obtain ⟨A2, c2', X5, hrun, hapn⟩ := hap.app2 H32.out (go := X2.heap.size) (by simp) hl1000
                refine step_append_run _ rfl _ _ 30 30 rfl _ _ rfl rfl _ _ hrun ?_
                refine hK.out _ _ (SH.out _ hapn.below) (fun hHeld => ?_)
                clear hK K' hrun hap
                have hap := hapn
                clear hapn
                refine wpAnyH_ready (rs := [10]) (by kernel_rfl) (by simp) (AllReadyH.cons rfl (fun K' hK => ?_) AllReadyH.nil)
                obtain ⟨D9, hG9, hds9⟩ := hap.pub hall D5 hk9
                have HCX := Lib.hid (HCL.out A2 (L + 1) c2' D9 X5 hG9.keeps hG9.le hds9)
                go_simp
                go_wp2_with ((go_at_call 28; refine HCX.out.mono ?_; rintro e X6 ⟨rfl, hb28⟩))
                replace hap := hap.call hb28
                refine hK.out _ _ (SH.out _ hap.below) (fun hHeld => ?_)
                clear hK K'
                clear HCX hb28 hG9 hds9
                refine wpAnyH_take (i := 11) (v := ?_) rfl (by kernel_rfl) (by kernel_rfl) (by kernel_rfl) (fun _ _ _ h => h) (Or.inl ⟨by rfl, ?_⟩) hHeld ?_
                rotate_left
                · (intro wz hSw; (try dsimp only at hSw); go_simp; try with_reducible rfl)
                simp only [Act.put, List.getElem_toArray, List.getElem_cons_zero, List.getElem_cons_succ, List.setIfInBounds_toArray, List.set_cons_zero, List.set_cons_succ]
                refine wpAnyH_take (i := 12) (v := ?_) rfl (by kernel_rfl) (by kernel_rfl) (by kernel_rfl) (fun _ _ _ h => h) (Or.inl ⟨by rfl, ?_⟩) hHeld ?_
                rotate_left
                · (intro wz hSw; (try dsimp only at hSw); go_simp; try with_reducible rfl)
                simp only [Act.put, List.getElem_toArray, List.getElem_cons_zero, List.getElem_cons_succ, List.setIfInBounds_toArray, List.set_cons_zero, List.set_cons_succ]
                refine wpAnyH_take (i := 13) (v := ?_) rfl (by kernel_rfl) (by kernel_rfl) (by kernel_rfl) (fun _ _ _ h => h) (Or.inl ⟨by rfl, ?_⟩) hHeld ?_
                rotate_left
                · (intro wz hSw; (try dsimp only at hSw); go_simp; try with_reducible rfl)
                simp only [Act.put, List.getElem_toArray, List.getElem_cons_zero, List.getElem_cons_succ, List.setIfInBounds_toArray, List.set_cons_zero, List.set_cons_succ]
                refine wpAnyH_ready (rs := [15]) (by kernel_rfl) (by simp) (AllReadyH.cons rfl (fun K' hK => ?_) AllReadyH.nil)
                obtain ⟨hst, hbst⟩ := hap.store (gz := X3.heap.size) (by simp) zeros32 rfl
                go_simp
                refine hK.out _ _ (SH.out _ hbst) (fun hHeld => ?_)
                clear hK K' hst
                refine wpAnyH_ready (rs := [16]) (by kernel_rfl) (by simp) (AllReadyH.cons rfl (fun K' hK => ?_) AllReadyH.nil)
                go_simp
                refine hK.out _ _ hHeld (fun hHeld => ?_)
                clear hK K'
                refine wpAnyH_done (by kernel_rfl) ?_ _
                go_wp2_with fail
                go_meet
                exact ⟨rfl, belowVia hbst hbel9, hk9.below hbst (Nat.le_refl _)⟩
            · go_simp
              replace hap := hap.build (darr [])
              refine hK.out _ _ (SH.out _ hap.below) (fun hHeld => ?_)
              clear hK K'
              change wpAnyH _ _ _ _ _ _ _ _ (X2.alloc (.cells (darr []) 26))
              generalize X2.alloc (.cells (darr []) 26) = X3 at *
              refine wpAnyH_ready (rs := [8]) (by kernel_rfl) (by simp) (AllReadyH.cons rfl (fun K' hK => ?_) AllReadyH.nil)
              go_simp
              replace hap := hap.build (darr d)
              refine hK.out _ _ (SH.out _ hap.below) (fun hHeld => ?_)
              clear hK K'
              generalize X3.alloc (.cells (darr d) 26) = X4 at *
              refine wpAnyH_ready (rs := [9]) (by kernel_rfl) (by simp) (AllReadyH.cons rfl (fun K' hK => ?_) AllReadyH.nil)
              obtain ⟨A2, c2', X5, hrun, hapn⟩ := hap.app2 H32.out (go := X3.heap.size) (by simp) hl1000
              refine step_append_run _ rfl _ _ 30 30 rfl _ _ rfl rfl _ _ hrun ?_
              refine hK.out _ _ (SH.out _ hapn.below) (fun hHeld => ?_)
              clear hK K' hrun hap
              have hap := hapn
              clear hapn
              refine wpAnyH_ready (rs := [10]) (by kernel_rfl) (by simp) (AllReadyH.cons rfl (fun K' hK => ?_) AllReadyH.nil)
              obtain ⟨D9, hG9, hds9⟩ := hap.pub hall D5 hk9
              have HCX := Lib.hid (HCL.out A2 (L + 1) c2' D9 X5 hG9.keeps hG9.le hds9)
              go_simp
              go_wp2_with ((go_at_call 28; refine HCX.out.mono ?_; rintro e X6 ⟨rfl, hb28⟩))
              replace hap := hap.call hb28
              refine hK.out _ _ (SH.out _ hap.below) (fun hHeld => ?_)
              clear hK K'
              clear HCX hb28 hG9 hds9
              refine wpAnyH_take (i := 11) (v := ?_) rfl (by kernel_rfl) (by kernel_rfl) (by kernel_rfl) (fun _ _ _ h => h) (Or.inl ⟨by rfl, ?_⟩) hHeld ?_
              rotate_left
              · (intro wz hSw; (try dsimp only at hSw); go_simp; try with_reducible rfl)
              simp only [Act.put, List.getElem_toArray, List.getElem_cons_zero, List.getElem_cons_succ, List.setIfInBounds_toArray, List.set_cons_zero, List.set_cons_succ]
              refine wpAnyH_take (i := 12) (v := ?_) rfl (by kernel_rfl) (by kernel_rfl) (by kernel_rfl) (fun _ _ _ h => h) (Or.inl ⟨by rfl, ?_⟩) hHeld ?_
              rotate_left
              · (intro wz hSw; (try dsimp only at hSw); go_simp; try with_reducible rfl)
              simp only [Act.put, List.getElem_toArray, List.getElem_cons_zero, List.getElem_cons_succ, List.setIfInBounds_toArray, List.set_cons_zero, List.set_cons_succ]
              refine wpAnyH_take (i := 13) (v := ?_) rfl (by kernel_rfl) (by kernel_rfl) (by kernel_rfl) (fun _ _ _ h => h) (Or.inl ⟨by rfl, ?_⟩) hHeld ?_
              rotate_left
              · (intro wz hSw; (try dsimp only at hSw); go_simp; try with_reducible rfl)
              simp only [Act.put, List.getElem_toArray, List.getElem_cons_zero, List.getElem_cons_succ, List.setIfInBounds_toArray, List.set_cons_zero, List.set_cons_succ]
              refine wpAnyH_ready (rs := [15]) (by kernel_rfl) (by simp) (AllReadyH.cons rfl (fun K' hK => ?_) AllReadyH.nil)
              obtain ⟨hst, hbst⟩ := hap.store (gz := X2.heap.size) (by simp) zeros32 rfl
              go_simp
              refine hK.out _ _ (SH.out _ hbst) (fun hHeld => ?_)
              clear hK K' hst
              refine wpAnyH_ready (rs := [16]) (by kernel_rfl) (by simp) (AllReadyH.cons rfl (fun K' hK => ?_) AllReadyH.nil)
              go_simp
              refine hK.out _ _ hHeld (fun hHeld => ?_)
              clear hK K'
              refine wpAnyH_done (by kernel_rfl) ?_ _
              go_wp2_with fail
              go_meet
              exact ⟨rfl, belowVia hbst hbel9, hk9.below hbst (Nat.le_refl _)⟩
          · go_simp
            replace hap := hap.build (darr d)
            refine hK.out _ _ (SH.out _ hap.below) (fun hHeld => ?_)
            clear hK K'
            generalize X1.alloc (.cells (darr d) 26) = X2 at *
            refine wpAnyH_ready (rs := [6, 14]) (by kernel_rfl) (by simp) (AllReadyH.cons rfl (fun K' hK => ?_) (AllReadyH.cons rfl (fun K' hK => ?_) AllReadyH.nil))
            · obtain ⟨A1, c1, X3, hrun, hapn⟩ := hap.app1 D5 hk9 A5 L c5 P hp hl1000
              refine step_append_run _ rfl _ _ 30 30 rfl _ _ rfl rfl _ _ hrun ?_
              refine hK.out _ _ (SH.out _ hapn.below) (fun hHeld => ?_)
              clear hK K' hrun hap
              have hap := hapn
              clear hapn
              refine wpAnyH_ready (rs := [9, 14]) (by kernel_rfl) (by simp) (AllReadyH.cons rfl (fun K' hK => ?_) (AllReadyH.cons rfl (fun K' hK => ?_) AllReadyH.nil))
              · obtain ⟨A2, c2', X4, hrun, hapn⟩ := hap.app2 H32.out (go := X1.heap.size) (by simp) hl1000
                refine step_append_run _ rfl _ _ 30 30 rfl _ _ rfl rfl _ _ hrun ?_
                refine hK.out _ _ (SH.out _ hapn.below) (fun hHeld => ?_)
                clear hK K' hrun hap
                have hap := hapn
                clear hapn
                refine wpAnyH_ready (rs := [10, 14]) (by kernel_rfl) (by simp) (AllReadyH.cons rfl (fun K' hK => ?_) (AllReadyH.cons rfl (fun K' hK => ?_) AllReadyH.nil))
                · obtain ⟨D9, hG9, hds9⟩ := hap.pub hall D5 hk9
                  have HCX := Lib.hid (HCL.out A2 (L + 1) c2' D9 X4 hG9.keeps hG9.le hds9)
                  go_simp
                  go_wp2_with ((go_at_call 28; refine HCX.out.mono ?_; rintro e X5 ⟨rfl, hb28⟩))
                  replace hap := hap.call hb28
                  refine hK.out _ _ (SH.out _ hap.below) (fun hHeld => ?_)
                  clear hK K'
                  clear HCX hb28 hG9 hds9
                  refine wpAnyH_take (i := 11) (v := ?_) rfl (by kernel_rfl) (by kernel_rfl) (by kernel_rfl) (fun _ _ _ h => h) (Or.inl ⟨by rfl, ?_⟩) hHeld ?_
                  rotate_left
                  · (intro wz hSw; (try dsimp only at hSw); go_simp; try with_reducible rfl)
                  simp only [Act.put, List.getElem_toArray, List.getElem_cons_zero, List.getElem_cons_succ, List.setIfInBounds_toArray, List.set_cons_zero, List.set_cons_succ]
                  refine wpAnyH_take (i := 12) (v := ?_) rfl (by kernel_rfl) (by kernel_rfl) (by kernel_rfl) (fun _ _ _ h => h) (Or.inl ⟨by rfl, ?_⟩) hHeld ?_
                  rotate_left
                  · (intro wz hSw; (try dsimp only at hSw); go_simp; try with_reducible rfl)
                  simp only [Act.put, List.getElem_toArray, List.getElem_cons_zero, List.getElem_cons_succ, List.setIfInBounds_toArray, List.set_cons_zero, List.set_cons_succ]
                  refine wpAnyH_take (i := 13) (v := ?_) rfl (by kernel_rfl) (by kernel_rfl) (by kernel_rfl) (fun _ _ _ h => h) (Or.inl ⟨by rfl, ?_⟩) hHeld ?_
                  rotate_left
                  · (intro wz hSw; (try dsimp only at hSw); go_simp; try with_reducible rfl)
                  simp only [Act.put, List.getElem_toArray, List.getElem_cons_zero, List.getElem_cons_succ, List.setIfInBounds_toArray, List.set_cons_zero, List.set_cons_succ]
                  refine wpAnyH_ready (rs := [14]) (by kernel_rfl) (by simp) (AllReadyH.cons rfl (fun K' hK => ?_) AllReadyH.nil)
                  go_simp
                  replace hap := hap.build (darr [])
                  refine hK.out _ _ (SH.out _ hap.below) (fun hHeld => ?_)
                  clear hK K'
                  change wpAnyH _ _ _ _ _ _ _ _ (X5.alloc (.cells (darr []) 26))
                  generalize X5.alloc (.cells (darr []) 26) = X6 at *
                  refine wpAnyH_ready (rs := [15]) (by kernel_rfl) (by simp) (AllReadyH.cons rfl (fun K' hK => ?_) AllReadyH.nil)
                  obtain ⟨hst, hbst⟩ := hap.store (gz := X5.heap.size) (by simp) zeros32 rfl
                  go_simp
                  refine hK.out _ _ (SH.out _ hbst) (fun hHeld => ?_)
                  clear hK K' hst
                  refine wpAnyH_ready (rs := [16]) (by kernel_rfl) (by simp) (AllReadyH.cons rfl (fun K' hK => ?_) AllReadyH.nil)
                  go_simp
                  refine hK.out _ _ hHeld (fun hHeld => ?_)
                  clear hK K'
                  refine wpAnyH_done (by kernel_rfl) ?_ _
                  go_wp2_with fail
                  go_meet
                  exact ⟨rfl, belowVia hbst hbel9, hk9.below hbst (Nat.le_refl _)⟩
                · go_simp
                  replace hap := hap.build (darr [])
                  refine hK.out _ _ (SH.out _ hap.below) (fun hHeld => ?_)
                  clear hK K'
                  change wpAnyH _ _ _ _ _ _ _ _ (X4.alloc (.cells (darr []) 26))
                  generalize X4.alloc (.cells (darr []) 26) = X5 at *
                  refine wpAnyH_ready (rs := [10]) (by kernel_rfl) (by simp) (AllReadyH.cons rfl (fun K' hK => ?_) AllReadyH.nil)
                  obtain ⟨D9, hG9, hds9⟩ := hap.pub hall D5 hk9
                  have HCX := Lib.hid (HCL.out A2 (L + 1) c2' D9 X5 hG9.keeps hG9.le hds9)
                  go_simp
                  go_wp2_with ((go_at_call 28; refine HCX.out.mono ?_; rintro e X6 ⟨rfl, hb28⟩))
                  replace hap := hap.call hb28
                  refine hK.out _ _ (SH.out _ hap.below) (fun hHeld => ?_)
                  clear hK K'
                  clear HCX hb28 hG9 hds9
                  refine wpAnyH_take (i := 11) (v := ?_) rfl (by kernel_rfl) (by kernel_rfl) (by kernel_rfl) (fun _ _ _ h => h) (Or.inl ⟨by rfl, ?_⟩) hHeld ?_
                  rotate_left
                  · (intro wz hSw; (try dsimp only at hSw); go_simp; try with_reducible rfl)
                  simp only [Act.put, List.getElem_toArray, List.getElem_cons_zero, List.getElem_cons_succ, List.setIfInBounds_toArray, List.set_cons_zero, List.set_cons_succ]
                  refine wpAnyH_take (i := 12) (v := ?_) rfl (by kernel_rfl) (by kernel_rfl) (by kernel_rfl) (fun _ _ _ h => h) (Or.inl ⟨by rfl, ?_⟩) hHeld ?_
                  rotate_left
                  · (intro wz hSw; (try dsimp only at hSw); go_simp; try with_reducible rfl)
                  simp only [Act.put, List.getElem_toArray, List.getElem_cons_zero, List.getElem_cons_succ, List.setIfInBounds_toArray, List.set_cons_zero, List.set_cons_succ]
                  refine wpAnyH_take (i := 13) (v := ?_) rfl (by kernel_rfl) (by kernel_rfl) (by kernel_rfl) (fun _ _ _ h => h) (Or.inl ⟨by rfl, ?_⟩) hHeld ?_
                  rotate_left
                  · (intro wz hSw; (try dsimp only at hSw); go_simp; try with_reducible rfl)
                  simp only [Act.put, List.getElem_toArray, List.getElem_cons_zero, List.getElem_cons_succ, List.setIfInBounds_toArray, List.set_cons_zero, List.set_cons_succ]
                  refine wpAnyH_ready (rs := [15]) (by kernel_rfl) (by simp) (AllReadyH.cons rfl (fun K' hK => ?_) AllReadyH.nil)
                  obtain ⟨hst, hbst⟩ := hap.store (gz := X4.heap.size) (by simp) zeros32 rfl
                  go_simp
                  refine hK.out _ _ (SH.out _ hbst) (fun hHeld => ?_)
                  clear hK K' hst
                  refine wpAnyH_ready (rs := [16]) (by kernel_rfl) (by simp) (AllReadyH.cons rfl (fun K' hK => ?_) AllReadyH.nil)
                  go_simp
                  refine hK.out _ _ hHeld (fun hHeld => ?_)
                  clear hK K'
                  refine wpAnyH_done (by kernel_rfl) ?_ _
                  go_wp2_with fail
                  go_meet
                  exact ⟨rfl, belowVia hbst hbel9, hk9.below hbst (Nat.le_refl _)⟩
              · go_simp
                replace hap := hap.build (darr [])
                refine hK.out _ _ (SH.out _ hap.below) (fun hHeld => ?_)
                clear hK K'
                change wpAnyH _ _ _ _ _ _ _ _ (X3.alloc (.cells (darr []) 26))
                generalize X3.alloc (.cells (darr []) 26) = X4 at *
                refine wpAnyH_ready (rs := [9]) (by kernel_rfl) (by simp) (AllReadyH.cons rfl (fun K' hK => ?_) AllReadyH.nil)
                obtain ⟨A2, c2', X5, hrun, hapn⟩ := hap.app2 H32.out (go := X1.heap.size) (by simp) hl1000
                refine step_append_run _ rfl _ _ 30 30 rfl _ _ rfl rfl _ _ hrun ?_
                refine hK.out _ _ (SH.out _ hapn.below) (fun hHeld => ?_)
                clear hK K' hrun hap
                have hap := hapn
                clear hapn
                refine wpAnyH_ready (rs := [10]) (by kernel_rfl) (by simp) (AllReadyH.cons rfl (fun K' hK => ?_) AllReadyH.nil)
                obtain ⟨D9, hG9, hds9⟩ := hap.pub hall D5 hk9
                have HCX := Lib.hid (HCL.out A2 (L + 1) c2' D9 X5 hG9.keeps hG9.le hds9)
                go_simp
                go_wp2_with ((go_at_call 28; refine HCX.out.mono ?_; rintro e X6 ⟨rfl, hb28⟩))
                replace hap := hap.call hb28
                refine hK.out _ _ (SH.out _ hap.below) (fun hHeld => ?_)
                clear hK K'
                clear HCX hb28 hG9 hds9
                refine wpAnyH_take (i := 11) (v := ?_) rfl (by kernel_rfl) (by kernel_rfl) (by kernel_rfl) (fun _ _ _ h => h) (Or.inl ⟨by rfl, ?_⟩) hHeld ?_
                rotate_left
                · (intro wz hSw; (try dsimp only at hSw); go_simp; try with_reducible rfl)
                simp only [Act.put, List.getElem_toArray, List.getElem_cons_zero, List.getElem_cons_succ, List.setIfInBounds_toArray, List.set_cons_zero, List.set_cons_succ]
                refine wpAnyH_take (i := 12) (v := ?_) rfl (by kernel_rfl) (by kernel_rfl) (by kernel_rfl) (fun _ _ _ h => h) (Or.inl ⟨by rfl, ?_⟩) hHeld ?_
                rotate_left
                · (intro wz hSw; (try dsimp only at hSw); go_simp; try with_reducible rfl)
                simp only [Act.put, List.getElem_toArray, List.getElem_cons_zero, List.getElem_cons_succ, List.setIfInBounds_toArray, List.set_cons_zero, List.set_cons_succ]
                refine wpAnyH_take (i := 13) (v := ?_) rfl (by kernel_rfl) (by kernel_rfl) (by kernel_rfl) (fun _ _ _ h => h) (Or.inl ⟨by rfl, ?_⟩) hHeld ?_
                rotate_left
                · (intro wz hSw; (try dsimp only at hSw); go_simp; try with_reducible rfl)
                simp only [Act.put, List.getElem_toArray, List.getElem_cons_zero, List.getElem_cons_succ, List.setIfInBounds_toArray, List.set_cons_zero, List.set_cons_succ]
                refine wpAnyH_ready (rs := [15]) (by kernel_rfl) (by simp) (AllReadyH.cons rfl (fun K' hK => ?_) AllReadyH.nil)
                obtain ⟨hst, hbst⟩ := hap.store (gz := X3.heap.size) (by simp) zeros32 rfl
                go_simp
                refine hK.out _ _ (SH.out _ hbst) (fun hHeld => ?_)
                clear hK K' hst
                refine wpAnyH_ready (rs := [16]) (by kernel_rfl) (by simp) (AllReadyH.cons rfl (fun K' hK => ?_) AllReadyH.nil)
                go_simp
                refine hK.out _ _ hHeld (fun hHeld => ?_)
                clear hK K'
                refine wpAnyH_done (by kernel_rfl) ?_ _
                go_wp2_with fail
                go_meet
                exact ⟨rfl, belowVia hbst hbel9, hk9.below hbst (Nat.le_refl _)⟩
            · go_simp
              replace hap := hap.build (darr [])
              refine hK.out _ _ (SH.out _ hap.below) (fun hHeld => ?_)
              clear hK K'
              change wpAnyH _ _ _ _ _ _ _ _ (X2.alloc (.cells (darr []) 26))
              generalize X2.alloc (.cells (darr []) 26) = X3 at *
              refine wpAnyH_ready (rs := [6]) (by kernel_rfl) (by simp) (AllReadyH.cons rfl (fun K' hK => ?_) AllReadyH.nil)
              obtain ⟨A1, c1, X4, hrun, hapn⟩ := hap.app1 D5 hk9 A5 L c5 P hp hl1000
              refine step_append_run _ rfl _ _ 30 30 rfl _ _ rfl rfl _ _ hrun ?_
              refine hK.out _ _ (SH.out _ hapn.below) (fun hHeld => ?_)
              clear hK K' hrun hap
              have hap := hapn
              clear hapn
              refine wpAnyH_ready (rs := [9]) (by kernel_rfl) (by simp) (AllReadyH.cons rfl (fun K' hK => ?_) AllReadyH.nil)
              obtain ⟨A2, c2', X5, hrun, hapn⟩ := hap.app2 H32.out (go := X1.heap.size) (by simp) hl1000
              refine step_append_run _ rfl _ _ 30 30 rfl _ _ rfl rfl _ _ hrun ?_
              refine hK.out _ _ (SH.out _ hapn.below) (fun hHeld => ?_)
              clear hK K' hrun hap
              have hap := hapn
              clear hapn
              refine wpAnyH_ready (rs := [10]) (by kernel_rfl) (by simp) (AllReadyH.cons rfl (fun K' hK => ?_) AllReadyH.nil)
              obtain ⟨D9, hG9, hds9⟩ := hap.pub hall D5 hk9
              have HCX := Lib.hid (HCL.out A2 (L + 1) c2' D9 X5 hG9.keeps hG9.le hds9)
              go_simp
              go_wp2_with ((go_at_call 28; refine HCX.out.mono ?_; rintro e X6 ⟨rfl, hb28⟩))
              replace hap := hap.call hb28
              refine hK.out _ _ (SH.out _ hap.below) (fun hHeld => ?_)
              clear hK K'
              clear HCX hb28 hG9 hds9
              refine wpAnyH_take (i := 11) (v := ?_) rfl (by kernel_rfl) (by kernel_rfl) (by kernel_rfl) (fun _ _ _ h => h) (Or.inl ⟨by rfl, ?_⟩) hHeld ?_
              rotate_left
              · (intro wz hSw; (try dsimp only at hSw); go_simp; try with_reducible rfl)
              simp only [Act.put, List.getElem_toArray, List.getElem_cons_zero, List.getElem_cons_succ, List.setIfInBounds_toArray, List.set_cons_zero, List.set_cons_succ]
              refine wpAnyH_take (i := 12) (v := ?_) rfl (by kernel_rfl) (by kernel_rfl) (by kernel_rfl) (fun _ _ _ h => h) (Or.inl ⟨by rfl, ?_⟩) hHeld ?_
              rotate_left
              · (intro wz hSw; (try dsimp only at hSw); go_simp; try with_reducible rfl)
              simp only [Act.put, List.getElem_toArray, List.getElem_cons_zero, List.getElem_cons_succ, List.setIfInBounds_toArray, List.set_cons_zero, List.set_cons_succ]
              refine wpAnyH_take (i := 13) (v := ?_) rfl (by kernel_rfl) (by kernel_rfl) (by kernel_rfl) (fun _ _ _ h => h) (Or.inl ⟨by rfl, ?_⟩) hHeld ?_
              rotate_left
              · (intro wz hSw; (try dsimp only at hSw); go_simp; try with_reducible rfl)
              simp only [Act.put, List.getElem_toArray, List.getElem_cons_zero, List.getElem_cons_succ, List.setIfInBounds_toArray, List.set_cons_zero, List.set_cons_succ]
              refine wpAnyH_ready (rs := [15]) (by kernel_rfl) (by simp) (AllReadyH.cons rfl (fun K' hK => ?_) AllReadyH.nil)
              obtain ⟨hst, hbst⟩ := hap.store (gz := X2.heap.size) (by simp) zeros32 rfl
              go_simp
              refine hK.out _ _ (SH.out _ hbst) (fun hHeld => ?_)
              clear hK K' hst
              refine wpAnyH_ready (rs := [16]) (by kernel_rfl) (by simp) (AllReadyH.cons rfl (fun K' hK => ?_) AllReadyH.nil)
              go_simp
              refine hK.out _ _ hHeld (fun hHeld => ?_)
              clear hK K'
              refine wpAnyH_done (by kernel_rfl) ?_ _
              go_wp2_with fail
              go_meet
              exact ⟨rfl, belowVia hbst hbel9, hk9.below hbst (Nat.le_refl _)⟩
          · go_simp
            replace hap := hap.build (darr [])
            refine hK.out _ _ (SH.out _ hap.below) (fun hHeld => ?_)
            clear hK K'
            change wpAnyH _ _ _ _ _ _ _ _ (X1.alloc (.cells (darr []) 26))
            generalize X1.alloc (.cells (darr []) 26) = X2 at *
            refine wpAnyH_ready (rs := [6, 8]) (by kernel_rfl) (by simp) (AllReadyH.cons rfl (fun K' hK => ?_) (AllReadyH.cons rfl (fun K' hK => ?_) AllReadyH.nil))
            · obtain ⟨A1, c1, X3, hrun, hapn⟩ := hap.app1 D5 hk9 A5 L c5 P hp hl1000
              refine step_append_run _ rfl _ _ 30 30 rfl _ _ rfl rfl _ _ hrun ?_
              refine hK.out _ _ (SH.out _ hapn.below) (fun hHeld => ?_)
              clear hK K' hrun hap
              have hap := hapn
              clear hapn
              refine wpAnyH_ready (rs := [8]) (by kernel_rfl) (by simp) (AllReadyH.cons rfl (fun K' hK => ?_) AllReadyH.nil)
              go_simp
              replace hap := hap.build (darr d)
              refine hK.out _ _ (SH.out _ hap.below) (fun hHeld => ?_)
              clear hK K'
              generalize X3.alloc (.cells (darr d) 26) = X4 at *
              refine wpAnyH_ready (rs := [9]) (by kernel_rfl) (by simp) (AllReadyH.cons rfl (fun K' hK => ?_) AllReadyH.nil)
              obtain ⟨A2, c2', X5, hrun, hapn⟩ := hap.app2 H32.out (go := X3.heap.size) (by simp) hl1000
              refine step_append_run _ rfl _ _ 30 30 rfl _ _ rfl rfl _ _ hrun ?_
              refine hK.out _ _ (SH.out _ hapn.below) (fun hHeld => ?_)
              clear hK K' hrun hap
              have hap := hapn
              clear hapn
              refine wpAnyH_ready (rs := [10]) (by kernel_rfl) (by simp) (AllReadyH.cons rfl (fun K' hK => ?_) AllReadyH.nil)
              obtain ⟨D9, hG9, hds9⟩ := hap.pub hall D5 hk9
              have HCX := Lib.hid (HCL.out A2 (L + 1) c2' D9 X5 hG9.keeps hG9.le hds9)
              go_simp
              go_wp2_with ((go_at_call 28; refine HCX.out.mono ?_; rintro e X6 ⟨rfl, hb28⟩))
              replace hap := hap.call hb28
              refine hK.out _ _ (SH.out _ hap.below) (fun hHeld => ?_)
              clear hK K'
              clear HCX hb28 hG9 hds9
              refine wpAnyH_take (i := 11) (v := ?_) rfl (by kernel_rfl) (by kernel_rfl) (by kernel_rfl) (fun _ _ _ h => h) (Or.inl ⟨by rfl, ?_⟩) hHeld ?_
              rotate_left
              · (intro wz hSw; (try dsimp only at hSw); go_simp; try with_reducible rfl)
              simp only [Act.put, List.getElem_toArray, List.getElem_cons_zero, List.getElem_cons_succ, List.setIfInBounds_toArray, List.set_cons_zero, List.set_cons_succ]
              refine wpAnyH_take (i := 12) (v := ?_) rfl (by kernel_rfl) (by kernel_rfl) (by kernel_rfl) (fun _ _ _ h => h) (Or.inl ⟨by rfl, ?_⟩) hHeld ?_
              rotate_left
              · (intro wz hSw; (try dsimp only at hSw); go_simp; try with_reducible rfl)
              simp only [Act.put, List.getElem_toArray, List.getElem_cons_zero, List.getElem_cons_succ, List.setIfInBounds_toArray, List.set_cons_zero, List.set_cons_succ]
              refine wpAnyH_take (i := 13) (v := ?_) rfl (by kernel_rfl) (by kernel_rfl) (by kernel_rfl) (fun _ _ _ h => h) (Or.inl ⟨by rfl, ?_⟩) hHeld ?_
              rotate_left
              · (intro wz hSw; (try dsimp only at hSw); go_simp; try with_reducible rfl)
              simp only [Act.put, List.getElem_toArray, List.getElem_cons_zero, List.getElem_cons_succ, List.setIfInBounds_toArray, List.set_cons_zero, List.set_cons_succ]
              refine wpAnyH_ready (rs := [15]) (by kernel_rfl) (by simp) (AllReadyH.cons rfl (fun K' hK => ?_) AllReadyH.nil)
              obtain ⟨hst, hbst⟩ := hap.store (gz := X1.heap.size) (by simp) zeros32 rfl
              go_simp
              refine hK.out _ _ (SH.out _ hbst) (fun hHeld => ?_)
              clear hK K' hst
              refine wpAnyH_ready (rs := [16]) (by kernel_rfl) (by simp) (AllReadyH.cons rfl (fun K' hK => ?_) AllReadyH.nil)
              go_simp
              refine hK.out _ _ hHeld (fun hHeld => ?_)
              clear hK K'
              refine wpAnyH_done (by kernel_rfl) ?_ _
              go_wp2_with fail
              go_meet
              exact ⟨rfl, belowVia hbst hbel9, hk9.below hbst (Nat.le_refl _)⟩
            · go_simp
              replace hap := hap.build (darr d)
              refine hK.out _ _ (SH.out _ hap.below) (fun hHeld => ?_)
              clear hK K'
              generalize X2.alloc (.cells (darr d) 26) = X3 at *
              refine wpAnyH_ready (rs := [6]) (by kernel_rfl) (by simp) (AllReadyH.cons rfl (fun K' hK => ?_) AllReadyH.nil)
              obtain ⟨A1, c1, X4, hrun, hapn⟩ := hap.app1 D5 hk9 A5 L c5 P hp hl1000
              refine step_append_run _ rfl _ _ 30 30 rfl _ _ rfl rfl _ _ hrun ?_
              refine hK.out _ _ (SH.out _ hapn.below) (fun hHeld => ?_)
              clear hK K' hrun hap
              have hap := hapn
              clear hapn
              refine wpAnyH_ready (rs := [9]) (by kernel_rfl) (by simp) (AllReadyH.cons rfl (fun K' hK => ?_) AllReadyH.nil)
              obtain ⟨A2, c2', X5, hrun, hapn⟩ := hap.app2 H32.out (go := X2.heap.size) (by simp) hl1000
              refine step_append_run _ rfl _ _ 30 30 rfl _ _ rfl rfl _ _ hrun ?_
              refine hK.out _ _ (SH.out _ hapn.below) (fun hHeld => ?_)
              clear hK K' hrun hap
              have hap := hapn
              clear hapn
              refine wpAnyH_ready (rs := [10]) (by kernel_rfl) (by simp) (AllReadyH.cons rfl (fun K' hK => ?_) AllReadyH.nil)
              obtain ⟨D9, hG9, hds9⟩ := hap.pub hall D5 hk9
              have HCX := Lib.hid (HCL.out A2 (L + 1) c2' D9 X5 hG9.keeps hG9.le hds9)
              go_simp
              go_wp2_with ((go_at_call 28; refine HCX.out.mono ?_; rintro e X6 ⟨rfl, hb28⟩))
              replace hap := hap.call hb28
              refine hK.out _ _ (SH.out _ hap.below) (fun hHeld => ?_)
              clear hK K'
              clear HCX hb28 hG9 hds9
              refine wpAnyH_take (i := 11) (v := ?_) rfl (by kernel_rfl) (by kernel_rfl) (by kernel_rfl) (fun _ _ _ h => h) (Or.inl ⟨by rfl, ?_⟩) hHeld ?_
              rotate_left
              · (intro wz hSw; (try dsimp only at hSw); go_simp; try with_reducible rfl)
              simp only [Act.put, List.getElem_toArray, List.getElem_cons_zero, List.getElem_cons_succ, List.setIfInBounds_toArray, List.set_cons_zero, List.set_cons_succ]
              refine wpAnyH_take (i := 12) (v := ?_) rfl (by kernel_rfl) (by kernel_rfl) (by kernel_rfl) (fun _ _ _ h => h) (Or.inl ⟨by rfl, ?_⟩) hHeld ?_
              rotate_left
              · (intro wz hSw; (try dsimp only at hSw); go_simp; try with_reducible rfl)
              simp only [Act.put, List.getElem_toArray, List.getElem_cons_zero, List.getElem_cons_succ, List.setIfInBounds_toArray, List.set_cons_zero, List.set_cons_succ]
              refine wpAnyH_take (i := 13) (v := ?_) rfl (by kernel_rfl) (by kernel_rfl) (by kernel_rfl) (fun _ _ _ h => h) (Or.inl ⟨by rfl, ?_⟩) hHeld ?_
              rotate_left
              · (intro wz hSw; (try dsimp only at hSw); go_simp; try with_reducible rfl)
              simp only [Act.put, List.getElem_toArray, List.getElem_cons_zero, List.getElem_cons_succ, List.setIfInBounds_toArray, List.set_cons_zero, List.set_cons_succ]
              refine wpAnyH_ready (rs := [15]) (by kernel_rfl) (by simp) (AllReadyH.cons rfl (fun K' hK => ?_) AllReadyH.nil)
              obtain ⟨hst, hbst⟩ := hap.store (gz := X1.heap.size) (by simp) zeros32 rfl
              go_simp
              refine hK.out _ _ (SH.out _ hbst) (fun hHeld => ?_)
              clear hK K' hst
              refine wpAnyH_ready (rs := [16]) (by kernel_rfl) (by simp) (AllReadyH.cons rfl (fun K' hK => ?_) AllReadyH.nil)
              go_simp
              refine hK.out _ _ hHeld (fun hHeld => ?_)
              clear hK K'
              refine wpAnyH_done (by kernel_rfl) ?_ _
              go_wp2_with fail
              go_meet
              exact ⟨rfl, belowVia hbst hbel9, hk9.below hbst (Nat.le_refl _)⟩
        · go_simp
          replace hap := hap.build (darr d)
          refine hK.out _ _ (SH.out _ hap.below) (fun hHeld => ?_)
          clear hK K'
          generalize X0.alloc (.cells (darr d) 26) = X1 at *
          refine wpAnyH_ready (rs := [4, 14]) (by kernel_rfl) (by simp) (AllReadyH.cons rfl (fun K' hK => ?_) (AllReadyH.cons rfl (fun K' hK => ?_) AllReadyH.nil))
          · go_simp
            replace hap := hap.build0
            refine hK.out _ _ (SH.out _ hap.below) (fun hHeld => ?_)
            clear hK K'
            generalize X1.alloc (.cells #[] 26) = X2 at *
            refine wpAnyH_ready (rs := [6, 14]) (by kernel_rfl) (by simp) (AllReadyH.cons rfl (fun K' hK => ?_) (AllReadyH.cons rfl (fun K' hK => ?_) AllReadyH.nil))
            · obtain ⟨A1, c1, X3, hrun, hapn⟩ := hap.app1 D5 hk9 A5 L c5 P hp hl1000
              refine step_append_run _ rfl _ _ 30 30 rfl _ _ rfl rfl _ _ hrun ?_
              refine hK.out _ _ (SH.out _ hapn.below) (fun hHeld => ?_)
              clear hK K' hrun hap
              have hap := hapn
              clear hapn
              refine wpAnyH_ready (rs := [9, 14]) (by kernel_rfl) (by simp) (AllReadyH.cons rfl (fun K' hK => ?_) (AllReadyH.cons rfl (fun K' hK => ?_) AllReadyH.nil))
              · obtain ⟨A2, c2', X4, hrun, hapn⟩ := hap.app2 H32.out (go := X0.heap.size) (by simp) hl1000
                refine step_append_run _ rfl _ _ 30 30 rfl _ _ rfl rfl _ _ hrun ?_
                refine hK.out _ _ (SH.out _ hapn.below) (fun hHeld => ?_)
                clear hK K' hrun hap
                have hap := hapn
                clear hapn
                refine wpAnyH_ready (rs := [10, 14]) (by kernel_rfl) (by simp) (AllReadyH.cons rfl (fun K' hK => ?_) (AllReadyH.cons rfl (fun K' hK => ?_) AllReadyH.nil))
                · obtain ⟨D9, hG9, hds9⟩ := hap.pub hall D5 hk9
                  have HCX := Lib.hid (HCL.out A2 (L + 1) c2' D9 X4 hG9.keeps hG9.le hds9)
                  go_simp
                  go_wp2_with ((go_at_call 28; refine HCX.out.mono ?_; rintro e X5 ⟨rfl, hb28⟩))
                  replace hap := hap.call hb28
                  refine hK.out _ _ (SH.out _ hap.below) (fun hHeld => ?_)
                  clear hK K'
                  clear HCX hb28 hG9 hds9
                  refine wpAnyH_take (i := 11) (v := ?_) rfl (by kernel_rfl) (by kernel_rfl) (by kernel_rfl) (fun _ _ _ h => h) (Or.inl ⟨by rfl, ?_⟩) hHeld ?_
                  rotate_left
                  · (intro wz hSw; (try dsimp only at hSw); go_simp; try with_reducible rfl)
                  simp only [Act.put, List.getElem_toArray, List.getElem_cons_zero, List.getElem_cons_succ, List.setIfInBounds_toArray, List.set_cons_zero, List.set_cons_succ]
                  refine wpAnyH_take (i := 12) (v := ?_) rfl (by kernel_rfl) (by kernel_rfl) (by kernel_rfl) (fun _ _ _ h => h) (Or.inl ⟨by rfl, ?_⟩) hHeld ?_
                  rotate_left
                  · (intro wz hSw; (try dsimp only at hSw); go_simp; try with_reducible rfl)
                  simp only [Act.put, List.getElem_toArray, List.getElem_cons_zero, List.getElem_cons_succ, List.setIfInBounds_toArray, List.set_cons_zero, List.set_cons_succ]
                  refine wpAnyH_take (i := 13) (v := ?_) rfl (by kernel_rfl) (by kernel_rfl) (by kernel_rfl) (fun _ _ _ h => h) (Or.inl ⟨by rfl, ?_⟩) hHeld ?_
                  rotate_left
                  · (intro wz hSw; (try dsimp only at hSw); go_simp; try with_reducible rfl)
                  simp only [Act.put, List.getElem_toArray, List.getElem_cons_zero, List.getElem_cons_succ, List.setIfInBounds_toArray, List.set_cons_zero, List.set_cons_succ]
                  refine wpAnyH_ready (rs := [14]) (by kernel_rfl) (by simp) (AllReadyH.cons rfl (fun K' hK => ?_) AllReadyH.nil)
                  go_simp
                  replace hap := hap.build (darr [])
                  refine hK.out _ _ (SH.out _ hap.below) (fun hHeld => ?_)
                  clear hK K'
                  change wpAnyH _ _ _ _ _ _ _ _ (X5.alloc (.cells (darr []) 26))
                  generalize X5.alloc (.cells (darr []) 26) = X6 at *
                  refine wpAnyH_ready (rs := [15]) (by kernel_rfl) (by simp) (AllReadyH.cons rfl (fun K' hK => ?_) AllReadyH.nil)
                  obtain ⟨hst, hbst⟩ := hap.store (gz := X5.heap.size) (by simp) zeros32 rfl
                  go_simp
                  refine hK.out _ _ (SH.out _ hbst) (fun hHeld => ?_)
                  clear hK K' hst
                  refine wpAnyH_ready (rs := [16]) (by kernel_rfl) (by simp) (AllReadyH.cons rfl (fun K' hK => ?_) AllReadyH.nil)
                  go_simp
                  refine hK.out _ _ hHeld (fun hHeld => ?_)
                  clear hK K'
                  refine wpAnyH_done (by kernel_rfl) ?_ _
                  go_wp2_with fail
                  go_meet
                  exact ⟨rfl, belowVia hbst hbel9, hk9.below hbst (Nat.le_refl _)⟩
                · go_simp
                  replace hap := hap.build (darr [])
                  refine hK.out _ _ (SH.out _ hap.below) (fun hHeld => ?_)
                  clear hK K'
                  change wpAnyH _ _ _ _ _ _ _ _ (X4.alloc (.cells (darr []) 26))
                  generalize X4.alloc (.cells (darr []) 26) = X5 at *
                  refine wpAnyH_ready (rs := [10]) (by kernel_rfl) (by simp) (AllReadyH.cons rfl (fun K' hK => ?_) AllReadyH.nil)
                  obtain ⟨D9, hG9, hds9⟩ := hap.pub hall D5 hk9
                  have HCX := Lib.hid (HCL.out A2 (L + 1) c2' D9 X5 hG9.keeps hG9.le hds9)
                  go_simp
                  go_wp2_with ((go_at_call 28; refine HCX.out.mono ?_; rintro e X6 ⟨rfl, hb28⟩))
                  replace hap := hap.call hb28
                  refine hK.out _ _ (SH.out _ hap.below) (fun hHeld => ?_)
                  clear hK K'
                  clear HCX hb28 hG9 hds9
                  refine wpAnyH_take (i := 11) (v := ?_) rfl (by kernel_rfl) (by kernel_rfl) (by kernel_rfl) (fun _ _ _ h => h) (Or.inl ⟨by rfl, ?_⟩) hHeld ?_
                  rotate_left
                  · (intro wz hSw; (try dsimp only at hSw); go_simp; try with_reducible rfl)
                  simp only [Act.put, List.getElem_toArray, List.getElem_cons_zero, List.getElem_cons_succ, List.setIfInBounds_toArray, List.set_cons_zero, List.set_cons_succ]
                  refine wpAnyH_take (i := 12) (v := ?_) rfl (by kernel_rfl) (by kernel_rfl) (by kernel_rfl) (fun _ _ _ h => h) (Or.inl ⟨by rfl, ?_⟩) hHeld ?_
                  rotate_left
                  · (intro wz hSw; (try dsimp only at hSw); go_simp; try with_reducible rfl)
                  simp only [Act.put, List.getElem_toArray, List.getElem_cons_zero, List.getElem_cons_succ, List.setIfInBounds_toArray, List.set_cons_zero, List.set_cons_succ]
                  refine wpAnyH_take (i := 13) (v := ?_) rfl (by kernel_rfl) (by kernel_rfl) (by kernel_rfl) (fun _ _ _ h => h) (Or.inl ⟨by rfl, ?_⟩) hHeld ?_
                  rotate_left
                  · (intro wz hSw; (try dsimp only at hSw); go_simp; try with_reducible rfl)
                  simp only [Act.put, List.getElem_toArray, List.getElem_cons_zero, List.getElem_cons_succ, List.setIfInBounds_toArray, List.set_cons_zero, List.set_cons_succ]
                  refine wpAnyH_ready (rs := [15]) (by kernel_rfl) (by simp) (AllReadyH.cons rfl (fun K' hK => ?_) AllReadyH.nil)
                  obtain ⟨hst, hbst⟩ := hap.store (gz := X4.heap.size) (by simp) zeros32 rfl
                  go_simp
                  refine hK.out _ _ (SH.out _ hbst) (fun hHeld => ?_)
                  clear hK K' hst
                  refine wpAnyH_ready (rs := [16]) (by kernel_rfl) (by simp) (AllReadyH.cons rfl (fun K' hK => ?_) AllReadyH.nil)
                  go_simp
                  refine hK.out _ _ hHeld (fun hHeld => ?_)
                  clear hK K'
                  refine wpAnyH_done (by kernel_rfl) ?_ _
                  go_wp2_with fail
                  go_meet
                  exact ⟨rfl, belowVia hbst hbel9, hk9.below hbst (Nat.le_refl _)⟩
              · go_simp
                replace hap := hap.build (darr [])
                refine hK.out _ _ (SH.out _ hap.below) (fun hHeld => ?_)
                clear hK K'
                change wpAnyH _ _ _ _ _ _ _ _ (X3.alloc (.cells (darr []) 26))
                generalize X3.alloc (.cells (darr []) 26) = X4 at *
                refine wpAnyH_ready (rs := [9]) (by kernel_rfl) (by simp) (AllReadyH.cons rfl (fun K' hK => ?_) AllReadyH.nil)
                obtain ⟨A2, c2', X5, hrun, hapn⟩ := hap.app2 H32.out (go := X0.heap.size) (by simp) hl1000
                refine step_append_run _ rfl _ _ 30 30 rfl _ _ rfl rfl _ _ hrun ?_
                refine hK.out _ _ (SH.out _ hapn.below) (fun hHeld => ?_)
                clear hK K' hrun hap
                have hap := hapn
                clear hapn
                refine wpAnyH_ready (rs := [10]) (by kernel_rfl) (by simp) (AllReadyH.cons rfl (fun K' hK => ?_) AllReadyH.nil)
                obtain ⟨D9, hG9, hds9⟩ := hap.pub hall D5 hk9
                have HCX := Lib.hid (HCL.out A2 (L + 1) c2' D9 X5 hG9.keeps hG9.le hds9)
                go_simp
                go_wp2_with ((go_at_call 28; refine HCX.out.mono ?_; rintro e X6 ⟨rfl, hb28⟩))
                replace hap := hap.call hb28
                refine hK.out _ _ (SH.out _ hap.below) (fun hHeld => ?_)
                clear hK K'
                clear HCX hb28 hG9 hds9
                refine wpAnyH_take (i := 11) (v := ?_) rfl (by kernel_rfl) (by kernel_rfl) (by kernel_rfl) (fun _ _ _ h => h) (Or.inl ⟨by rfl, ?_⟩) hHeld ?_
                rotate_left
                · (intro wz hSw; (try dsimp only at hSw); go_simp; try with_reducible rfl)
                simp only [Act.put, List.getElem_toArray, List.getElem_cons_zero, List.getElem_cons_succ, List.setIfInBounds_toArray, List.set_cons_zero, List.set_cons_succ]
                refine wpAnyH_take (i := 12) (v := ?_) rfl (by kernel_rfl) (by kernel_rfl) (by kernel_rfl) (fun _ _ _ h => h) (Or.inl ⟨by rfl, ?_⟩) hHeld ?_
                rotate_left
                · (intro wz hSw; (try dsimp only at hSw); go_simp; try with_reducible rfl)
                simp only [Act.put, List.getElem_toArray, List.getElem_cons_zero, List.getElem_cons_succ, List.setIfInBounds_toArray, List.set_cons_zero, List.set_cons_succ]
                refine wpAnyH_take (i := 13) (v := ?_) rfl (by kernel_rfl) (by kernel_rfl) (by kernel_rfl) (fun _ _ _ h => h) (Or.inl ⟨by rfl, ?_⟩) hHeld ?_
                rotate_left
                · (intro wz hSw; (try dsimp only at hSw); go_simp; try with_reducible rfl)
                simp only [Act.put, List.getElem_toArray, List.getElem_cons_zero, List.getElem_cons_succ, List.setIfInBounds_toArray, List.set_cons_zero, List.set_cons_succ]
                refine wpAnyH_ready (rs := [15]) (by kernel_rfl) (by simp) (AllReadyH.cons rfl (fun K' hK => ?_) AllReadyH.nil)
                obtain ⟨hst, hbst⟩ := hap.store (gz := X3.heap.size) (by simp) zeros32 rfl
                go_simp
                refine hK.out _ _ (SH.out _ hbst) (fun hHeld => ?_)
                clear hK K' hst
                refine wpAnyH_ready (rs := [16]) (by kernel_rfl) (by simp) (AllReadyH.cons rfl (fun K' hK => ?_) AllReadyH.nil)
                go_simp
                refine hK.out _ _ hHeld (fun hHeld => ?_)
                clear hK K'
                refine wpAnyH_done (by kernel_rfl) ?_ _
                go_wp2_with fail
                go_meet
                exact ⟨rfl, belowVia hbst hbel9, hk9.below hbst (Nat.le_refl _)⟩
            · go_simp
              replace hap := hap.build (darr [])
              refine hK.out _ _ (SH.out _ hap.below) (fun hHeld => ?_)
              clear hK K'
              change wpAnyH _ _ _ _ _ _ _ _ (X2.alloc (.cells (darr []) 26))
              generalize X2.alloc (.cells (darr []) 26) = X3 at *
              refine wpAnyH_ready (rs := [6]) (by kernel_rfl) (by simp) (AllReadyH.cons rfl (fun K' hK => ?_) AllReadyH.nil)
              obtain ⟨A1, c1, X4, hrun, hapn⟩ := hap.app1 D5 hk9 A5 L c5 P hp hl1000
              refine step_append_run _ rfl _ _ 30 30 rfl _ _ rfl rfl _ _ hrun ?_
              refine hK.out _ _ (SH.out _ hapn.below) (fun hHeld => ?_)
              clear hK K' hrun hap
              have hap := hapn
              clear hapn
              refine wpAnyH_ready (rs := [9]) (by kernel_rfl) (by simp) (AllReadyH.cons rfl (fun K' hK => ?_) AllReadyH.nil)
              obtain ⟨A2, c2', X5, hrun, hapn⟩ := hap.app2 H32.out (go := X0.heap.size) (by simp) hl1000
              refine step_append_run _ rfl _ _ 30 30 rfl _ _ rfl rfl _ _ hrun ?_
              refine hK.out _ _ (SH.out _ hapn.below) (fun hHeld => ?_)
              clear hK K' hrun hap
              have hap := hapn
              clear hapn
              refine wpAnyH_ready (rs := [10]) (by kernel_rfl) (by simp) (AllReadyH.cons rfl (fun K' hK => ?_) AllReadyH.nil)
              obtain ⟨D9, hG9, hds9⟩ := hap.pub hall D5 hk9
              have HCX := Lib.hid (HCL.out A2 (L + 1) c2' D9 X5 hG9.keeps hG9.le hds9)
              go_simp
              go_wp2_with ((go_at_call 28; refine HCX.out.mono ?_; rintro e X6 ⟨rfl, hb28⟩))
              replace hap := hap.call hb28
              refine hK.out _ _ (SH.out _ hap.below) (fun hHeld => ?_)
              clear hK K'
              clear HCX hb28 hG9 hds9
              refine wpAnyH_take (i := 11) (v := ?_) rfl (by kernel_rfl) (by kernel_rfl) (by kernel_rfl) (fun _ _ _ h => h) (Or.inl ⟨by rfl, ?_⟩) hHeld ?_
              rotate_left
              · (intro wz hSw; (try dsimp only at hSw); go_simp; try with_reducible rfl)
              simp only [Act.put, List.getElem_toArray, List.getElem_cons_zero, List.getElem_cons_succ, List.setIfInBounds_toArray, List.set_cons_zero, List.set_cons_succ]
              refine wpAnyH_take (i := 12) (v := ?_) rfl (by kernel_rfl) (by kernel_rfl) (by kernel_rfl) (fun _ _ _ h => h) (Or.inl ⟨by rfl, ?_⟩) hHeld ?_
              rotate_left
              · (intro wz hSw; (try dsimp only at hSw); go_simp; try with_reducible rfl)
              simp only [Act.put, List.getElem_toArray, List.getElem_cons_zero, List.getElem_cons_succ, List.setIfInBounds_toArray, List.set_cons_zero, List.set_cons_succ]
              refine wpAnyH_take (i := 13) (v := ?_) rfl (by kernel_rfl) (by kernel_rfl) (by kernel_rfl) (fun _ _ _ h => h) (Or.inl ⟨by rfl, ?_⟩) hHeld ?_
              rotate_left
              · (intro wz hSw; (try dsimp only at hSw); go_simp; try with_reducible rfl)
              simp only [Act.put, List.getElem_toArray, List.getElem_cons_zero, List.getElem_cons_succ, List.setIfInBounds_toArray, List.set_cons_zero, List.set_cons_succ]
              refine wpAnyH_ready (rs := [15]) (by kernel_rfl) (by simp) (AllReadyH.cons rfl (fun K' hK => ?_) AllReadyH.nil)
              obtain ⟨hst, hbst⟩ := hap.store (gz := X2.heap.size) (by simp) zeros32 rfl
              go_simp
              refine hK.out _ _ (SH.out _ hbst) (fun hHeld => ?_)
              clear hK K' hst
              refine wpAnyH_ready (rs := [16]) (by kernel_rfl) (by simp) (AllReadyH.cons rfl (fun K' hK => ?_) AllReadyH.nil)
              go_simp
              refine hK.out _ _ hHeld (fun hHeld => ?_)
              clear hK K'
              refine wpAnyH_done (by kernel_rfl) ?_ _
              go_wp2_with fail
              go_meet
              exact ⟨rfl, belowVia hbst hbel9, hk9.below hbst (Nat.le_refl _)⟩
          · go_simp
            replace hap := hap.build (darr [])
            refine hK.out _ _ (SH.out _ hap.below) (fun hHeld => ?_)
            clear hK K'
            change wpAnyH _ _ _ _ _ _ _ _ (X1.alloc (.cells (darr []) 26))
            generalize X1.alloc (.cells (darr []) 26) = X2 at *
            refine wpAnyH_ready (rs := [4]) (by kernel_rfl) (by simp) (AllReadyH.cons rfl (fun K' hK => ?_) AllReadyH.nil)
            go_simp
            replace hap := hap.build0
            refine hK.out _ _ (SH.out _ hap.below) (fun hHeld => ?_)
            clear hK K'
            generalize X2.alloc (.cells #[] 26) = X3 at *
            refine wpAnyH_ready (rs := [6]) (by kernel_rfl) (by simp) (AllReadyH.cons rfl (fun K' hK => ?_) AllReadyH.nil)
            obtain ⟨A1, c1, X4, hrun, hapn⟩ := hap.app1 D5 hk9 A5 L c5 P hp hl1000
            refine step_append_run _ rfl _ _ 30 30 rfl _ _ rfl rfl _ _ hrun ?_
            refine hK.out _ _ (SH.out _ hapn.below) (fun hHeld => ?_)
            clear hK K' hrun hap
            have hap := hapn
            clear hapn
            refine wpAnyH_ready (rs := [9]) (by kernel_rfl) (by simp) (AllReadyH.cons rfl (fun K' hK => ?_) AllReadyH.nil)
            obtain ⟨A2, c2', X5, hrun, hapn⟩ := hap.app2 H32.out (go := X0.heap.size) (by simp) hl1000
            refine step_append_run _ rfl _ _ 30 30 rfl _ _ rfl rfl _ _ hrun ?_
            refine hK.out _ _ (SH.out _ hapn.below) (fun hHeld => ?_)
            clear hK K' hrun hap
            have hap := hapn
            clear hapn
            refine wpAnyH_ready (rs := [10]) (by kernel_rfl) (by simp) (AllReadyH.cons rfl (fun K' hK => ?_) AllReadyH.nil)
            obtain ⟨D9, hG9, hds9⟩ := hap.pub hall D5 hk9
            have HCX := Lib.hid (HCL.out A2 (L + 1) c2' D9 X5 hG9.keeps hG9.le hds9)
            go_simp
            go_wp2_with ((go_at_call 28; refine HCX.out.mono ?_; rintro e X6 ⟨rfl, hb28⟩))
            replace hap := hap.call hb28
            refine hK.out _ _ (SH.out _ hap.below) (fun hHeld => ?_)
            clear hK K'
            clear HCX hb28 hG9 hds9
            refine wpAnyH_take (i := 11) (v := ?_) rfl (by kernel_rfl) (by kernel_rfl) (by kernel_rfl) (fun _ _ _ h => h) (Or.inl ⟨by rfl, ?_⟩) hHeld ?_
            rotate_left
            · (intro wz hSw; (try dsimp only at hSw); go_simp; try with_reducible rfl)
            simp only [Act.put, List.getElem_toArray, List.getElem_cons_zero, List.getElem_cons_succ, List.setIfInBounds_toArray, List.set_cons_zero, List.set_cons_succ]
            refine wpAnyH_take (i := 12) (v := ?_) rfl (by kernel_rfl) (by kernel_rfl) (by kernel_rfl) (fun _ _ _ h => h) (Or.inl ⟨by rfl, ?_⟩) hHeld ?_
            rotate_left
            · (intro wz hSw; (try dsimp only at hSw); go_simp; try with_reducible rfl)
            simp only [Act.put, List.getElem_toArray, List.getElem_cons_zero, List.getElem_cons_succ, List.setIfInBounds_toArray, List.set_cons_zero, List.set_cons_succ]
            refine wpAnyH_take (i := 13) (v := ?_) rfl (by kernel_rfl) (by kernel_rfl) (by kernel_rfl) (fun _ _ _ h => h) (Or.inl ⟨by rfl, ?_⟩) hHeld ?_
            rotate_left
            · (intro wz hSw; (try dsimp only at hSw); go_simp; try with_reducible rfl)
            simp only [Act.put, List.getElem_toArray, List.getElem_cons_zero, List.getElem_cons_succ, List.setIfInBounds_toArray, List.set_cons_zero, List.set_cons_succ]
            refine wpAnyH_ready (rs := [15]) (by kernel_rfl) (by simp) (AllReadyH.cons rfl (fun K' hK => ?_) AllReadyH.nil)
            obtain ⟨hst, hbst⟩ := hap.store (gz := X1.heap.size) (by simp) zeros32 rfl
            go_simp
            refine hK.out _ _ (SH.out _ hbst) (fun hHeld => ?_)
            clear hK K' hst
            refine wpAnyH_ready (rs := [16]) (by kernel_rfl) (by simp) (AllReadyH.cons rfl (fun K' hK => ?_) AllReadyH.nil)
            go_simp
            refine hK.out _ _ hHeld (fun hHeld => ?_)
            clear hK K'
            refine wpAnyH_done (by kernel_rfl) ?_ _
            go_wp2_with fail
            go_meet
            exact ⟨rfl, belowVia hbst hbel9, hk9.below hbst (Nat.le_refl _)⟩
        · go_simp
          replace hap := hap.build (darr [])
          refine hK.out _ _ (SH.out _ hap.below) (fun hHeld => ?_)
          clear hK K'
          change wpAnyH _ _ _ _ _ _ _ _ (X0.alloc (.cells (darr []) 26))
          generalize X0.alloc (.cells (darr []) 26) = X1 at *
          refine wpAnyH_ready (rs := [4, 8]) (by kernel_rfl) (by simp) (AllReadyH.cons rfl (fun K' hK => ?_) (AllReadyH.cons rfl (fun K' hK => ?_) AllReadyH.nil))
          · go_simp
            replace hap := hap.build0
            refine hK.out _ _ (SH.out _ hap.below) (fun hHeld => ?_)
            clear hK K'
            generalize X1.alloc (.cells #[] 26) = X2 at *
            refine wpAnyH_ready (rs := [6, 8]) (by kernel_rfl) (by simp) (AllReadyH.cons rfl (fun K' hK => ?_) (AllReadyH.cons rfl (fun K' hK => ?_) AllReadyH.nil))
            · obtain ⟨A1, c1, X3, hrun, hapn⟩ := hap.app1 D5 hk9 A5 L c5 P hp hl1000
              refine step_append_run _ rfl _ _ 30 30 rfl _ _ rfl rfl _ _ hrun ?_
              refine hK.out _ _ (SH.out _ hapn.below) (fun hHeld => ?_)
              clear hK K' hrun hap
              have hap := hapn
              clear hapn
              refine wpAnyH_ready (rs := [8]) (by kernel_rfl) (by simp) (AllReadyH.cons rfl (fun K' hK => ?_) AllReadyH.nil)
              go_simp
              replace hap := hap.build (darr d)
              refine hK.out _ _ (SH.out _ hap.below) (fun hHeld => ?_)
              clear hK K'
              generalize X3.alloc (.cells (darr d) 26) = X4 at *
              refine wpAnyH_ready (rs := [9]) (by kernel_rfl) (by simp) (AllReadyH.cons rfl (fun K' hK => ?_) AllReadyH.nil)
              obtain ⟨A2, c2', X5, hrun, hapn⟩ := hap.app2 H32.out (go := X3.heap.size) (by simp) hl1000
              refine step_append_run _ rfl _ _ 30 30 rfl _ _ rfl rfl _ _ hrun ?_
              refine hK.out _ _ (SH.out _ hapn.below) (fun hHeld => ?_)
              clear hK K' hrun hap
              have hap := hapn
              clear hapn
              refine wpAnyH_ready (rs := [10]) (by kernel_rfl) (by simp) (AllReadyH.cons rfl (fun K' hK => ?_) AllReadyH.nil)
              obtain ⟨D9, hG9, hds9⟩ := hap.pub hall D5 hk9
              have HCX := Lib.hid (HCL.out A2 (L + 1) c2' D9 X5 hG9.keeps hG9.le hds9)
              go_simp
              go_wp2_with ((go_at_call 28; refine HCX.out.mono ?_; rintro e X6 ⟨rfl, hb28⟩))
              replace hap := hap.call hb28
              refine hK.out _ _ (SH.out _ hap.below) (fun hHeld => ?_)
              clear hK K'
              clear HCX hb28 hG9 hds9
              refine wpAnyH_take (i := 11) (v := ?_) rfl (by kernel_rfl) (by kernel_rfl) (by kernel_rfl) (fun _ _ _ h => h) (Or.inl ⟨by rfl, ?_⟩) hHeld ?_
              rotate_left
              · (intro wz hSw; (try dsimp only at hSw); go_simp; try with_reducible rfl)
              simp only [Act.put, List.getElem_toArray, List.getElem_cons_zero, List.getElem_cons_succ, List.setIfInBounds_toArray, List.set_cons_zero, List.set_cons_succ]
              refine wpAnyH_take (i := 12) (v := ?_) rfl (by kernel_rfl) (by kernel_rfl) (by kernel_rfl) (fun _ _ _ h => h) (Or.inl ⟨by rfl, ?_⟩) hHeld ?_
              rotate_left
              · (intro wz hSw; (try dsimp only at hSw); go_simp; try with_reducible rfl)
              simp only [Act.put, List.getElem_toArray, List.getElem_cons_zero, List.getElem_cons_succ, List.setIfInBounds_toArray, List.set_cons_zero, List.set_cons_succ]
              refine wpAnyH_take (i := 13) (v := ?_) rfl (by kernel_rfl) (by kernel_rfl) (by kernel_rfl) (fun _ _ _ h => h) (Or.inl ⟨by rfl, ?_⟩) hHeld ?_
              rotate_left
              · (intro wz hSw; (try dsimp only at hSw); go_simp; try with_reducible rfl)
              simp only [Act.put, List.getElem_toArray, List.getElem_cons_zero, List.getElem_cons_succ, List.setIfInBounds_toArray, List.set_cons_zero, List.set_cons_succ]
              refine wpAnyH_ready (rs := [15]) (by kernel_rfl) (by simp) (AllReadyH.cons rfl (fun K' hK => ?_) AllReadyH.nil)
              obtain ⟨hst, hbst⟩ := hap.store (gz := X0.heap.size) (by simp) zeros32 rfl
              go_simp
              refine hK.out _ _ (SH.out _ hbst) (fun hHeld => ?_)
              clear hK K' hst
              refine wpAnyH_ready (rs := [16]) (by kernel_rfl) (by simp) (AllReadyH.cons rfl (fun K' hK => ?_) AllReadyH.nil)
              go_simp
              refine hK.out _ _ hHeld (fun hHeld => ?_)
              clear hK K'
              refine wpAnyH_done (by kernel_rfl) ?_ _
              go_wp2_with fail
              go_meet
              exact ⟨rfl, belowVia hbst hbel9, hk9.below hbst (Nat.le_refl _)⟩
            · go_simp
              replace hap := hap.build (darr d)
              refine hK.out _ _ (SH.out _ hap.below) (fun hHeld => ?_)
              clear hK K'
              generalize X2.alloc (.cells (darr d) 26) = X3 at *
              refine wpAnyH_ready (rs := [6]) (by kernel_rfl) (by simp) (AllReadyH.cons rfl (fun K' hK => ?_) AllReadyH.nil)
              obtain ⟨A1, c1, X4, hrun, hapn⟩ := hap.app1 D5 hk9 A5 L c5 P hp hl1000
              refine step_append_run _ rfl _ _ 30 30 rfl _ _ rfl rfl _ _ hrun ?_
              refine hK.out _ _ (SH.out _ hapn.below) (fun hHeld => ?_)
              clear hK K' hrun hap
              have hap := hapn
              clear hapn
              refine wpAnyH_ready (rs := [9]) (by kernel_rfl) (by simp) (AllReadyH.cons rfl (fun K' hK => ?_) AllReadyH.nil)
              obtain ⟨A2, c2', X5, hrun, hapn⟩ := hap.app2 H32.out (go := X2.heap.size) (by simp) hl1000
              refine step_append_run _ rfl _ _ 30 30 rfl _ _ rfl rfl _ _ hrun ?_
              refine hK.out _ _ (SH.out _ hapn.below) (fun hHeld => ?_)
              clear hK K' hrun hap
              have hap := hapn
              clear hapn
              refine wpAnyH_ready (rs := [10]) (by kernel_rfl) (by simp) (AllReadyH.cons rfl (fun K' hK => ?_) AllReadyH.nil)
              obtain ⟨D9, hG9, hds9⟩ := hap.pub hall D5 hk9
              have HCX := Lib.hid (HCL.out A2 (L + 1) c2' D9 X5 hG9.keeps hG9.le hds9)
              go_simp
              go_wp2_with ((go_at_call 28; refine HCX.out.mono ?_; rintro e X6 ⟨rfl, hb28⟩))
              replace hap := hap.call hb28
              refine hK.out _ _ (SH.out _ hap.below) (fun hHeld => ?_)
              clear hK K'
              clear HCX hb28 hG9 hds9
              refine wpAnyH_take (i := 11) (v := ?_) rfl (by kernel_rfl) (by kernel_rfl) (by kernel_rfl) (fun _ _ _ h => h) (Or.inl ⟨by rfl, ?_⟩) hHeld ?_
              rotate_left
              · (intro wz hSw; (try dsimp only at hSw); go_simp; try with_reducible rfl)
              simp only [Act.put, List.getElem_toArray, List.getElem_cons_zero, List.getElem_cons_succ, List.setIfInBounds_toArray, List.set_cons_zero, List.set_cons_succ]
              refine wpAnyH_take (i := 12) (v := ?_) rfl (by kernel_rfl) (by kernel_rfl) (by kernel_rfl) (fun _ _ _ h => h) (Or.inl ⟨by rfl, ?_⟩) hHeld ?_
              rotate_left
              · (intro wz hSw; (try dsimp only at hSw); go_simp; try with_reducible rfl)
              simp only [Act.put, List.getElem_toArray, List.getElem_cons_zero, List.getElem_cons_succ, List.setIfInBounds_toArray, List.set_cons_zero, List.set_cons_succ]
              refine wpAnyH_take (i := 13) (v := ?_) rfl (by kernel_rfl) (by kernel_rfl) (by kernel_rfl) (fun _ _ _ h => h) (Or.inl ⟨by rfl, ?_⟩) hHeld ?_
              rotate_left
              · (intro wz hSw; (try dsimp only at hSw); go_simp; try with_reducible rfl)
              simp only [Act.put, List.getElem_toArray, List.getElem_cons_zero, List.getElem_cons_succ, List.setIfInBounds_toArray, List.set_cons_zero, List.set_cons_succ]
              refine wpAnyH_ready (rs := [15]) (by kernel_rfl) (by simp) (AllReadyH.cons rfl (fun K' hK => ?_) AllReadyH.nil)
              obtain ⟨hst, hbst⟩ := hap.store (gz := X0.heap.size) (by simp) zeros32 rfl
              go_simp
              refine hK.out _ _ (SH.out _ hbst) (fun hHeld => ?_)
              clear hK K' hst
              refine wpAnyH_ready (rs := [16]) (by kernel_rfl) (by simp) (AllReadyH.cons rfl (fun K' hK => ?_) AllReadyH.nil)
              go_simp
              refine hK.out _ _ hHeld (fun hHeld => ?_)
              clear hK K'
              refine wpAnyH_done (by kernel_rfl) ?_ _
              go_wp2_with fail
              go_meet
              exact ⟨rfl, belowVia hbst hbel9, hk9.below hbst (Nat.le_refl _)⟩
          · go_simp
            replace hap := hap.build (darr d)
            refine hK.out _ _ (SH.out _ hap.below) (fun hHeld => ?_)
            clear hK K'
            generalize X1.alloc (.cells (darr d) 26) = X2 at *
            refine wpAnyH_ready (rs := [4]) (by kernel_rfl) (by simp) (AllReadyH.cons rfl (fun K' hK => ?_) AllReadyH.nil)
            go_simp
            replace hap := hap.build0
            refine hK.out _ _ (SH.out _ hap.below) (fun hHeld => ?_)
            clear hK K'
            generalize X2.alloc (.cells #[] 26) = X3 at *
            refine wpAnyH_ready (rs := [6]) (by kernel_rfl) (by simp) (AllReadyH.cons rfl (fun K' hK => ?_) AllReadyH.nil)
            obtain ⟨A1, c1, X4, hrun, hapn⟩ := hap.app1 D5 hk9 A5 L c5 P hp hl1000
            refine step_append_run _ rfl _ _ 30 30 rfl _ _ rfl rfl _ _ hrun ?_
            refine hK.out _ _ (SH.out _ hapn.below) (fun hHeld => ?_)
            clear hK K' hrun hap
            have hap := hapn
            clear hapn
            refine wpAnyH_ready (rs := [9]) (by kernel_rfl) (by simp) (AllReadyH.cons rfl (fun K' hK => ?_) AllReadyH.nil)
            obtain ⟨A2, c2', X5, hrun, hapn⟩ := hap.app2 H32.out (go := X1.heap.size) (by simp) hl1000
            refine step_append_run _ rfl _ _ 30 30 rfl _ _ rfl rfl _ _ hrun ?_
            refine hK.out _ _ (SH.out _ hapn.below) (fun hHeld => ?_)
            clear hK K' hrun hap
            have hap := hapn
            clear hapn
            refine wpAnyH_ready (rs := [10]) (by kernel_rfl) (by simp) (AllReadyH.cons rfl (fun K' hK => ?_) AllReadyH.nil)
            obtain ⟨D9, hG9, hds9⟩ := hap.pub hall D5 hk9
            have HCX := Lib.hid (HCL.out A2 (L + 1) c2' D9 X5 hG9.keeps hG9.le hds9)
            go_simp
            go_wp2_with ((go_at_call 28; refine HCX.out.mono ?_; rintro e X6 ⟨rfl, hb28⟩))
            replace hap := hap.call hb28
            refine hK.out _ _ (SH.out _ hap.below) (fun hHeld => ?_)
            clear hK K'
            clear HCX hb28 hG9 hds9
            refine wpAnyH_take (i := 11) (v := ?_) rfl (by kernel_rfl) (by kernel_rfl) (by kernel_rfl) (fun _ _ _ h => h) (Or.inl ⟨by rfl, ?_⟩) hHeld ?_
            rotate_left
            · (intro wz hSw; (try dsimp only at hSw); go_simp; try with_reducible rfl)
            simp only [Act.put, List.getElem_toArray, List.getElem_cons_zero, List.getElem_cons_succ, List.setIfInBounds_toArray, List.set_cons_zero, List.set_cons_succ]
            refine wpAnyH_take (i := 12) (v := ?_) rfl (by kernel_rfl) (by kernel_rfl) (by kernel_rfl) (fun _ _ _ h => h) (Or.inl ⟨by rfl, ?_⟩) hHeld ?_
            rotate_left
            · (intro wz hSw; (try dsimp only at hSw); go_simp; try with_reducible rfl)
            simp only [Act.put, List.getElem_toArray, List.getElem_cons_zero, List.getElem_cons_succ, List.setIfInBounds_toArray, List.set_cons_zero, List.set_cons_succ]
            refine wpAnyH_take (i := 13) (v := ?_) rfl (by kernel_rfl) (by kernel_rfl) (by kernel_rfl) (fun _ _ _ h => h) (Or.inl ⟨by rfl, ?_⟩) hHeld ?_
            rotate_left
            · (intro wz hSw; (try dsimp only at hSw); go_simp; try with_reducible rfl)
            simp only [Act.put, List.getElem_toArray, List.getElem_cons_zero, List.getElem_cons_succ, List.setIfInBounds_toArray, List.set_cons_zero, List.set_cons_succ]
            refine wpAnyH_ready (rs := [15]) (by kernel_rfl) (by simp) (AllReadyH.cons rfl (fun K' hK => ?_) AllReadyH.nil)
            obtain ⟨hst, hbst⟩ := hap.store (gz := X0.heap.size) (by simp) zeros32 rfl
            go_simp
            refine hK.out _ _ (SH.out _ hbst) (fun hHeld => ?_)
            clear hK K' hst
            refine wpAnyH_ready (rs := [16]) (by kernel_rfl) (by simp) (AllReadyH.cons rfl (fun K' hK => ?_) AllReadyH.nil)
            go_simp
            refine hK.out _ _ hHeld (fun hHeld => ?_)
            clear hK K'
            refine wpAnyH_done (by kernel_rfl) ?_ _
            go_wp2_with fail
            go_meet
            exact ⟨rfl, belowVia hbst hbel9, hk9.below hbst (Nat.le_refl _)⟩
    · have g1 : ¬ ((i : Int) < (m : Int)) := by omega
      go_wp2
      go_ret
      exact ⟨rfl, belowVia hbr hbel2⟩
end Go.Proofs.YtohknemfcohhfaaDoor
