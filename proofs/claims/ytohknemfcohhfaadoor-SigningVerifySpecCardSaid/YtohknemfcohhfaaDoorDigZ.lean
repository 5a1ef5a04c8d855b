/-
  What is proved here: climb of the reference
-/
import Derived.Test.YtohknemfcohhfaaDoorRows
import Derived.Test.YtohknemfcohhfaaDoorBaseC
import Derived.Test.YtohknemfcohhfaaDoorSha
import Derived.Test.YtohknemfcohhfaaDoorDigA
import Derived.Test.YtohknemfcohhfaaDoorDigB
import Derived.Test.YtohknemfcohhfaaDoorDigC
import Derived.Test.YtohknemfcohhfaaDoorDigD
import Derived.Test.YtohknemfcohhfaaDoorDigE
import Derived.Test.YtohknemfcohhfaaDoorDigF
import Derived.Test.YtohknemfcohhfaaDoorDigG
import Derived.Test.YtohknemfcohhfaaDoorDigL
import Derived.Test.YtohknemfcohhfaaDoorLawHalves
import Derived.Test.YtohknemfcohhfaaDoorDigW
import Derived.Test.YtohknemfcohhfaaDoorDigX
import Derived.Test.YtohknemfcohhfaaDoorDigY
import Derived.Test.YtohknemfcohhfaaDoorDigT
import Derived.Test.YtohknemfcohhfaaDoorDigR
import Derived.Great.BuildSlice
import Derived.Test.YtohknemfcohhfaaDoorDigQ
import Derived.Stop.BytesEq
import Derived.Test.YtohknemfcohhfaaDoorDigU
import Derived.Test.YtohknemfcohhfaaDoorDigV
import Derived.Lib.ConvBytes
import Derived.StillTailTactics
import Derived.Lib.AppendZerosOnto
import Derived.Deep.RegionHeld3
import Derived.Deep.MidRow
import Derived.Deep.RegionLaw
import Derived.Deep.DeepCutAuto
import Derived.Deep.QuietTactic
import Derived.BigQuiet
import Derived.Laws.EntriesVeiled
namespace Go.Proofs.YtohknemfcohhfaaDoor
open Go.RowKit Go.VS
set_option maxRecDepth 100000 in
set_option maxHeartbeats 1000000 in
theorem rclimb_c {sh : List UInt8 → List UInt8} (hs : Sh sh) (d : List UInt8) (hd : d.length = 32) : ∀ (m : Nat) (at_ n : Nat) (A : Option Addr) (l c : Nat) (ps : List (List UInt8)) (D : Gh) (w : World), Keeps D w → DS D (.slice A l c) ps → at_ < n → n ≤ m → n ≤ 1099511627776 → ps.length = lenF at_ n →
    Calls Tryd.prog 64 #[dg d, .int .i64 at_, .int .i64 n, .slice A l c] w fun e w' => e = .returned (dg (climbF (tagB sh) d at_ n ps)) ∧ Below w.heap.size w w' := by
  intro m
  induction m using Nat.strongRecOn with
  | ind m ih =>
    intro at_ n A l c ps D w hk hp ha hm hlim hlen
    obtain ⟨hnl, hnc, hcm⟩ := hp.len
    unfold maxLen at hcm
    have HD := Lib.hid hd
    clear hd
    have hB1 := Box.new2 hk rfl 26 (darr d)
    have hG1 := (Grow.refl hk).alloc (.cells (darr d) 26)
    have hB2 := Box.new2 hG1.keeps rfl 26 (darr [])
    have hG2 := hG1.alloc (.cells (darr []) 26)
    have hB1' := hB1.alloc (.cells (darr []) 26)
    rw [show (w.alloc (.cells (darr d) 26)).heap.size = w.heap.size + 1 by simp] at hB2
    have hlt1 : w.heap.size < w.heap.size + 1 := by omega
    clear hB1 hG1
    by_cases h2 : 2 ≤ n
    · have hh1 := half_lt h2
      have hh2 := half_pos n
      have hsp := rhalf_c n h2 hlim
      have hne : ((n : Int) == 1) = false := by simp; omega
      have hL40 := lenF_le 40 at_ n (by omega)
      obtain ⟨l', rfl⟩ : ∃ l', l = l' + 1 := by
        by_cases hlo : at_ < half n
        · rw [lenF_lo h2 hlo] at hlen; exact ⟨l - 1, by omega⟩
        · rw [lenF_hi h2 hlo] at hlen; exact ⟨l - 1, by omega⟩
      have hl40 : l' < 40 := by omega
      obtain ⟨hsl1, hds1⟩ := ds_head hp (k := l') (by omega)
      obtain ⟨b, o, rfl, hx32, hrange⟩ := ds_range hp hG2.keeps (k := l') (by omega)
      rw [Nat.mul_comm] at hrange
      have hlast : ps.getLastD [] = ps[l']'(by omega) := by
        have hpl : ps.length - 1 = l' := by omega
        rw [List.getLastD_eq_getLast?, List.getLast?_eq_getElem?, hpl, List.getElem?_eq_getElem (by omega)]
        rfl
      have hdrop : ps.dropLast = ps.take l' := by rw [List.dropLast_eq_take, ← hnl, Nat.add_sub_cancel]
      generalize hxx : ps[l']'(by omega) = x at *
      have hsx := sz26l x hx32
      have HX := Lib.hid hx32
      have HNL := Lib.hid hnl
      clear hx32 hnl hxx
      have hB3n := Box.new2 hG2.keeps (g := w.heap.size + 1 + 1) (by simp) 26 (darr [])
      have hG3 := growRow (hG2.alloc (.cells (darr []) 26)) (g := w.heap.size + 1 + 1) (by omega) hB3n.off (darr x)
      have hB1x := (hB1'.alloc (.cells (darr []) 26)).farRow (p := w.heap.size + 1 + 1) (by omega) (darr x)
      have hB2x := (hB2.alloc (.cells (darr []) 26)).farRow (p := w.heap.size + 1 + 1) (by omega) (darr x)
      have hB3 := hB3n.setRow (darr x)
      have hszd := sz26l d HD.out
      have hszx := sz26l x HX.out
      have hsdx : (darr []).size = (darr x).size := by rw [darr_size _ (by simp), darr_size _ (by rw [HX.out]; omega)]
      have hsx26 := sz26 x HX.out
      have SH : Hid (∀ W, Box W D w.heap.size 26 (darr d) → Box W D (w.heap.size + 1 + 1) 26 (darr x) → (W.rangeAt w.heap.size 0 (d.map bv) ∧ W.rangeAt (w.heap.size + 1 + 1) 0 (x.map bv))) := fun W h1 h2 => ⟨fun j v hv => by
        rw [Nat.zero_add, h1.cell, darr_full d HD.out]; simpa using hv, fun j v hv => by
        rw [Nat.zero_add, h2.cell, darr_full x HX.out]; simpa using hv⟩
      have hu26 := Tryd.underlying26
      have hli : (l' : Int) < (l' : Int) + 1 := by omega
      have hl0 : (0 : Int) ≤ (l' : Int) := by omega
      have hlc : (l' : Int) ≤ (c : Int) := by omega
      have hwl : IntKind.i64.wrap (l' : Int) = l' := by rw [IntKind.wrap_i64]; omega
      by_cases hlo : at_ < half n
      · have HTR := Lib.hid (climbF_lo (tagB sh) d ps h2 hlo)
        rw [hlast, hdrop] at HTR
        have hlen' : (ps.take l').length = lenF at_ (half n) := by rw [lenF_lo h2 hlo] at hlen; have := HNL.out; rw [List.length_take]; omega
        have ih1 := fun W hk => ih (half n) (by omega) at_ (half n) _ l' _ _ D W hk hds1 hlo (Nat.le_refl _) (by omega) hlen'
        have hL1 := Lib.hid (climbF_len hs d at_ (half n) (ps.take l'))
        generalize climbF (tagB sh) d at_ (half n) (ps.take l') = r1 at *
        generalize half n = k at *
        have HND := Lib.hid (fun W hk => rnode_c hs r1 x hL1.out HX.out D W hk)
        have HR32 := Lib.hid (show (tagB sh nodeT (r1 ++ x)).length = 32 from hs.len _)
        generalize hr : tagB sh nodeT (r1 ++ x) = r at HR32 HND HTR
        clear hr ih hlen hlen' hdrop hlast hds1
        have hrdg := dg_darr r HR32.out
        rw [hrdg] at HND
        unfold dg at HND ih1
        have hsr26 := Lib.hid (sz26 r HR32.out)
        have hs32 : (darr r).size = 32 := darr_size _ (by rw [HR32.out]; omega)
        rw [dg_darr d HD.out]
        go_enter Tryd.func64, Tryd.ntmps64
        go_wp2_with fail
        refine (hsp _).mono ?_
        rintro e W ⟨rfl, hW⟩
        have hW' : (w.alloc (.cells (darr d) 26)).alloc (.cells (darr []) 26) = W := hW
        rw [← hW']
        clear hW hW' hsp
        go_wp2_with (first | (refine wpList_load_mid rfl 26 _ rfl b (o + l' * 32) rfl _ _ hrange Tryd.underlying26 rfl hsx ?_) | (rw [← darr_full x HX.out]; refine wpList_store_row rfl 26 _ _ rfl (w.heap.size + 1 + 1) (darr x) rfl rfl 26 (darr []) hB3n.heap hsx26 hsdx (darr_one _) ?_))
        change Code.wp _ _ _ _ ((((w.alloc (.cells (darr d) 26)).alloc (.cells (darr []) 26)).alloc (.cells (darr []) 26)).setRow (w.heap.size + 1 + 1) (darr x))
        clear hB1' hB2 hB3n hG2 hrange
        generalize (((w.alloc (.cells (darr d) 26)).alloc (.cells (darr []) 26)).alloc (.cells (darr []) 26)).setRow (w.heap.size + 1 + 1) (darr x) = W at *
        have hkW := hG3.keeps
        have hbelW := hG3.below
        refine wp_region_held_drew (S := fun W => W.rangeAt w.heap.size 0 (d.map bv) ∧ W.rangeAt (w.heap.size + 1 + 1) 0 (x.map bv)) (by kernel_rfl) (SH.out _ hB1x.drew hB3.drew) (fun hHeld => ?_)
        refine wpAnyH_take (i := 0) (v := (.agg (d.map bv).toArray)) rfl (by kernel_rfl) (by kernel_rfl) (by kernel_rfl) (fun _ _ _ h => h) (yieldsIf_load_mid (by rfl) _ _ rfl _ _ rfl _ _ (fun w h => h.1) hu26 rfl hszd) hHeld ?_
        simp only [Act.put, List.getElem_toArray, List.getElem_cons_zero, List.setIfInBounds_toArray, List.set_cons_zero, List.set_cons_succ]
        refine wpAnyH_take (i := 1) (v := ?_) rfl (by kernel_rfl) (by kernel_rfl) (by kernel_rfl) (fun _ _ _ h => h) (Or.inl ⟨by rfl, ?_⟩) hHeld ?_
        rotate_left
        · (intro wz hSw; (try dsimp only at hSw); go_simp; try with_reducible rfl)
        simp only [Act.put, List.getElem_toArray, List.getElem_cons_zero, List.getElem_cons_succ, List.setIfInBounds_toArray, List.set_cons_zero, List.set_cons_succ]
        refine wpAnyH_take (i := 2) (v := ?_) rfl (by kernel_rfl) (by kernel_rfl) (by kernel_rfl) (fun _ _ _ h => h) (Or.inl ⟨by rfl, ?_⟩) hHeld ?_
        rotate_left
        · (intro wz hSw; (try dsimp only at hSw); go_simp; try with_reducible rfl)
        simp only [Act.put, List.getElem_toArray, List.getElem_cons_zero, List.getElem_cons_succ, List.setIfInBounds_toArray, List.set_cons_zero, List.set_cons_succ]
        refine wpAnyH_take (i := 3) (v := ?_) rfl (by kernel_rfl) (by kernel_rfl) (by kernel_rfl) (fun _ _ _ h => h) (Or.inl ⟨by rfl, ?_⟩) hHeld ?_
        rotate_left
        · (intro wz hSw; (try dsimp only at hSw); go_simp; try with_reducible rfl)
        simp only [Act.put, List.getElem_toArray, List.getElem_cons_zero, List.getElem_cons_succ, List.setIfInBounds_toArray, List.set_cons_zero, List.set_cons_succ]
        refine wpAnyH_take (i := 4) (v := ?_) rfl (by kernel_rfl) (by kernel_rfl) (by kernel_rfl) (fun _ _ _ h => h) (Or.inl ⟨by rfl, ?_⟩) hHeld ?_
        rotate_left
        · (intro wz hSw; (try dsimp only at hSw); go_simp; try with_reducible rfl)
        simp only [Act.put, List.getElem_toArray, List.getElem_cons_zero, List.getElem_cons_succ, List.setIfInBounds_toArray, List.set_cons_zero, List.set_cons_succ]
        refine wpAnyH_take (i := 5) (v := ?_) rfl (by kernel_rfl) (by kernel_rfl) (by kernel_rfl) (fun _ _ _ h => h) (Or.inl ⟨by rfl, ?_⟩) hHeld ?_
        rotate_left
        · (intro wz hSw; (try dsimp only at hSw); go_simp; try with_reducible rfl)
        simp only [Act.put, List.getElem_toArray, List.getElem_cons_zero, List.getElem_cons_succ, List.setIfInBounds_toArray, List.set_cons_zero, List.set_cons_succ]
        refine wpAnyH_take (i := 6) (v := ?_) rfl (by kernel_rfl) (by kernel_rfl) (by kernel_rfl) (fun _ _ _ h => h) (Or.inl ⟨by rfl, ?_⟩) hHeld ?_
        rotate_left
        · (intro wz hSw; (try dsimp only at hSw); go_simp; try with_reducible rfl)
        simp only [Act.put, List.getElem_toArray, List.getElem_cons_zero, List.getElem_cons_succ, List.setIfInBounds_toArray, List.set_cons_zero, List.set_cons_succ]
        refine wpAnyH_take (i := 7) (v := ?_) rfl (by kernel_rfl) (by kernel_rfl) (by kernel_rfl) (fun _ _ _ h => h) (Or.inl ⟨by rfl, ?_⟩) hHeld ?_
        rotate_left
        · (intro wz hSw; (try dsimp only at hSw); go_simp; try with_reducible rfl)
        simp only [Act.put, List.getElem_toArray, List.getElem_cons_zero, List.getElem_cons_succ, List.setIfInBounds_toArray, List.set_cons_zero, List.set_cons_succ]
        refine wpAnyH_take (i := 9) (v := (.agg (x.map bv).toArray)) rfl (by kernel_rfl) (by kernel_rfl) (by kernel_rfl) (fun _ _ _ h => h) (yieldsIf_load_mid (by rfl) _ _ rfl _ _ rfl _ _ (fun w h => h.2) hu26 rfl hszx) hHeld ?_
        simp only [Act.put, List.getElem_toArray, List.getElem_cons_zero, List.getElem_cons_succ, List.setIfInBounds_toArray, List.set_cons_zero, List.set_cons_succ]
        refine wpAnyH_ready (rs := [8]) (by kernel_rfl) (by simp) (AllReadyH.cons rfl (fun K' hK => ?_) AllReadyH.nil)
        go_simp
        go_wp2_with ((go_at_call 64; refine (ih1 _ hkW.drew).mono ?_; rintro e w2 ⟨rfl, hb2⟩))
        have hk2 := hkW.drew.below hb2 (Nat.le_refl _)
        have hC1 := hB1x.drew.below hb2 hB1x.drew.lt
        have hC2 := hB2x.drew.below hb2 hB2x.drew.lt
        have hC3 := hB3.drew.below hb2 hB3.drew.lt
        have hbel2 := belowVia hb2 hbelW.drew
        refine hK.out _ _ (SH.out _ hC1 hC3) (fun hHeld => ?_)
        clear hK K'
        refine wpAnyH_ready (rs := [10]) (by kernel_rfl) (by simp) (AllReadyH.cons rfl (fun K' hK => ?_) AllReadyH.nil)
        go_simp
        go_wp2_with ((go_at_call 58; refine (HND.out _ hk2).mono ?_; rintro e w3 ⟨rfl, hb3⟩))
        have hE1 := hC1.below hb3 hC1.lt
        have hE2 := hC2.below hb3 hC2.lt
        have hE3 := hC3.below hb3 hC3.lt
        have hbel3 := belowVia hb3 hbel2
        have hst := store_run hE2 HR32.out
        refine hK.out _ _ (SH.out _ hE1 hE3) (fun hHeld => ?_)
        clear hK K'
        refine wpAnyH_ready (rs := [11]) (by kernel_rfl) (by simp) (AllReadyH.cons rfl (fun K' hK => ?_) AllReadyH.nil)
        go_simp
        refine hK.out _ _ (SH.out _ (hE1.farRow (by omega) _) (hE3.farRow (by omega) _)) (fun hHeld => ?_)
        clear hK K'
        refine wpAnyH_done (by kernel_rfl) ?_ _
        go_wp2_with fail
        refine bodyPost_ret (results_cell_row rfl _ _ _ _ _ _ _ rfl (hE2.setRow _).heap Tryd.underlying26 rfl hsr26.out) rfl ⟨?_, belowRow hbel3 (by omega) _⟩
        rw [HTR.out, hrdg]
      · have HTR := Lib.hid (climbF_hi (tagB sh) d ps h2 hlo)
        rw [hlast, hdrop] at HTR
        have hlen' : (ps.take l').length = lenF (at_ - half n) (n - half n) := by rw [lenF_hi h2 hlo] at hlen; have := HNL.out; rw [List.length_take]; omega
        have ih1 := fun W hk => ih (n - half n) (by omega) (at_ - half n) (n - half n) _ l' _ _ D W hk hds1 (by omega) (Nat.le_refl _) (by omega) hlen'
        have hL1 := Lib.hid (climbF_len hs d (at_ - half n) (n - half n) (ps.take l'))
        generalize climbF (tagB sh) d (at_ - half n) (n - half n) (ps.take l') = r1 at *
        generalize half n = k at *
        have HND := Lib.hid (fun W hk => rnode_c hs x r1 HX.out hL1.out D W hk)
        have HR32 := Lib.hid (show (tagB sh nodeT (x ++ r1)).length = 32 from hs.len _)
        generalize hr : tagB sh nodeT (x ++ r1) = r at HR32 HND HTR
        clear hr ih hlen hlen' hdrop hlast hds1
        have hrdg := dg_darr r HR32.out
        rw [hrdg] at HND
        have e1 : ((at_ - k : Nat) : Int) = (at_ : Int) - (k : Int) := by omega
        have e2 : ((n - k : Nat) : Int) = (n : Int) - (k : Int) := by omega
        simp only [e1, e2] at ih1
        have hw1 : IntKind.i64.wrap ((at_ : Int) - (k : Int)) = (at_ : Int) - k := by rw [IntKind.wrap_i64]; omega
        have hw2 : IntKind.i64.wrap ((n : Int) - (k : Int)) = (n : Int) - k := by rw [IntKind.wrap_i64]; omega
        clear e1 e2
        unfold dg at HND ih1
        have hsr26 := Lib.hid (sz26 r HR32.out)
        have hs32 : (darr r).size = 32 := darr_size _ (by rw [HR32.out]; omega)
        rw [dg_darr d HD.out]
        go_enter Tryd.func64, Tryd.ntmps64
        go_wp2_with fail
        refine (hsp _).mono ?_
        rintro e W ⟨rfl, hW⟩
        have hW' : (w.alloc (.cells (darr d) 26)).alloc (.cells (darr []) 26) = W := hW
        rw [← hW']
        clear hW hW' hsp
        go_wp2_with (first | (refine wpList_load_mid rfl 26 _ rfl b (o + l' * 32) rfl _ _ hrange Tryd.underlying26 rfl hsx ?_) | (rw [← darr_full x HX.out]; refine wpList_store_row rfl 26 _ _ rfl (w.heap.size + 1 + 1) (darr x) rfl rfl 26 (darr []) hB3n.heap hsx26 hsdx (darr_one _) ?_))
        change Code.wp _ _ _ _ ((((w.alloc (.cells (darr d) 26)).alloc (.cells (darr []) 26)).alloc (.cells (darr []) 26)).setRow (w.heap.size + 1 + 1) (darr x))
        clear hB1' hB2 hB3n hG2 hrange
        generalize (((w.alloc (.cells (darr d) 26)).alloc (.cells (darr []) 26)).alloc (.cells (darr []) 26)).setRow (w.heap.size + 1 + 1) (darr x) = W at *
        have hkW := hG3.keeps
        have hbelW := hG3.below
        refine wp_region_held_drew (S := fun W => W.rangeAt w.heap.size 0 (d.map bv) ∧ W.rangeAt (w.heap.size + 1 + 1) 0 (x.map bv)) (by kernel_rfl) (SH.out _ hB1x.drew hB3.drew) (fun hHeld => ?_)
        refine wpAnyH_take (i := 0) (v := (.agg (x.map bv).toArray)) rfl (by kernel_rfl) (by kernel_rfl) (by kernel_rfl) (fun _ _ _ h => h) (yieldsIf_load_mid (by rfl) _ _ rfl _ _ rfl _ _ (fun w h => h.2) hu26 rfl hszx) hHeld ?_
        simp only [Act.put, List.getElem_toArray, List.getElem_cons_zero, List.setIfInBounds_toArray, List.set_cons_zero, List.set_cons_succ]
        refine wpAnyH_take (i := 1) (v := (.agg (d.map bv).toArray)) rfl (by kernel_rfl) (by kernel_rfl) (by kernel_rfl) (fun _ _ _ h => h) (yieldsIf_load_mid (by rfl) _ _ rfl _ _ rfl _ _ (fun w h => h.1) hu26 rfl hszd) hHeld ?_
        simp only [Act.put, List.getElem_toArray, List.getElem_cons_zero, List.getElem_cons_succ, List.setIfInBounds_toArray, List.set_cons_zero, List.set_cons_succ]
        refine wpAnyH_take (i := 2) (v := ?_) rfl (by kernel_rfl) (by kernel_rfl) (by kernel_rfl) (fun _ _ _ h => h) (Or.inl ⟨by rfl, ?_⟩) hHeld ?_
        rotate_left
        · (intro wz hSw; (try dsimp only at hSw); go_simp; try with_reducible rfl)
        simp only [Act.put, List.getElem_toArray, List.getElem_cons_zero, List.getElem_cons_succ, List.setIfInBounds_toArray, List.set_cons_zero, List.set_cons_succ]
        refine wpAnyH_take (i := 3) (v := ?_) rfl (by kernel_rfl) (by kernel_rfl) (by kernel_rfl) (fun _ _ _ h => h) (Or.inl ⟨by rfl, ?_⟩) hHeld ?_
        rotate_left
        · (intro wz hSw; (try dsimp only at hSw); go_simp; try with_reducible rfl)
        simp only [Act.put, List.getElem_toArray, List.getElem_cons_zero, List.getElem_cons_succ, List.setIfInBounds_toArray, List.set_cons_zero, List.set_cons_succ]
        refine wpAnyH_take (i := 4) (v := ?_) rfl (by kernel_rfl) (by kernel_rfl) (by kernel_rfl) (fun _ _ _ h => h) (Or.inl ⟨by rfl, ?_⟩) hHeld ?_
        rotate_left
        · (intro wz hSw; (try dsimp only at hSw); go_simp; try with_reducible rfl)
        simp only [Act.put, List.getElem_toArray, List.getElem_cons_zero, List.getElem_cons_succ, List.setIfInBounds_toArray, List.set_cons_zero, List.set_cons_succ]
        refine wpAnyH_take (i := 5) (v := ?_) rfl (by kernel_rfl) (by kernel_rfl) (by kernel_rfl) (fun _ _ _ h => h) (Or.inl ⟨by rfl, ?_⟩) hHeld ?_
        rotate_left
        · (intro wz hSw; (try dsimp only at hSw); go_simp; try with_reducible rfl)
        simp only [Act.put, List.getElem_toArray, List.getElem_cons_zero, List.getElem_cons_succ, List.setIfInBounds_toArray, List.set_cons_zero, List.set_cons_succ]
        refine wpAnyH_take (i := 6) (v := ?_) rfl (by kernel_rfl) (by kernel_rfl) (by kernel_rfl) (fun _ _ _ h => h) (Or.inl ⟨by rfl, ?_⟩) hHeld ?_
        rotate_left
        · (intro wz hSw; (try dsimp only at hSw); go_simp; try with_reducible rfl)
        simp only [Act.put, List.getElem_toArray, List.getElem_cons_zero, List.getElem_cons_succ, List.setIfInBounds_toArray, List.set_cons_zero, List.set_cons_succ]
        refine wpAnyH_take (i := 7) (v := ?_) rfl (by kernel_rfl) (by kernel_rfl) (by kernel_rfl) (fun _ _ _ h => h) (Or.inl ⟨by rfl, ?_⟩) hHeld ?_
        rotate_left
        · (intro wz hSw; (try dsimp only at hSw); go_simp; try with_reducible rfl)
        simp only [Act.put, List.getElem_toArray, List.getElem_cons_zero, List.getElem_cons_succ, List.setIfInBounds_toArray, List.set_cons_zero, List.set_cons_succ]
        refine wpAnyH_take (i := 8) (v := ?_) rfl (by kernel_rfl) (by kernel_rfl) (by kernel_rfl) (fun _ _ _ h => h) (Or.inl ⟨by rfl, ?_⟩) hHeld ?_
        rotate_left
        · (intro wz hSw; (try dsimp only at hSw); go_simp; try with_reducible rfl)
        simp only [Act.put, List.getElem_toArray, List.getElem_cons_zero, List.getElem_cons_succ, List.setIfInBounds_toArray, List.set_cons_zero, List.set_cons_succ]
        refine wpAnyH_take (i := 9) (v := ?_) rfl (by kernel_rfl) (by kernel_rfl) (by kernel_rfl) (fun _ _ _ h => h) (Or.inl ⟨by rfl, ?_⟩) hHeld ?_
        rotate_left
        · (intro wz hSw; (try dsimp only at hSw); go_simp; try with_reducible rfl)
        simp only [Act.put, List.getElem_toArray, List.getElem_cons_zero, List.getElem_cons_succ, List.setIfInBounds_toArray, List.set_cons_zero, List.set_cons_succ]
        refine wpAnyH_take (i := 10) (v := ?_) rfl (by kernel_rfl) (by kernel_rfl) (by kernel_rfl) (fun _ _ _ h => h) (Or.inl ⟨by rfl, ?_⟩) hHeld ?_
        rotate_left
        · (intro wz hSw; (try dsimp only at hSw); go_simp; try with_reducible rfl)
        simp only [Act.put, List.getElem_toArray, List.getElem_cons_zero, List.getElem_cons_succ, List.setIfInBounds_toArray, List.set_cons_zero, List.set_cons_succ]
        refine wpAnyH_take (i := 11) (v := ?_) rfl (by kernel_rfl) (by kernel_rfl) (by kernel_rfl) (fun _ _ _ h => h) (Or.inl ⟨by rfl, ?_⟩) hHeld ?_
        rotate_left
        · (intro wz hSw; (try dsimp only at hSw); go_simp; try with_reducible rfl)
        simp only [Act.put, List.getElem_toArray, List.getElem_cons_zero, List.getElem_cons_succ, List.setIfInBounds_toArray, List.set_cons_zero, List.set_cons_succ]
        refine wpAnyH_take (i := 12) (v := ?_) rfl (by kernel_rfl) (by kernel_rfl) (by kernel_rfl) (fun _ _ _ h => h) (Or.inl ⟨by rfl, ?_⟩) hHeld ?_
        rotate_left
        · (intro wz hSw; (try dsimp only at hSw); go_simp; try with_reducible rfl)
        simp only [Act.put, List.getElem_toArray, List.getElem_cons_zero, List.getElem_cons_succ, List.setIfInBounds_toArray, List.set_cons_zero, List.set_cons_succ]
        refine wpAnyH_ready (rs := [13]) (by kernel_rfl) (by simp) (AllReadyH.cons rfl (fun K' hK => ?_) AllReadyH.nil)
        go_simp
        go_wp2_with ((go_at_call 64; refine (ih1 _ hkW.drew).mono ?_; rintro e w2 ⟨rfl, hb2⟩))
        have hk2 := hkW.drew.below hb2 (Nat.le_refl _)
        have hC1 := hB1x.drew.below hb2 hB1x.drew.lt
        have hC2 := hB2x.drew.below hb2 hB2x.drew.lt
        have hC3 := hB3.drew.below hb2 hB3.drew.lt
        have hbel2 := belowVia hb2 hbelW.drew
        refine hK.out _ _ (SH.out _ hC1 hC3) (fun hHeld => ?_)
        clear hK K'
        refine wpAnyH_ready (rs := [14]) (by kernel_rfl) (by simp) (AllReadyH.cons rfl (fun K' hK => ?_) AllReadyH.nil)
        go_simp
        go_wp2_with ((go_at_call 58; refine (HND.out _ hk2).mono ?_; rintro e w3 ⟨rfl, hb3⟩))
        have hE1 := hC1.below hb3 hC1.lt
        have hE2 := hC2.below hb3 hC2.lt
        have hE3 := hC3.below hb3 hC3.lt
        have hbel3 := belowVia hb3 hbel2
        have hst := store_run hE2 HR32.out
        refine hK.out _ _ (SH.out _ hE1 hE3) (fun hHeld => ?_)
        clear hK K'
        refine wpAnyH_ready (rs := [15]) (by kernel_rfl) (by simp) (AllReadyH.cons rfl (fun K' hK => ?_) AllReadyH.nil)
        go_simp
        refine hK.out _ _ (SH.out _ (hE1.farRow (by omega) _) (hE3.farRow (by omega) _)) (fun hHeld => ?_)
        clear hK K'
        refine wpAnyH_done (by kernel_rfl) ?_ _
        go_wp2_with fail
        refine bodyPost_ret (results_cell_row rfl _ _ _ _ _ _ _ rfl (hE2.setRow _).heap Tryd.underlying26 rfl hsr26.out) rfl ⟨?_, belowRow hbel3 (by omega) _⟩
        rw [HTR.out, hrdg]
    · obtain rfl : n = 1 := by omega
      have HTR := Lib.hid (climbF_one (tagB sh) d at_ ps (n := 1) (by omega))
      obtain ⟨D3, hG3, hle3, hbs3, hoff3⟩ := dgBox_bs hG2 hB1' HD.out (by omega)
      have hB3 := hB2.le (hoff3 _ hB2.off (by omega))
      have HNL := Lib.hid hnl
      have HLEN := Lib.hid hlen
      clear hnl hlen ih hB2 hG2 hB1' hle3 hoff3
      rw [dg_darr d HD.out]
      go_enter Tryd.func64, Tryd.ntmps64
      go_wp2_with fail
      refine (rtag_c hs leafT (by decide) _ 32 32 d D3 _ hG3.keeps hbs3 (by omega)).mono ?_
      rintro e w3 ⟨rfl, hb3⟩
      have hB4z := hB3.below hb3 hB3.lt
      have hbel6 := belowVia hb3 hG3.below
      have hr32 := Lib.hid (show (tagB sh leafT d).length = 32 from hs.len _)
      generalize hr : tagB sh leafT d = r at hr32 ⊢
      have HR := Lib.hid hr
      clear hr
      rw [dg_darr r hr32.out]
      have hsr : (darr []).size = (darr r).size := by rw [darr_size _ (by simp), darr_size _ (by rw [hr32.out]; omega)]
      have hsr26 := sz26 r hr32.out
      go_wp2_with (refine wpList_store_row rfl 26 _ _ rfl (w.heap.size + 1) (darr r) rfl rfl 26 (darr []) hB4z.heap hsr26 hsr (darr_one _) ?_)
      refine bodyPost_ret (results_cell_row rfl _ _ _ _ _ _ _ rfl (hB4z.setRow _).heap Tryd.underlying26 rfl hsr26) rfl ⟨?_, belowRow hbel6 (by omega) _⟩
      rw [HTR.out, HR.out, dg_darr r hr32.out]
end Go.Proofs.YtohknemfcohhfaaDoor
