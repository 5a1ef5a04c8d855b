/-
  What is proved here: slices.Reverse on a list of digests of the caller's own.
-/
import Derived.Test.YtohknemfcohhfaaDoorRows
import Derived.Test.YtohknemfcohhfaaDoorBaseC
import Derived.Test.YtohknemfcohhfaaDoorSha
import Derived.Test.YtohknemfcohhfaaDoorDigA
import Derived.Test.YtohknemfcohhfaaDoorDigC
import Derived.Test.YtohknemfcohhfaaDoorDigD
import Derived.Test.YtohknemfcohhfaaDoorDigE
import Derived.Test.YtohknemfcohhfaaDoorDigF
import Derived.Test.YtohknemfcohhfaaDoorDigG
import Derived.Test.YtohknemfcohhfaaDoorDigH
import Derived.Test.YtohknemfcohhfaaDoorDigI
import Derived.Test.YtohknemfcohhfaaDoorDigJ
import Derived.Test.YtohknemfcohhfaaDoorDigK
import Derived.Test.YtohknemfcohhfaaDoorDigL
import Derived.Test.YtohknemfcohhfaaDoorDigM
import Derived.Test.YtohknemfcohhfaaDoorDigN
import Derived.Test.YtohknemfcohhfaaDoorDigO
import Derived.Test.YtohknemfcohhfaaDoorDigP
import Derived.Test.YtohknemfcohhfaaDoorDigQ
import Derived.Test.YtohknemfcohhfaaDoorTree
import Derived.Test.YtohknemfcohhfaaDoorShelf
import Derived.Lib.ConvBytes
import Derived.StillTailTactics
import Derived.Lib.AppendZerosOnto
import Derived.Deep.RegionHeld3
import Derived.Stop.BytesEq
import Derived.Great.BuildSlice
import Derived.Deep.MidRow
import Derived.Deep.RegionLaw
import Derived.Deep.DeepCutAuto
import Derived.Deep.QuietTactic
import Derived.BigQuiet
import Derived.Laws.EntriesVeiled
namespace Go.Proofs.YtohknemfcohhfaaDoor
open Go.RowKit Go.VS
theorem row_range {w : World} {base g n c : Nat} {qs : List (List UInt8)} (hown : w.ownsRow base 26 32 (.slice (some ⟨g, 0, none⟩) n c) n (flat qs)) (hall : ∀ p ∈ qs, p.length = 32) (i : Nat) (hi : i < qs.length) :
    w.rangeAt g (i * 32) (qs[i].map bv) := fun j v hv => by
  have h32 : qs[i].length = 32 := hall _ (List.getElem_mem hi)
  have hj : j < 32 := by
    rcases Nat.lt_or_ge j 32 with h | h
    · exact h
    · rw [List.getElem?_eq_none (by simp; omega)] at hv; cases hv
  have hc := hown.cells (g := g) rfl (32 * i + j) v (by rw [flat_at qs hall i hi j hj]; exact hv)
  rw [Addr.add_lit] at hc
  rw [Nat.zero_add] at hc
  rw [show i * 32 + j = 32 * i + j by omega]
  exact hc
theorem row_there {w : World} {base g n c : Nat} {qs : List (List UInt8)} (hown : w.ownsRow base 26 32 (.slice (some ⟨g, 0, none⟩) n c) n (flat qs)) (hl : qs.length = n) (i : Nat) (hi : i < qs.length) :
    w.there g (i * 32) 32 := fun j hj => by
  rcases hown.2 with ⟨hv, _⟩ | ⟨g', cap, cur, hv, hb, hg, hnc, hcm, hsz, htk⟩
  · cases hv
  · cases hv
    have hlt : i * 32 + j < cur.size := by omega
    refine ⟨?_, by simp [World.frozen?, hg]⟩
    rw [cell_of_row _ _ _ _ _ _ hg, Array.getElem?_eq_getElem hlt]
    rfl
theorem row_store2 {w : World} {base g n c : Nat} {qs : List (List UInt8)} (hown : w.ownsRow base 26 32 (.slice (some ⟨g, 0, none⟩) n c) n (flat qs)) (hall : ∀ p ∈ qs, p.length = 32) (hl : qs.length = n) (i : Nat) (hi : i < qs.length) (x : List UInt8) (hx : x.length = 32) :
    (w.setCells g (i * 32) (x.map bv)).ownsRow base 26 32 (.slice (some ⟨g, 0, none⟩) n c) n (flat (qs.set i x)) ∧ w.grownBy (w.setCells g (i * 32) (x.map bv)) (some g) := by
  obtain ⟨w', hrun, h1, h2⟩ := row_store hown hall hl i hi x hx
  have ht := row_there hown hl i hi
  have hr2 := run_storeCells_cells (P := Tryd.prog) g (i * 32) (x.map bv) 0 w (fun j hj => by simpa using (ht j (by simp at hj; omega)).1) (fun j hj => by simpa using (ht j (by simp at hj; omega)).2) (bv_one x)
  have : w' = w.setCells g (i * 32) (x.map bv) := by
    have e := hrun.symm.trans hr2
    injection e
  rw [← this]
  exact ⟨h1, h2⟩
theorem gb_trans {w a b : World} {row : Option Nat} (h : w.grownBy a row) (hg : a.grownBy b row) : w.grownBy b row :=
  ⟨hg.os.trans h.os, hg.tape.trans h.tape, hg.output.trans h.output, Nat.le_trans h.size hg.size, fun k hk hne => (hg.block k (Nat.lt_of_lt_of_le hk h.size) hne).trans (h.block k hk hne)⟩
theorem gb_drew {w a : World} {row : Option Nat} (h : w.grownBy a row) : w.grownBy a.drew row := ⟨h.os, h.tape, h.output, h.size, h.block⟩
set_option maxRecDepth 100000 in
set_option maxHeartbeats 1000000 in
theorem rev_c (A : Option Addr) (n c base : Nat) (ps : List (List UInt8)) (w : World) (hown : w.ownsRow base 26 32 (.slice A n c) n (flat ps)) (hl : ps.length = n) (hall : ∀ p ∈ ps, p.length = 32) (hn : n ≤ 1000) :
    Calls Tryd.prog 59 #[.slice A n c] w fun e w' => e = .returned (.tuple #[]) ∧ w'.ownsRow base 26 32 (.slice A n c) n (flat ps.reverse) ∧ w.grownBy w' (Value.ownBlock (.slice A n c)) := by
  have HL := Lib.hid hl
  have hst0 := Lib.hid (show w.ownsRow base 26 32 (.slice A n c) n (flat (halfRev ps 0)) by
    have : halfRev ps 0 = ps := by simp [halfRev]
    rw [this]; exact hown)
  clear hown hl
  go_enter Tryd.func59, Tryd.ntmps59
  go_wp2_with fail
  go_loopw [2, 3] (fun x y wr => ∃ i : Nat, x = .int .i64 i ∧ y = .int .i64 ((n : Int) - 1 - i) ∧ 2 * i ≤ n ∧ wr.ownsRow base 26 32 (.slice A n c) n (flat (halfRev ps i)) ∧ w.grownBy wr (Value.ownBlock (.slice A n c))) (fun x _ _ => n - (intOf x).toNat)
  case atStart => exact ⟨0, rfl, by congr 1; omega, by omega, hst0.out, World.grownBy.refl w _⟩
  case round =>
    clear hst0
    obtain ⟨i, rfl, rfl, hi, hown, hgb⟩ := hrel
    by_cases hlt : 2 * i + 1 < n
    · have h1 : (i : Int) < (n : Int) - 1 - i := by omega
      obtain ⟨j, hj⟩ : ∃ j, j = n - 1 - i := ⟨_, rfl⟩
      have hji : (n : Int) - 1 - i = (j : Int) := by omega
      have hin : i < n := by omega
      have hjn : j < n := by omega
      obtain ⟨g, rfl⟩ : ∃ g, A = some ⟨g, 0, none⟩ := by
        rcases hown.2 with ⟨_, h0⟩ | ⟨g, cap, cur, hv, _⟩
        · omega
        · injection hv with hv _ _; exact ⟨g, hv⟩
      have hlen := halfRev_len ps i (by rw [HL.out]; omega)
      rw [HL.out] at hlen
      have hm := halfRev_mem ps i hall
      have hxg := halfRev_get ps i i (by rw [HL.out]; omega) (by rw [HL.out]; exact hin)
      have hyg := halfRev_get ps i j (by rw [HL.out]; omega) (by rw [HL.out]; exact hjn)
      rw [if_neg (by rw [HL.out]; omega)] at hxg hyg
      have hsw := halfRev_swap ps i (by rw [HL.out]; exact hlt) ((halfRev ps i)[i]'(by omega)) ((halfRev ps i)[j]'(by omega)) (by rw [← hxg, List.getElem?_eq_getElem]) (by rw [HL.out, ← hj, ← hyg, List.getElem?_eq_getElem])
      rw [HL.out, ← hj] at hsw
      have HSW := Lib.hid hsw
      have hx32 : ((halfRev ps i)[i]'(by omega)).length = 32 := hm _ (List.getElem_mem _)
      have hy32 : ((halfRev ps i)[j]'(by omega)).length = 32 := hm _ (List.getElem_mem _)
      have hR1 := row_range (w := wr.drew) hown hm i (by omega)
      have hR2 := row_range (w := wr.drew) hown hm j (by omega)
      have hTh1 := row_there (w := wr.drew) hown hlen i (by omega)
      have hTh2 := row_there (w := wr.drew) hown hlen j (by omega)
      obtain ⟨hown1, hg1⟩ := row_store2 (w := wr.drew) hown hm hlen i (by omega) _ hy32
      have hm1 : ∀ p ∈ (halfRev ps i).set i ((halfRev ps i)[j]'(by omega)), p.length = 32 := fun p hp => by
        rcases List.mem_or_eq_of_mem_set hp with h | h
        · exact hm p h
        · rw [h]; exact hy32
      obtain ⟨hown2, hg2⟩ := row_store2 hown1 hm1 (by rw [List.length_set]; exact hlen) j (by rw [List.length_set]; omega) _ hx32
      rw [HSW.out] at hown2
      clear hsw hxg hyg hown1 hm1
      generalize (halfRev ps i)[i]'(by omega) = x at *
      generalize (halfRev ps i)[j]'(by omega) = y at *
      have hgb2 := Lib.hid (gb_trans (gb_trans (gb_drew hgb) hg1) hg2)
      have HOWN2 := Lib.hid hown2
      have HJ := Lib.hid hj
      rw [hji]
      have hi0 : (0 : Int) ≤ (i : Int) := by omega
      have hj0 : (0 : Int) ≤ (j : Int) := by omega
      have hi1 : (i : Int) < (n : Int) := by omega
      have hj1 : (j : Int) < (n : Int) := by omega
      have hij : (i : Int) < (j : Int) := by omega
      have hu26 := Tryd.underlying26
      have hszx := sz26l x hx32
      have hszy := sz26l y hy32
      have hlx : (x.map bv).length = 32 := by rw [List.length_map, hx32]
      have hly : (y.map bv).length = 32 := by rw [List.length_map, hy32]
      have hox := bv_oneL x
      have hoy := bv_oneL y
      clear hj hji h1 hlen hm hgb hg1 hg2 HSW hown hown2 hx32 hy32
      go_wp2_with fail
      have hS1 : wr.drew.there g (i * 32) (List.toArray (y.map bv)).size := by rw [List.size_toArray, hly]; exact hTh1
      have hS2 : (wr.drew.setCells g (i * 32) (y.map bv)).there g (j * 32) (List.toArray (x.map bv)).size := by rw [List.size_toArray, hlx]; exact World.there_setCells hTh2 _ _ _
      have hsx : (Tryd.prog.info? 26).map (·.size) = some (List.toArray (x.map bv)).size := hszx
      have hsy : (Tryd.prog.info? 26).map (·.size) = some (List.toArray (y.map bv)).size := hszy
      refine wp_region_any (by kernel_rfl) ?_
      change wpAny _ _ _ _ _ _ _ (World.drew _)
      refine wpAny_take (i := 0) (v := (.slice (some ⟨g, 0, none⟩) n c)) rfl (by kernel_rfl) (by kernel_rfl) (by kernel_rfl) (fun _ _ _ h => h) (Or.inl ⟨by rfl, fun w => by go_simp⟩) ?_
      simp only [Act.put, List.getElem_toArray, List.getElem_cons_zero, List.setIfInBounds_toArray, List.set_cons_zero, List.set_cons_succ]
      refine wpAny_take (i := 1) (v := (.int .i64 i)) rfl (by kernel_rfl) (by kernel_rfl) (by kernel_rfl) (fun _ _ _ h => h) (Or.inl ⟨by rfl, fun w => by go_simp⟩) ?_
      simp only [Act.put, List.getElem_toArray, List.getElem_cons_zero, List.getElem_cons_succ, List.setIfInBounds_toArray, List.set_cons_zero, List.set_cons_succ]
      refine wpAny_take (i := 2) (v := (.slice (some ⟨g, 0, none⟩) n c)) rfl (by kernel_rfl) (by kernel_rfl) (by kernel_rfl) (fun _ _ _ h => h) (Or.inl ⟨by rfl, fun w => by go_simp⟩) ?_
      simp only [Act.put, List.getElem_toArray, List.getElem_cons_zero, List.getElem_cons_succ, List.setIfInBounds_toArray, List.set_cons_zero, List.set_cons_succ]
      refine wpAny_take (i := 3) (v := (.int .i64 j)) rfl (by kernel_rfl) (by kernel_rfl) (by kernel_rfl) (fun _ _ _ h => h) (Or.inl ⟨by rfl, fun w => by go_simp⟩) ?_
      simp only [Act.put, List.getElem_toArray, List.getElem_cons_zero, List.getElem_cons_succ, List.setIfInBounds_toArray, List.set_cons_zero, List.set_cons_succ]
      refine wpAny_take (i := 4) (v := (.slice (some ⟨g, 0, none⟩) n c)) rfl (by kernel_rfl) (by kernel_rfl) (by kernel_rfl) (fun _ _ _ h => h) (Or.inl ⟨by rfl, fun w => by go_simp⟩) ?_
      simp only [Act.put, List.getElem_toArray, List.getElem_cons_zero, List.getElem_cons_succ, List.setIfInBounds_toArray, List.set_cons_zero, List.set_cons_succ]
      refine wpAny_take (i := 5) (v := (.int .i64 j)) rfl (by kernel_rfl) (by kernel_rfl) (by kernel_rfl) (fun _ _ _ h => h) (Or.inl ⟨by rfl, fun w => by go_simp⟩) ?_
      simp only [Act.put, List.getElem_toArray, List.getElem_cons_zero, List.getElem_cons_succ, List.setIfInBounds_toArray, List.set_cons_zero, List.set_cons_succ]
      refine wpAny_take (i := 6) (v := (.pointer (some ⟨g, j * 32, none⟩))) rfl (by kernel_rfl) (by kernel_rfl) (by kernel_rfl) (fun _ _ _ h => h) (Or.inl ⟨by rfl, fun w => by go_simp⟩) ?_
      simp only [Act.put, List.getElem_toArray, List.getElem_cons_zero, List.getElem_cons_succ, List.setIfInBounds_toArray, List.set_cons_zero, List.set_cons_succ]
      refine wpAny_take (i := 8) (v := (.slice (some ⟨g, 0, none⟩) n c)) rfl (by kernel_rfl) (by kernel_rfl) (by kernel_rfl) (fun _ _ _ h => h) (Or.inl ⟨by rfl, fun w => by go_simp⟩) ?_
      simp only [Act.put, List.getElem_toArray, List.getElem_cons_zero, List.getElem_cons_succ, List.setIfInBounds_toArray, List.set_cons_zero, List.set_cons_succ]
      refine wpAny_take (i := 9) (v := (.int .i64 i)) rfl (by kernel_rfl) (by kernel_rfl) (by kernel_rfl) (fun _ _ _ h => h) (Or.inl ⟨by rfl, fun w => by go_simp⟩) ?_
      simp only [Act.put, List.getElem_toArray, List.getElem_cons_zero, List.getElem_cons_succ, List.setIfInBounds_toArray, List.set_cons_zero, List.set_cons_succ]
      refine wpAny_take (i := 10) (v := (.pointer (some ⟨g, i * 32, none⟩))) rfl (by kernel_rfl) (by kernel_rfl) (by kernel_rfl) (fun _ _ _ h => h) (Or.inl ⟨by rfl, fun w => by go_simp⟩) ?_
      simp only [Act.put, List.getElem_toArray, List.getElem_cons_zero, List.getElem_cons_succ, List.setIfInBounds_toArray, List.set_cons_zero, List.set_cons_succ]
      refine wpAny_ready (rs := [7, 11]) (by kernel_rfl) (by simp) (AllReady.cons rfl (fun K hK => ?_) (AllReady.cons rfl (fun K hK => ?_) AllReady.nil))
      · rw [if_pos (by rfl)]
        refine wp_load_mid _ _ rfl _ _ rfl _ _ hR2 hu26 rfl hszy ?_
        refine hK _ _ ?_
        clear hK K
        simp only [Act.put, List.getElem_toArray, List.getElem_cons_zero, List.getElem_cons_succ, List.setIfInBounds_toArray, List.set_cons_zero, List.set_cons_succ]
        refine wpAny_ready (rs := [11]) (by kernel_rfl) (by simp) (AllReady.cons rfl (fun K hK => ?_) AllReady.nil)
        rw [if_pos (by rfl)]
        refine wp_load_mid _ _ rfl _ _ rfl _ _ hR1 hu26 rfl hszx ?_
        refine hK _ _ ?_
        clear hK K
        simp only [Act.put, List.getElem_toArray, List.getElem_cons_zero, List.getElem_cons_succ, List.setIfInBounds_toArray, List.set_cons_zero, List.set_cons_succ]
        refine wpAny_take (i := 12) (v := (.pointer (some ⟨g, i * 32, none⟩))) rfl (by kernel_rfl) (by kernel_rfl) (by kernel_rfl) (fun _ _ _ h => h) (Or.inl ⟨by rfl, fun w => by go_simp⟩) ?_
        simp only [Act.put, List.getElem_toArray, List.getElem_cons_zero, List.getElem_cons_succ, List.setIfInBounds_toArray, List.set_cons_zero, List.set_cons_succ]
        refine wpAny_ready (rs := [13]) (by kernel_rfl) (by simp) (AllReady.cons rfl (fun K hK => ?_) AllReady.nil)
        rw [if_pos (by rfl)]
        refine wp_store_mid _ _ _ rfl _ _ (List.toArray _) rfl rfl hS1 hsy (all_oneCell_toArray hoy) ?_
        refine hK _ _ ?_
        clear hK K
        simp only [Act.put, List.getElem_toArray, List.getElem_cons_zero, List.getElem_cons_succ]
        refine wpAny_take (i := 14) (v := (.pointer (some ⟨g, j * 32, none⟩))) rfl (by kernel_rfl) (by kernel_rfl) (by kernel_rfl) (fun _ _ _ h => h) (Or.inl ⟨by rfl, fun w => by go_simp⟩) ?_
        simp only [Act.put, List.getElem_toArray, List.getElem_cons_zero, List.getElem_cons_succ, List.setIfInBounds_toArray, List.set_cons_zero, List.set_cons_succ]
        refine wpAny_ready (rs := [15]) (by kernel_rfl) (by simp) (AllReady.cons rfl (fun K hK => ?_) AllReady.nil)
        rw [if_pos (by rfl)]
        refine wp_store_mid _ _ _ rfl _ _ (List.toArray _) rfl rfl hS2 hsx (all_oneCell_toArray hox) ?_
        refine hK _ _ ?_
        clear hK K
        simp only [Act.put, List.getElem_toArray, List.getElem_cons_zero, List.getElem_cons_succ]
        refine wpAny_done (by kernel_rfl) ?_ _
        go_wp2_with fail
        have hj' := HJ.out
        exact ⟨⟨i + 1, rfl, by congr 1; omega, by omega, HOWN2.out, hgb2.out⟩, by simp only [intOf]; omega⟩
      · rw [if_pos (by rfl)]
        refine wp_load_mid _ _ rfl _ _ rfl _ _ hR1 hu26 rfl hszx ?_
        refine hK _ _ ?_
        clear hK K
        simp only [Act.put, List.getElem_toArray, List.getElem_cons_zero, List.getElem_cons_succ, List.setIfInBounds_toArray, List.set_cons_zero, List.set_cons_succ]
        refine wpAny_ready (rs := [7]) (by kernel_rfl) (by simp) (AllReady.cons rfl (fun K hK => ?_) AllReady.nil)
        rw [if_pos (by rfl)]
        refine wp_load_mid _ _ rfl _ _ rfl _ _ hR2 hu26 rfl hszy ?_
        refine hK _ _ ?_
        clear hK K
        simp only [Act.put, List.getElem_toArray, List.getElem_cons_zero, List.getElem_cons_succ, List.setIfInBounds_toArray, List.set_cons_zero, List.set_cons_succ]
        refine wpAny_take (i := 12) (v := (.pointer (some ⟨g, i * 32, none⟩))) rfl (by kernel_rfl) (by kernel_rfl) (by kernel_rfl) (fun _ _ _ h => h) (Or.inl ⟨by rfl, fun w => by go_simp⟩) ?_
        simp only [Act.put, List.getElem_toArray, List.getElem_cons_zero, List.getElem_cons_succ, List.setIfInBounds_toArray, List.set_cons_zero, List.set_cons_succ]
        refine wpAny_ready (rs := [13]) (by kernel_rfl) (by simp) (AllReady.cons rfl (fun K hK => ?_) AllReady.nil)
        rw [if_pos (by rfl)]
        refine wp_store_mid _ _ _ rfl _ _ (List.toArray _) rfl rfl hS1 hsy (all_oneCell_toArray hoy) ?_
        refine hK _ _ ?_
        clear hK K
        simp only [Act.put, List.getElem_toArray, List.getElem_cons_zero, List.getElem_cons_succ]
        refine wpAny_take (i := 14) (v := (.pointer (some ⟨g, j * 32, none⟩))) rfl (by kernel_rfl) (by kernel_rfl) (by kernel_rfl) (fun _ _ _ h => h) (Or.inl ⟨by rfl, fun w => by go_simp⟩) ?_
        simp only [Act.put, List.getElem_toArray, List.getElem_cons_zero, List.getElem_cons_succ, List.setIfInBounds_toArray, List.set_cons_zero, List.set_cons_succ]
        refine wpAny_ready (rs := [15]) (by kernel_rfl) (by simp) (AllReady.cons rfl (fun K hK => ?_) AllReady.nil)
        rw [if_pos (by rfl)]
        refine wp_store_mid _ _ _ rfl _ _ (List.toArray _) rfl rfl hS2 hsx (all_oneCell_toArray hox) ?_
        refine hK _ _ ?_
        clear hK K
        simp only [Act.put, List.getElem_toArray, List.getElem_cons_zero, List.getElem_cons_succ]
        refine wpAny_done (by kernel_rfl) ?_ _
        go_wp2_with fail
        have hj' := HJ.out
        exact ⟨⟨i + 1, rfl, by congr 1; omega, by omega, HOWN2.out, hgb2.out⟩, by simp only [intOf]; omega⟩
    · have h1 : ¬ ((i : Int) < (n : Int) - 1 - i) := by omega
      have hend := halfRev_end ps i (by rw [HL.out]; exact hi) (by rw [HL.out]; omega)
      rw [hend] at hown
      go_wp2
      go_end0
      exact ⟨rfl, hown, hgb⟩
end Go.Proofs.YtohknemfcohhfaaDoor
