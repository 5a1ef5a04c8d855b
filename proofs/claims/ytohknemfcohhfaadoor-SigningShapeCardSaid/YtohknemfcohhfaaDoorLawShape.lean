/-
  What is proved here: the walk of SigningShape: only signatures of the right shape verify.
-/
import Derived.Test.YtohknemfcohhfaaDoorRows
import Derived.Test.YtohknemfcohhfaaDoorBaseC
import Derived.Test.YtohknemfcohhfaaDoorSha
import Derived.Test.YtohknemfcohhfaaDoorDigA
import Derived.Test.YtohknemfcohhfaaDoorDigC
import Derived.Test.YtohknemfcohhfaaDoorDigD
import Derived.Test.YtohknemfcohhfaaDoorDigE
import Derived.Test.YtohknemfcohhfaaDoorDigF
import Derived.Test.YtohknemfcohhfaaDoorDigG
import Derived.Test.YtohknemfcohhfaaDoorDigH
import Derived.Test.YtohknemfcohhfaaDoorDigI
import Derived.Test.YtohknemfcohhfaaDoorDigJ
import Derived.Test.YtohknemfcohhfaaDoorDigK
import Derived.Test.YtohknemfcohhfaaDoorDigL
import Derived.Test.YtohknemfcohhfaaDoorDigM
import Derived.Test.YtohknemfcohhfaaDoorDigN
import Derived.Test.YtohknemfcohhfaaDoorDigO
import Derived.Test.YtohknemfcohhfaaDoorDigP
import Derived.Test.YtohknemfcohhfaaDoorDigQ
import Derived.Test.YtohknemfcohhfaaDoorDigR
import Derived.Test.YtohknemfcohhfaaDoorDigS
import Derived.Test.YtohknemfcohhfaaDoorDigT
import Derived.Test.YtohknemfcohhfaaDoorLawTags
import Derived.Test.YtohknemfcohhfaaDoorSigA
import Derived.Test.YtohknemfcohhfaaDoorSigB
import Derived.Test.YtohknemfcohhfaaDoorSigC
import Derived.Test.YtohknemfcohhfaaDoorSigD
import Derived.Test.YtohknemfcohhfaaDoorSigE
import Derived.Test.YtohknemfcohhfaaDoorSigP
import Derived.Test.YtohknemfcohhfaaDoorSigF
import Derived.Test.YtohknemfcohhfaaDoorSigG
import Derived.Test.YtohknemfcohhfaaDoorLawVerifies
import Derived.Test.YtohknemfcohhfaaDoorTwo
import Derived.Test.YtohknemfcohhfaaDoorTree
import Derived.Test.YtohknemfcohhfaaDoorSign
import Derived.Test.YtohknemfcohhfaaDoorShelf
import Derived.Lib.ConvBytes
import Derived.StillTailTactics
import Derived.Lib.AppendZerosOnto
import Derived.Deep.RegionHeld3
import Derived.Stop.BytesEq
import Derived.Great.BuildSlice
import Derived.Deep.MidRow
import Derived.Deep.RegionLaw
import Derived.Deep.DeepCutAuto
import Derived.Deep.QuietTactic
import Derived.BigQuiet
import Derived.Laws.EntriesVeiled
namespace Go.Proofs.YtohknemfcohhfaaDoor
open Go.RowKit Go.VS
theorem foldzL (r : List UInt8) (hr : r.length = 32) : List.foldl (fun (cs : Array Value) (x : Value × Nat) => cs.setIfInBounds x.snd x.fst) #[.int .u8 0, .int .u8 0, .int .u8 0, .int .u8 0, .int .u8 0, .int .u8 0, .int .u8 0, .int .u8 0, .int .u8 0, .int .u8 0, .int .u8 0, .int .u8 0, .int .u8 0, .int .u8 0, .int .u8 0, .int .u8 0, .int .u8 0, .int .u8 0, .int .u8 0, .int .u8 0, .int .u8 0, .int .u8 0, .int .u8 0, .int .u8 0, .int .u8 0, .int .u8 0, .int .u8 0, .int .u8 0, .int .u8 0, .int .u8 0, .int .u8 0, .int .u8 0] (r.map bv).zipIdx = darr r := by
  have h := fold_set (r.map bv) 0 (darr []) (by simp [hr, darr_size [] (by simp)])
  refine Eq.trans h ?_
  rw [darr_full r hr, List.drop_eq_nil_of_le (by simp [hr, darr_size [] (by simp)])]
  simp
/-- a number of one-time keys that is not permitted. -/
def pickF (n : Int) : Int := if 1 ≤ n ∧ n ≤ 256 then 256 + n else n
set_option maxRecDepth 100000 in
theorem pick_c (n : Int) (w : World) : Calls Tryd.prog 48 #[.int .i64 n] w fun e w' => e = .returned (.int .i64 (pickF n)) ∧ w = w' := by
  by_cases h1 : 1 ≤ n
  · by_cases h2 : n ≤ 256
    · have HP := Lib.hid (show pickF n = 256 + n by unfold pickF; rw [if_pos ⟨h1, h2⟩])
      go_enter Tryd.func48, Tryd.ntmps48
      go_wp2
      go_ret
      exact ⟨by rw [HP.out]; rfl, rfl⟩
    · have HP := Lib.hid (show pickF n = n by unfold pickF; rw [if_neg (by omega)])
      have h3 : ¬ n ≤ 256 := h2
      go_enter Tryd.func48, Tryd.ntmps48
      go_wp2
      go_ret
      exact ⟨by rw [HP.out]; rfl, rfl⟩
  · have HP := Lib.hid (show pickF n = n by unfold pickF; rw [if_neg (by omega)])
    have h3 : ¬ 1 ≤ n := h1
    go_enter Tryd.func48, Tryd.ntmps48
    go_wp2
    go_ret
    exact ⟨by rw [HP.out]; rfl, rfl⟩
theorem pickF_bad (n : Int) : pickF n < 1 ∨ 256 < pickF n := by
  unfold pickF
  split <;> omega
/-- a path of another length does not verify. -/
theorem ver_long (sh : List UInt8 → List UInt8) (p : List UInt8) (m u : Nat) (msg : List UInt8) (parts path : List (List UInt8)) (h : path.length ≠ lenF u m) : verF sh p m u msg parts path = false := by
  unfold verF climbR
  rw [if_neg (by rintro ⟨_, _, _, e⟩; simp only [Int.toNat_natCast] at e; exact h e)]
  rfl
set_option maxRecDepth 100000 in
set_option maxHeartbeats 1000000 in
theorem shape_walk {sh : List UInt8 → List UInt8} (hs : Sh sh) (A : Option Addr) (n c : Nat) (seed : List UInt8) (m u : Int) (B : Option Addr) (b d : Nat) (msg : List UInt8) (hw nn : Int) (hnn1 : -9223372036854775808 ≤ nn) (hnn2 : nn ≤ 9223372036854775807) (D : Gh) (w : World) (hk : Keeps D w) (hT : Tab D) (hA : BS D (.slice A n c) seed) (hB : BS D (.slice B b d) msg) :
    Calls Tryd.prog 16 #[keyV A n c m u, .slice B b d, .int .i64 hw, .int .i64 nn] w fun x w' => x = .returned (.bool true) ∧ Below w.heap.size w w' := by
  have hnm : n ≤ maxLen := by have := hA.len; omega
  have hbm : b ≤ maxLen := by have := hB.len; omega
  have hB0 := Box.new2 hk rfl 45 #[.slice A n c, .int .i64 m, .int .i64 u]
  have hk0 := hk.alloc (.cells #[.slice A n c, .int .i64 m, .int .i64 u] 45)
  have hbel0 : Below w.heap.size w (w.alloc (.cells #[.slice A n c, .int .i64 m, .int .i64 u] 45)) := (by repeat (first | (with_reducible exact Below.refl _ _) | (with_reducible refine Below.drew ?_) | (with_reducible refine belowDrewN ?_ _) | (with_reducible refine belowAlloc ?_ _) | ((with_reducible refine belowSet2 ?_ ?_); omega) | (with_reducible assumption) | (with_reducible refine belowVia (by assumption) ?_) | (with_reducible refine belowVia (Grow.below (by assumption)) ?_)))
  have HSA := Lib.hid (fun W hk => sane32_c D W hk)
  have HFC := Lib.hid (fun W => few_c A n c hnm m u B b d hbm W)
  go_enter Tryd.func16, Tryd.ntmps16
  go_wp2_with fail
  refine (HSA.out _ hk0).mono ?_
  rintro e w1 ⟨rfl, hb1⟩
  replace hB0 := hB0.below hb1 hB0.lt
  have hk1 := hk0.below hb1 (Nat.le_refl _)
  have hbel1 := belowVia hb1 hbel0
  clear hb1 hk0 hbel0 HSA
  have q0 := hB0.cell 0
  have q1 := hB0.cell 1
  have q2 := hB0.cell 2
  go_wp2_with fail
  refine (HFC.out _).mono ?_
  rintro e w2 ⟨rfl, hb2⟩
  replace hB0 := hB0.below hb2 hB0.lt
  have hk2 := hk1.below hb2 (Nat.le_refl _)
  have hbel2 := belowVia hb2 hbel1
  clear hb2 hk1 hbel1 HFC q0 q1 q2
  by_cases hfew : fewF n m b = true
  · rw [hfew]
    have hf := of_decide_eq_true hfew
    obtain ⟨f1, f2, f3⟩ := hf
    clear hfew
    have q0 := hB0.cell 0
    have q1 := hB0.cell 1
    have q2 := hB0.cell 2
    by_cases hv : validF n m u = true
    · obtain ⟨m, u, rfl, rfl, v1, v2, v3, v4, v5⟩ := valid_nat hv
      have hp32 := Lib.hid (treeF_len hs (keysF (tagB sh) seed m))
      have HP1 := Lib.hid (fun W hk => public_ok hs A n c seed m u D W hk hT hA hv)
      rw [dg_darr _ hp32.out] at HP1
      have HSG := Lib.hid (fun W hk (hu : u < m) => sign_ok hs A n c seed m u B b d msg (by omega) D W hk hT hA hB hv hu)
      have HVS := Lib.hid (fun (hu : u < m) => ver_sign sh hs seed m u hu v4 msg)
      have HVL := Lib.hid (fun (path : List (List UInt8)) => ver_long sh (treeF (tagB sh) (keysF (tagB sh) seed m)) m u msg (partsF (tagB sh) seed u (sigD sh seed m u msg)) path)
      have HVE := Lib.hid (fun P' d' E' e' f' path D' W hk hT hA hB hE (hu : u < m) => verify_ok hs (treeF (tagB sh) (keysF (tagB sh) seed m)) hp32.out m B b d msg (by omega) u P' d' (partsF (tagB sh) seed u (sigD sh seed m u msg)) E' e' f' path D' W hk hT hA hB hE v4 hu)
      have HPL := Lib.hid (show (pathF (tagB sh) (keysF (tagB sh) seed m) u).length = lenF u m from pathF_len _ m _ _ (keysF_len _ _ _))
      have HLE := Lib.hid (lenF_le 8 u m (by omega))
      generalize sigD sh seed m u msg = L at *
      generalize pathF (tagB sh) (keysF (tagB sh) seed m) u = pth at *
      generalize partsF (tagB sh) seed u L = prt at *
      generalize treeF (tagB sh) (keysF (tagB sh) seed m) = p at *
      generalize lenF u m = l at *
      have hz26 := sz26 p hp32.out
      have hsz : (darr []).size = (darr p).size := by rw [darr_size _ (by simp), darr_size _ (by rw [hp32.out]; omega)]
      go_wp2_with fail
      refine (HP1.out _ hk2).mono ?_
      rintro e w3 ⟨rfl, hb3⟩
      replace hB0 := (hB0.below hb3 hB0.lt).alloc (.cells (darr p) 26)
      have hBp := Box.new2 (hk2.below hb3 (Nat.le_refl _)) rfl 26 (darr p)
      have hk3 := (hk2.below hb3 (Nat.le_refl _)).alloc (.cells (darr p) 26)
      have hbel3 := belowAlloc (belowVia hb3 hbel2) (.cells (darr p) 26)
      clear q0 q1 q2 hb3 hk2 hbel2 HP1
      have q0 := hB0.cell 0
      have q1 := hB0.cell 1
      have q2 := hB0.cell 2
      go_wp2_with (first | (((with_reducible show wpList _ _ _ ((⟨_, .store 26 _ _, _, _, _, _⟩ : Oper) :: _) _ _); refine wpList_store_row rfl 26 _ _ rfl (w3.heap.size) (darr p) rfl rfl 26 (darr []) (heap_alloc_new w3 _) (hz26) (hsz) (darr_one _) ?_); rw [World.setRow_alloc_new]))
      by_cases hu : u = m
      · subst hu
        refine (sign_bad A n c hnm u u B b d hbm _ D hk3 320 (.inr (.inr ⟨hv, by omega, rfl, rfl⟩))).mono ?_
        rintro e w4 ⟨rfl, hb4⟩
        have hbel4 := belowVia hb4 hbel3
        go_wp2
        go_ret
        exact ⟨rfl, belowAlloc (belowAlloc hbel4 _) _⟩
      · have hum : u < m := by omega
        generalize w3.heap.size = g9 at *
        generalize w3.alloc (.cells (darr p) 26) = W3 at *
        refine (HSG.out _ hk3 hum).mono ?_
        rintro e w4 ⟨A4, c4, P4, d4, E4, f4, D4, rfl, hG4, hA4, hP4, hE4⟩
        have hbel4 : Below w.heap.size w ((w4.alloc (.cells #[.slice A4 n c4, .int .i64 m, .int .i64 ((u : Int) + 1)] 45)).alloc (.cells #[.int .i64 u, .slice P4 67 d4, .slice E4 l f4] 49)) := belowAlloc (belowAlloc (belowVia hG4.below hbel3) _) _
        have hB0a := ((hB0.grow hG4).alloc (.cells #[.slice A4 n c4, .int .i64 m, .int .i64 ((u : Int) + 1)] 45)).alloc (.cells #[.int .i64 u, .slice P4 67 d4, .slice E4 l f4] 49)
        have hBpa := ((hBp.grow hG4).alloc (.cells #[.slice A4 n c4, .int .i64 m, .int .i64 ((u : Int) + 1)] 45)).alloc (.cells #[.int .i64 u, .slice P4 67 d4, .slice E4 l f4] 49)
        have hB8 := Box.new2 (hG4.keeps.alloc (.cells #[.slice A4 n c4, .int .i64 m, .int .i64 ((u : Int) + 1)] 45)) (g := w4.heap.size + 1) (by simp) 49 #[.int .i64 u, .slice P4 67 d4, .slice E4 l f4]
        have hk4 := (hG4.keeps.alloc (.cells #[.slice A4 n c4, .int .i64 m, .int .i64 ((u : Int) + 1)] 45)).alloc (.cells #[.int .i64 u, .slice P4 67 d4, .slice E4 l f4] 49)
        have hT4 := hT.le hG4.le
        have hB4 := hB.le hG4.le
        have g0 : g9 ≠ w4.heap.size + 1 := by have := hBp.lt; have := hG4.below.size; omega
        have g1 : w.heap.size ≤ w4.heap.size + 1 := by have := (belowVia hG4.below hbel3).size; omega
        have HVX := Lib.hid (fun E' e' f' path D' W hk hle (hE : DS D' (.slice E' e' f') path) => HVE.out P4 d4 E' e' f' path D' W hk (hT4.le hle) (hB4.le hle) (hP4.le hle) hE hum)
        have HVB := Lib.hid (fun (mm : Int) (i : Int) (bb : Nat) (hbb : bb ≤ maxLen) (W : World) h => verify_bad p mm B b d hbm i P4 bb d4 hbb E4 l f4 W h)
        have hBq := hBp.grow hG4
        have hbq := belowVia hG4.below hbel3
        clear q0 q1 q2 hG4 hB0 hBp hk3 hbel3 HSG hA4 hT4 hB4 HVE
        have x0 := hB0a.cell 0
        have x1 := hB0a.cell 1
        have x2 := hB0a.cell 2
        have y0 := hB8.cell 0
        have y1 := hB8.cell 1
        have y2 := hB8.cell 2
        have fz := hB8.frozen
        by_cases h0 : hw = 0
        · subst h0
          have hsl := fun W => (ds_head hP4 (k := 66) (by omega)).1 W
          simp only [Int.cast_ofNat_Int] at hsl
          go_wp2_with (first | ((with_reducible show wpList _ _ _ ((⟨_, .load 26 _, _, _, _, _⟩ : Oper) :: _) _ _); refine wpList_gload_row (by first | rfl | (simp [Region.wanted, yielded]; done)) 26 _ rfl (g9) rfl 26 _ (0, 0) _ (((hBq.alloc _).alloc _).heap) Tryd.underlying26 rfl (hz26) ?_))
          refine (HVB.out m u 66 (by simp [maxLen]) _ (.inr (.inr (.inr (.inr (.inl (by omega))))))).mono ?_
          rintro e w5 ⟨rfl, hb5⟩
          go_wp2_with fail
          go_ret
          exact ⟨rfl, belowVia hb5 (belowAlloc (belowAlloc hbq _) _)⟩
        · by_cases h1 : hw = 1
          · subst h1
            go_wp2_with fail
            have hall : ∀ x ∈ pth ++ [p], x.length = 32 := fun x hx => by
              rw [List.mem_append, List.mem_singleton] at hx
              rcases hx with hx | rfl
              · exact hE4.1 x hx
              · exact hp32.out
            have hl1000 : l ≤ 1000 := by have := HLE.out; omega
            have HV := Lib.hid (fun A9 c9 D9 W hk hle9 (hds9 : DS D9 (.slice A9 (l + 1) c9) (pth ++ [p])) => HVX.out A9 (l + 1) c9 (pth ++ [p]) D9 W hk hle9 hds9)
            rw [HVL.out (pth ++ [p]) (by rw [List.length_append, HPL.out]; simp)] at HV
            replace hk4 := hk4.drew
            replace hB8 := hB8.drew
            replace hBpa := hBpa.drew
            replace hbel4 := hbel4.drew
            clear x0 x1 x2 y0 y1 y2 fz hB0a HVX HVB HVS HVL
            have hszl := sz26l p hp32.out
            have hu26 := Tryd.underlying26
            have hp32' := hp32.out
            have hfz := foldzL p hp32.out
            have hsp : (p.map bv).toArray.size = 32 := by simp [hp32.out]
            have hsp2 : (p.map bv).length = 32 := by simp [hp32.out]
            generalize w4.heap.size + 1 = g12 at *
            generalize (w4.alloc (.cells #[.slice A4 n c4, .int .i64 m, .int .i64 ((u : Int) + 1)] 45)).alloc (.cells #[.int .i64 u, .slice P4 67 d4, .slice E4 l f4] 49) = W4x at *
            refine wp_region_held_drew (S := fun W => W.rangeAt g9 0 (p.map bv)) (by kernel_rfl) (fun j v hv => by
              rw [Nat.zero_add, hBpa.cell, darr_full p hp32.out]; simpa using hv) (fun hHeld => ?_)
            generalize W4x.drew = X0 at *
            have hap := Ap.start X0 p
            have SH : Hid (∀ W, Below X0.heap.size X0 W → W.rangeAt g9 0 (p.map bv)) := fun W hb j v hv => by
              rw [Nat.zero_add, (hBpa.below hb hBpa.lt).cell, darr_full p hp32.out]; simpa using hv
            refine wpAnyH_take (i := 1) (v := ?_) rfl (by kernel_rfl) (by kernel_rfl) (by kernel_rfl) (fun _ _ _ h => h) (Or.inl ⟨by rfl, ?_⟩) hHeld ?_
            rotate_left
            · (intro wz hSw; (try dsimp only at hSw); go_simp; try with_reducible rfl)
            simp only [Act.put, List.getElem_toArray, List.getElem_cons_zero, List.getElem_cons_succ, List.setIfInBounds_toArray, List.set_cons_zero, List.set_cons_succ]
            refine wpAnyH_take (i := 4) (v := (.agg (p.map bv).toArray)) rfl (by kernel_rfl) (by kernel_rfl) (by kernel_rfl) (fun _ _ _ h => h) (yieldsIf_load_mid (by rfl) _ _ rfl _ _ rfl _ _ (fun w h => h) hu26 rfl hszl) hHeld ?_
            simp only [Act.put, List.getElem_toArray, List.getElem_cons_zero, List.getElem_cons_succ, List.setIfInBounds_toArray, List.set_cons_zero, List.set_cons_succ]
            refine wpAnyH_ready (rs := [0, 2, 5]) (by kernel_rfl) (by simp) (AllReadyH.cons rfl (fun K' hK => ?_) (AllReadyH.cons rfl (fun K' hK => ?_) (AllReadyH.cons rfl (fun K' hK => ?_) AllReadyH.nil)))
            · go_simp
              replace hap := hap.build0
              refine hK.out _ _ (SH.out _ hap.below) (fun hHeld => ?_)
              clear hK K'
              generalize hg0 : X0.alloc (.cells #[] 26) = X1 at *
              clear hg0
              refine wpAnyH_ready (rs := [2, 5]) (by kernel_rfl) (by simp) (AllReadyH.cons rfl (fun K' hK => ?_) (AllReadyH.cons rfl (fun K' hK => ?_) AllReadyH.nil))
              · have qc := (hB8.below hap.below hB8.lt).cell 2
                go_simp
                refine hK.out _ _ hHeld (fun hHeld => ?_)
                clear hK K' qc
                obtain ⟨X2, rfl⟩ : ∃ Y, Y = X1 := ⟨_, rfl⟩
                refine wpAnyH_ready (rs := [3, 5]) (by kernel_rfl) (by simp) (AllReadyH.cons rfl (fun K' hK => ?_) (AllReadyH.cons rfl (fun K' hK => ?_) AllReadyH.nil))
                · obtain ⟨A1, c1, X3, hrun, hapn⟩ := hap.app1 D4 hk4 E4 l f4 pth hE4 hl1000
                  refine step_append_run _ rfl _ _ 30 30 rfl _ _ rfl rfl _ _ hrun ?_
                  refine hK.out _ _ (SH.out _ hapn.below) (fun hHeld => ?_)
                  clear hK K' hrun hap
                  have hap := hapn
                  clear hapn
                  refine wpAnyH_ready (rs := [5]) (by kernel_rfl) (by simp) (AllReadyH.cons rfl (fun K' hK => ?_) AllReadyH.nil)
                  go_simp
                  replace hap := hap.build1
                  refine hK.out _ _ (SH.out _ hap.below) (fun hHeld => ?_)
                  clear hK K'
                  generalize hg3 : X3.alloc (.cells (darr p) 26) = X4 at *
                  clear hg3
                  refine wpAnyH_ready (rs := [6]) (by kernel_rfl) (by simp) (AllReadyH.cons rfl (fun K' hK => ?_) AllReadyH.nil)
                  obtain ⟨A2, c2, X5, hrun, hapn⟩ := hap.app2 hp32.out hl1000
                  refine step_append_run _ rfl _ _ 30 30 rfl _ _ rfl rfl _ _ hrun ?_
                  refine hK.out _ _ (SH.out _ hapn.below) (fun hHeld => ?_)
                  clear hK K' hrun hap
                  have hap := hapn
                  clear hapn
                  have hBx := hB8.below hap.below hB8.lt
                  have qc := hBx.cell 2
                  have fc := hBx.frozen 2
                  obtain ⟨D9, hG9, hds9⟩ := hap.pub hall D4 hk4
                  have hB8r := hB8.grow hG9
                  have hBpr := hBpa.grow hG9
                  refine wpAnyH_take (i := 7) (v := ?_) rfl (by kernel_rfl) (by kernel_rfl) (by kernel_rfl) (fun _ _ _ h => h) (Or.inl ⟨by rfl, ?_⟩) hHeld ?_
                  rotate_left
                  · (intro wz hSw; (try dsimp only at hSw); go_simp; try with_reducible rfl)
                  simp only [Act.put, List.getElem_toArray, List.getElem_cons_zero, List.getElem_cons_succ, List.setIfInBounds_toArray, List.set_cons_zero, List.set_cons_succ]
                  refine wpAnyH_ready (rs := [8]) (by kernel_rfl) (by simp) (AllReadyH.cons rfl (fun K' hK => ?_) AllReadyH.nil)
                  go_simp
                  have hrg : (X5.setCell ⟨g12, 2, none⟩ (.slice A2 (l + 1) c2)).rangeAt g9 0 (p.map bv) := fun j v hv => by
                    rw [Nat.zero_add, (hBpr.far2 g0).cell, darr_full p hp32.out]; simpa using hv
                  refine hK.out _ _ hrg (fun hHeld => ?_)
                  clear hK K' qc fc
                  refine wpAnyH_done (by kernel_rfl) ?_ _
                  have hk9 : Keeps D9 (X5.setCell ⟨g12, 2, none⟩ (.slice A2 (l + 1) c2)) := hG9.keeps.setCell (p := ⟨_, 2, none⟩) hB8r.off _
                  have hbel9 : Below w.heap.size w (X5.setCell ⟨g12, 2, none⟩ (.slice A2 (l + 1) c2)) := (belowVia hG9.below hbel4).setCell (p := ⟨_, 2, none⟩) g1 _
                  have hBp9 : Box (X5.setCell ⟨g12, 2, none⟩ (.slice A2 (l + 1) c2)) D9 g9 26 (darr p) := hBpr.far2 g0
                  have hB89 : Box (X5.setCell ⟨g12, 2, none⟩ (.slice A2 (l + 1) c2)) D9 g12 49 #[.int .i64 u, .slice P4 67 d4, .slice A2 (l + 1) c2] := hB8r.set_ 2 _
                  have hle9 := hG9.le
                  have z0 := hB89.cell 0
                  have z1 := hB89.cell 1
                  have z2 := hB89.cell 2
                  clear hap hfz hsp hsp2 hp32' hrg hHeld hB8r hBpr hG9 hBx
                  go_wp2_with (first | ((with_reducible show wpList _ _ _ ((⟨_, .load 26 _, _, _, _, _⟩ : Oper) :: _) _ _); refine wpList_gload_row (by first | rfl | (simp [Region.wanted, yielded]; done)) 26 _ rfl (g9) rfl 26 _ (0, 0) _ (hBp9.heap) Tryd.underlying26 rfl (hz26) ?_))
                  refine (HV.out _ _ _ _ hk9 hle9 hds9).mono ?_
                  rintro e w5 ⟨rfl, hb5⟩
                  go_wp2_with fail
                  go_ret
                  exact ⟨rfl, belowVia hb5 hbel9⟩
                · go_simp
                  replace hap := hap.build1
                  refine hK.out _ _ (SH.out _ hap.below) (fun hHeld => ?_)
                  clear hK K'
                  generalize hg2 : X2.alloc (.cells (darr p) 26) = X3 at *
                  clear hg2
                  refine wpAnyH_ready (rs := [3]) (by kernel_rfl) (by simp) (AllReadyH.cons rfl (fun K' hK => ?_) AllReadyH.nil)
                  obtain ⟨A1, c1, X4, hrun, hapn⟩ := hap.app1 D4 hk4 E4 l f4 pth hE4 hl1000
                  refine step_append_run _ rfl _ _ 30 30 rfl _ _ rfl rfl _ _ hrun ?_
                  refine hK.out _ _ (SH.out _ hapn.below) (fun hHeld => ?_)
                  clear hK K' hrun hap
                  have hap := hapn
                  clear hapn
                  refine wpAnyH_ready (rs := [6]) (by kernel_rfl) (by simp) (AllReadyH.cons rfl (fun K' hK => ?_) AllReadyH.nil)
                  obtain ⟨A2, c2, X5, hrun, hapn⟩ := hap.app2 hp32.out hl1000
                  refine step_append_run _ rfl _ _ 30 30 rfl _ _ rfl rfl _ _ hrun ?_
                  refine hK.out _ _ (SH.out _ hapn.below) (fun hHeld => ?_)
                  clear hK K' hrun hap
                  have hap := hapn
                  clear hapn
                  have hBx := hB8.below hap.below hB8.lt
                  have qc := hBx.cell 2
                  have fc := hBx.frozen 2
                  obtain ⟨D9, hG9, hds9⟩ := hap.pub hall D4 hk4
                  have hB8r := hB8.grow hG9
                  have hBpr := hBpa.grow hG9
                  refine wpAnyH_take (i := 7) (v := ?_) rfl (by kernel_rfl) (by kernel_rfl) (by kernel_rfl) (fun _ _ _ h => h) (Or.inl ⟨by rfl, ?_⟩) hHeld ?_
                  rotate_left
                  · (intro wz hSw; (try dsimp only at hSw); go_simp; try with_reducible rfl)
                  simp only [Act.put, List.getElem_toArray, List.getElem_cons_zero, List.getElem_cons_succ, List.setIfInBounds_toArray, List.set_cons_zero, List.set_cons_succ]
                  refine wpAnyH_ready (rs := [8]) (by kernel_rfl) (by simp) (AllReadyH.cons rfl (fun K' hK => ?_) AllReadyH.nil)
                  go_simp
                  have hrg : (X5.setCell ⟨g12, 2, none⟩ (.slice A2 (l + 1) c2)).rangeAt g9 0 (p.map bv) := fun j v hv => by
                    rw [Nat.zero_add, (hBpr.far2 g0).cell, darr_full p hp32.out]; simpa using hv
                  refine hK.out _ _ hrg (fun hHeld => ?_)
                  clear hK K' qc fc
                  refine wpAnyH_done (by kernel_rfl) ?_ _
                  have hk9 : Keeps D9 (X5.setCell ⟨g12, 2, none⟩ (.slice A2 (l + 1) c2)) := hG9.keeps.setCell (p := ⟨_, 2, none⟩) hB8r.off _
                  have hbel9 : Below w.heap.size w (X5.setCell ⟨g12, 2, none⟩ (.slice A2 (l + 1) c2)) := (belowVia hG9.below hbel4).setCell (p := ⟨_, 2, none⟩) g1 _
                  have hBp9 : Box (X5.setCell ⟨g12, 2, none⟩ (.slice A2 (l + 1) c2)) D9 g9 26 (darr p) := hBpr.far2 g0
                  have hB89 : Box (X5.setCell ⟨g12, 2, none⟩ (.slice A2 (l + 1) c2)) D9 g12 49 #[.int .i64 u, .slice P4 67 d4, .slice A2 (l + 1) c2] := hB8r.set_ 2 _
                  have hle9 := hG9.le
                  have z0 := hB89.cell 0
                  have z1 := hB89.cell 1
                  have z2 := hB89.cell 2
                  clear hap hfz hsp hsp2 hp32' hrg hHeld hB8r hBpr hG9 hBx
                  go_wp2_with (first | ((with_reducible show wpList _ _ _ ((⟨_, .load 26 _, _, _, _, _⟩ : Oper) :: _) _ _); refine wpList_gload_row (by first | rfl | (simp [Region.wanted, yielded]; done)) 26 _ rfl (g9) rfl 26 _ (0, 0) _ (hBp9.heap) Tryd.underlying26 rfl (hz26) ?_))
                  refine (HV.out _ _ _ _ hk9 hle9 hds9).mono ?_
                  rintro e w5 ⟨rfl, hb5⟩
                  go_wp2_with fail
                  go_ret
                  exact ⟨rfl, belowVia hb5 hbel9⟩
              · go_simp
                replace hap := hap.build1
                refine hK.out _ _ (SH.out _ hap.below) (fun hHeld => ?_)
                clear hK K'
                generalize hg1 : X1.alloc (.cells (darr p) 26) = X2 at *
                clear hg1
                refine wpAnyH_ready (rs := [2]) (by kernel_rfl) (by simp) (AllReadyH.cons rfl (fun K' hK => ?_) AllReadyH.nil)
                have qc := (hB8.below hap.below hB8.lt).cell 2
                go_simp
                refine hK.out _ _ hHeld (fun hHeld => ?_)
                clear hK K' qc
                obtain ⟨X3, rfl⟩ : ∃ Y, Y = X2 := ⟨_, rfl⟩
                refine wpAnyH_ready (rs := [3]) (by kernel_rfl) (by simp) (AllReadyH.cons rfl (fun K' hK => ?_) AllReadyH.nil)
                obtain ⟨A1, c1, X4, hrun, hapn⟩ := hap.app1 D4 hk4 E4 l f4 pth hE4 hl1000
                refine step_append_run _ rfl _ _ 30 30 rfl _ _ rfl rfl _ _ hrun ?_
                refine hK.out _ _ (SH.out _ hapn.below) (fun hHeld => ?_)
                clear hK K' hrun hap
                have hap := hapn
                clear hapn
                refine wpAnyH_ready (rs := [6]) (by kernel_rfl) (by simp) (AllReadyH.cons rfl (fun K' hK => ?_) AllReadyH.nil)
                obtain ⟨A2, c2, X5, hrun, hapn⟩ := hap.app2 hp32.out hl1000
                refine step_append_run _ rfl _ _ 30 30 rfl _ _ rfl rfl _ _ hrun ?_
                refine hK.out _ _ (SH.out _ hapn.below) (fun hHeld => ?_)
                clear hK K' hrun hap
                have hap := hapn
                clear hapn
                have hBx := hB8.below hap.below hB8.lt
                have qc := hBx.cell 2
                have fc := hBx.frozen 2
                obtain ⟨D9, hG9, hds9⟩ := hap.pub hall D4 hk4
                have hB8r := hB8.grow hG9
                have hBpr := hBpa.grow hG9
                refine wpAnyH_take (i := 7) (v := ?_) rfl (by kernel_rfl) (by kernel_rfl) (by kernel_rfl) (fun _ _ _ h => h) (Or.inl ⟨by rfl, ?_⟩) hHeld ?_
                rotate_left
                · (intro wz hSw; (try dsimp only at hSw); go_simp; try with_reducible rfl)
                simp only [Act.put, List.getElem_toArray, List.getElem_cons_zero, List.getElem_cons_succ, List.setIfInBounds_toArray, List.set_cons_zero, List.set_cons_succ]
                refine wpAnyH_ready (rs := [8]) (by kernel_rfl) (by simp) (AllReadyH.cons rfl (fun K' hK => ?_) AllReadyH.nil)
                go_simp
                have hrg : (X5.setCell ⟨g12, 2, none⟩ (.slice A2 (l + 1) c2)).rangeAt g9 0 (p.map bv) := fun j v hv => by
                  rw [Nat.zero_add, (hBpr.far2 g0).cell, darr_full p hp32.out]; simpa using hv
                refine hK.out _ _ hrg (fun hHeld => ?_)
                clear hK K' qc fc
                refine wpAnyH_done (by kernel_rfl) ?_ _
                have hk9 : Keeps D9 (X5.setCell ⟨g12, 2, none⟩ (.slice A2 (l + 1) c2)) := hG9.keeps.setCell (p := ⟨_, 2, none⟩) hB8r.off _
                have hbel9 : Below w.heap.size w (X5.setCell ⟨g12, 2, none⟩ (.slice A2 (l + 1) c2)) := (belowVia hG9.below hbel4).setCell (p := ⟨_, 2, none⟩) g1 _
                have hBp9 : Box (X5.setCell ⟨g12, 2, none⟩ (.slice A2 (l + 1) c2)) D9 g9 26 (darr p) := hBpr.far2 g0
                have hB89 : Box (X5.setCell ⟨g12, 2, none⟩ (.slice A2 (l + 1) c2)) D9 g12 49 #[.int .i64 u, .slice P4 67 d4, .slice A2 (l + 1) c2] := hB8r.set_ 2 _
                have hle9 := hG9.le
                have z0 := hB89.cell 0
                have z1 := hB89.cell 1
                have z2 := hB89.cell 2
                clear hap hfz hsp hsp2 hp32' hrg hHeld hB8r hBpr hG9 hBx
                go_wp2_with (first | ((with_reducible show wpList _ _ _ ((⟨_, .load 26 _, _, _, _, _⟩ : Oper) :: _) _ _); refine wpList_gload_row (by first | rfl | (simp [Region.wanted, yielded]; done)) 26 _ rfl (g9) rfl 26 _ (0, 0) _ (hBp9.heap) Tryd.underlying26 rfl (hz26) ?_))
                refine (HV.out _ _ _ _ hk9 hle9 hds9).mono ?_
                rintro e w5 ⟨rfl, hb5⟩
                go_wp2_with fail
                go_ret
                exact ⟨rfl, belowVia hb5 hbel9⟩
            · have qc := (hB8.below hap.below hB8.lt).cell 2
              go_simp
              refine hK.out _ _ hHeld (fun hHeld => ?_)
              clear hK K' qc
              obtain ⟨X1, rfl⟩ : ∃ Y, Y = X0 := ⟨_, rfl⟩
              refine wpAnyH_ready (rs := [0, 5]) (by kernel_rfl) (by simp) (AllReadyH.cons rfl (fun K' hK => ?_) (AllReadyH.cons rfl (fun K' hK => ?_) AllReadyH.nil))
              · go_simp
                replace hap := hap.build0
                refine hK.out _ _ (SH.out _ hap.below) (fun hHeld => ?_)
                clear hK K'
                generalize hg1 : X1.alloc (.cells #[] 26) = X2 at *
                clear hg1
                refine wpAnyH_ready (rs := [3, 5]) (by kernel_rfl) (by simp) (AllReadyH.cons rfl (fun K' hK => ?_) (AllReadyH.cons rfl (fun K' hK => ?_) AllReadyH.nil))
                · obtain ⟨A1, c1, X3, hrun, hapn⟩ := hap.app1 D4 hk4 E4 l f4 pth hE4 hl1000
                  refine step_append_run _ rfl _ _ 30 30 rfl _ _ rfl rfl _ _ hrun ?_
                  refine hK.out _ _ (SH.out _ hapn.below) (fun hHeld => ?_)
                  clear hK K' hrun hap
                  have hap := hapn
                  clear hapn
                  refine wpAnyH_ready (rs := [5]) (by kernel_rfl) (by simp) (AllReadyH.cons rfl (fun K' hK => ?_) AllReadyH.nil)
                  go_simp
                  replace hap := hap.build1
                  refine hK.out _ _ (SH.out _ hap.below) (fun hHeld => ?_)
                  clear hK K'
                  generalize hg3 : X3.alloc (.cells (darr p) 26) = X4 at *
                  clear hg3
                  refine wpAnyH_ready (rs := [6]) (by kernel_rfl) (by simp) (AllReadyH.cons rfl (fun K' hK => ?_) AllReadyH.nil)
                  obtain ⟨A2, c2, X5, hrun, hapn⟩ := hap.app2 hp32.out hl1000
                  refine step_append_run _ rfl _ _ 30 30 rfl _ _ rfl rfl _ _ hrun ?_
                  refine hK.out _ _ (SH.out _ hapn.below) (fun hHeld => ?_)
                  clear hK K' hrun hap
                  have hap := hapn
                  clear hapn
                  have hBx := hB8.below hap.below hB8.lt
                  have qc := hBx.cell 2
                  have fc := hBx.frozen 2
                  obtain ⟨D9, hG9, hds9⟩ := hap.pub hall D4 hk4
                  have hB8r := hB8.grow hG9
                  have hBpr := hBpa.grow hG9
                  refine wpAnyH_take (i := 7) (v := ?_) rfl (by kernel_rfl) (by kernel_rfl) (by kernel_rfl) (fun _ _ _ h => h) (Or.inl ⟨by rfl, ?_⟩) hHeld ?_
                  rotate_left
                  · (intro wz hSw; (try dsimp only at hSw); go_simp; try with_reducible rfl)
                  simp only [Act.put, List.getElem_toArray, List.getElem_cons_zero, List.getElem_cons_succ, List.setIfInBounds_toArray, List.set_cons_zero, List.set_cons_succ]
                  refine wpAnyH_ready (rs := [8]) (by kernel_rfl) (by simp) (AllReadyH.cons rfl (fun K' hK => ?_) AllReadyH.nil)
                  go_simp
                  have hrg : (X5.setCell ⟨g12, 2, none⟩ (.slice A2 (l + 1) c2)).rangeAt g9 0 (p.map bv) := fun j v hv => by
                    rw [Nat.zero_add, (hBpr.far2 g0).cell, darr_full p hp32.out]; simpa using hv
                  refine hK.out _ _ hrg (fun hHeld => ?_)
                  clear hK K' qc fc
                  refine wpAnyH_done (by kernel_rfl) ?_ _
                  have hk9 : Keeps D9 (X5.setCell ⟨g12, 2, none⟩ (.slice A2 (l + 1) c2)) := hG9.keeps.setCell (p := ⟨_, 2, none⟩) hB8r.off _
                  have hbel9 : Below w.heap.size w (X5.setCell ⟨g12, 2, none⟩ (.slice A2 (l + 1) c2)) := (belowVia hG9.below hbel4).setCell (p := ⟨_, 2, none⟩) g1 _
                  have hBp9 : Box (X5.setCell ⟨g12, 2, none⟩ (.slice A2 (l + 1) c2)) D9 g9 26 (darr p) := hBpr.far2 g0
                  have hB89 : Box (X5.setCell ⟨g12, 2, none⟩ (.slice A2 (l + 1) c2)) D9 g12 49 #[.int .i64 u, .slice P4 67 d4, .slice A2 (l + 1) c2] := hB8r.set_ 2 _
                  have hle9 := hG9.le
                  have z0 := hB89.cell 0
                  have z1 := hB89.cell 1
                  have z2 := hB89.cell 2
                  clear hap hfz hsp hsp2 hp32' hrg hHeld hB8r hBpr hG9 hBx
                  go_wp2_with (first | ((with_reducible show wpList _ _ _ ((⟨_, .load 26 _, _, _, _, _⟩ : Oper) :: _) _ _); refine wpList_gload_row (by first | rfl | (simp [Region.wanted, yielded]; done)) 26 _ rfl (g9) rfl 26 _ (0, 0) _ (hBp9.heap) Tryd.underlying26 rfl (hz26) ?_))
                  refine (HV.out _ _ _ _ hk9 hle9 hds9).mono ?_
                  rintro e w5 ⟨rfl, hb5⟩
                  go_wp2_with fail
                  go_ret
                  exact ⟨rfl, belowVia hb5 hbel9⟩
                · go_simp
                  replace hap := hap.build1
                  refine hK.out _ _ (SH.out _ hap.below) (fun hHeld => ?_)
                  clear hK K'
                  generalize hg2 : X2.alloc (.cells (darr p) 26) = X3 at *
                  clear hg2
                  refine wpAnyH_ready (rs := [3]) (by kernel_rfl) (by simp) (AllReadyH.cons rfl (fun K' hK => ?_) AllReadyH.nil)
                  obtain ⟨A1, c1, X4, hrun, hapn⟩ := hap.app1 D4 hk4 E4 l f4 pth hE4 hl1000
                  refine step_append_run _ rfl _ _ 30 30 rfl _ _ rfl rfl _ _ hrun ?_
                  refine hK.out _ _ (SH.out _ hapn.below) (fun hHeld => ?_)
                  clear hK K' hrun hap
                  have hap := hapn
                  clear hapn
                  refine wpAnyH_ready (rs := [6]) (by kernel_rfl) (by simp) (AllReadyH.cons rfl (fun K' hK => ?_) AllReadyH.nil)
                  obtain ⟨A2, c2, X5, hrun, hapn⟩ := hap.app2 hp32.out hl1000
                  refine step_append_run _ rfl _ _ 30 30 rfl _ _ rfl rfl _ _ hrun ?_
                  refine hK.out _ _ (SH.out _ hapn.below) (fun hHeld => ?_)
                  clear hK K' hrun hap
                  have hap := hapn
                  clear hapn
                  have hBx := hB8.below hap.below hB8.lt
                  have qc := hBx.cell 2
                  have fc := hBx.frozen 2
                  obtain ⟨D9, hG9, hds9⟩ := hap.pub hall D4 hk4
                  have hB8r := hB8.grow hG9
                  have hBpr := hBpa.grow hG9
                  refine wpAnyH_take (i := 7) (v := ?_) rfl (by kernel_rfl) (by kernel_rfl) (by kernel_rfl) (fun _ _ _ h => h) (Or.inl ⟨by rfl, ?_⟩) hHeld ?_
                  rotate_left
                  · (intro wz hSw; (try dsimp only at hSw); go_simp; try with_reducible rfl)
                  simp only [Act.put, List.getElem_toArray, List.getElem_cons_zero, List.getElem_cons_succ, List.setIfInBounds_toArray, List.set_cons_zero, List.set_cons_succ]
                  refine wpAnyH_ready (rs := [8]) (by kernel_rfl) (by simp) (AllReadyH.cons rfl (fun K' hK => ?_) AllReadyH.nil)
                  go_simp
                  have hrg : (X5.setCell ⟨g12, 2, none⟩ (.slice A2 (l + 1) c2)).rangeAt g9 0 (p.map bv) := fun j v hv => by
                    rw [Nat.zero_add, (hBpr.far2 g0).cell, darr_full p hp32.out]; simpa using hv
                  refine hK.out _ _ hrg (fun hHeld => ?_)
                  clear hK K' qc fc
                  refine wpAnyH_done (by kernel_rfl) ?_ _
                  have hk9 : Keeps D9 (X5.setCell ⟨g12, 2, none⟩ (.slice A2 (l + 1) c2)) := hG9.keeps.setCell (p := ⟨_, 2, none⟩) hB8r.off _
                  have hbel9 : Below w.heap.size w (X5.setCell ⟨g12, 2, none⟩ (.slice A2 (l + 1) c2)) := (belowVia hG9.below hbel4).setCell (p := ⟨_, 2, none⟩) g1 _
                  have hBp9 : Box (X5.setCell ⟨g12, 2, none⟩ (.slice A2 (l + 1) c2)) D9 g9 26 (darr p) := hBpr.far2 g0
                  have hB89 : Box (X5.setCell ⟨g12, 2, none⟩ (.slice A2 (l + 1) c2)) D9 g12 49 #[.int .i64 u, .slice P4 67 d4, .slice A2 (l + 1) c2] := hB8r.set_ 2 _
                  have hle9 := hG9.le
                  have z0 := hB89.cell 0
                  have z1 := hB89.cell 1
                  have z2 := hB89.cell 2
                  clear hap hfz hsp hsp2 hp32' hrg hHeld hB8r hBpr hG9 hBx
                  go_wp2_with (first | ((with_reducible show wpList _ _ _ ((⟨_, .load 26 _, _, _, _, _⟩ : Oper) :: _) _ _); refine wpList_gload_row (by first | rfl | (simp [Region.wanted, yielded]; done)) 26 _ rfl (g9) rfl 26 _ (0, 0) _ (hBp9.heap) Tryd.underlying26 rfl (hz26) ?_))
                  refine (HV.out _ _ _ _ hk9 hle9 hds9).mono ?_
                  rintro e w5 ⟨rfl, hb5⟩
                  go_wp2_with fail
                  go_ret
                  exact ⟨rfl, belowVia hb5 hbel9⟩
              · go_simp
                replace hap := hap.build1
                refine hK.out _ _ (SH.out _ hap.below) (fun hHeld => ?_)
                clear hK K'
                generalize hg1 : X1.alloc (.cells (darr p) 26) = X2 at *
                clear hg1
                refine wpAnyH_ready (rs := [0]) (by kernel_rfl) (by simp) (AllReadyH.cons rfl (fun K' hK => ?_) AllReadyH.nil)
                go_simp
                replace hap := hap.build0
                refine hK.out _ _ (SH.out _ hap.below) (fun hHeld => ?_)
                clear hK K'
                generalize hg2 : X2.alloc (.cells #[] 26) = X3 at *
                clear hg2
                refine wpAnyH_ready (rs := [3]) (by kernel_rfl) (by simp) (AllReadyH.cons rfl (fun K' hK => ?_) AllReadyH.nil)
                obtain ⟨A1, c1, X4, hrun, hapn⟩ := hap.app1 D4 hk4 E4 l f4 pth hE4 hl1000
                refine step_append_run _ rfl _ _ 30 30 rfl _ _ rfl rfl _ _ hrun ?_
                refine hK.out _ _ (SH.out _ hapn.below) (fun hHeld => ?_)
                clear hK K' hrun hap
                have hap := hapn
                clear hapn
                refine wpAnyH_ready (rs := [6]) (by kernel_rfl) (by simp) (AllReadyH.cons rfl (fun K' hK => ?_) AllReadyH.nil)
                obtain ⟨A2, c2, X5, hrun, hapn⟩ := hap.app2 hp32.out hl1000
                refine step_append_run _ rfl _ _ 30 30 rfl _ _ rfl rfl _ _ hrun ?_
                refine hK.out _ _ (SH.out _ hapn.below) (fun hHeld => ?_)
                clear hK K' hrun hap
                have hap := hapn
                clear hapn
                have hBx := hB8.below hap.below hB8.lt
                have qc := hBx.cell 2
                have fc := hBx.frozen 2
                obtain ⟨D9, hG9, hds9⟩ := hap.pub hall D4 hk4
                have hB8r := hB8.grow hG9
                have hBpr := hBpa.grow hG9
                refine wpAnyH_take (i := 7) (v := ?_) rfl (by kernel_rfl) (by kernel_rfl) (by kernel_rfl) (fun _ _ _ h => h) (Or.inl ⟨by rfl, ?_⟩) hHeld ?_
                rotate_left
                · (intro wz hSw; (try dsimp only at hSw); go_simp; try with_reducible rfl)
                simp only [Act.put, List.getElem_toArray, List.getElem_cons_zero, List.getElem_cons_succ, List.setIfInBounds_toArray, List.set_cons_zero, List.set_cons_succ]
                refine wpAnyH_ready (rs := [8]) (by kernel_rfl) (by simp) (AllReadyH.cons rfl (fun K' hK => ?_) AllReadyH.nil)
                go_simp
                have hrg : (X5.setCell ⟨g12, 2, none⟩ (.slice A2 (l + 1) c2)).rangeAt g9 0 (p.map bv) := fun j v hv => by
                  rw [Nat.zero_add, (hBpr.far2 g0).cell, darr_full p hp32.out]; simpa using hv
                refine hK.out _ _ hrg (fun hHeld => ?_)
                clear hK K' qc fc
                refine wpAnyH_done (by kernel_rfl) ?_ _
                have hk9 : Keeps D9 (X5.setCell ⟨g12, 2, none⟩ (.slice A2 (l + 1) c2)) := hG9.keeps.setCell (p := ⟨_, 2, none⟩) hB8r.off _
                have hbel9 : Below w.heap.size w (X5.setCell ⟨g12, 2, none⟩ (.slice A2 (l + 1) c2)) := (belowVia hG9.below hbel4).setCell (p := ⟨_, 2, none⟩) g1 _
                have hBp9 : Box (X5.setCell ⟨g12, 2, none⟩ (.slice A2 (l + 1) c2)) D9 g9 26 (darr p) := hBpr.far2 g0
                have hB89 : Box (X5.setCell ⟨g12, 2, none⟩ (.slice A2 (l + 1) c2)) D9 g12 49 #[.int .i64 u, .slice P4 67 d4, .slice A2 (l + 1) c2] := hB8r.set_ 2 _
                have hle9 := hG9.le
                have z0 := hB89.cell 0
                have z1 := hB89.cell 1
                have z2 := hB89.cell 2
                clear hap hfz hsp hsp2 hp32' hrg hHeld hB8r hBpr hG9 hBx
                go_wp2_with (first | ((with_reducible show wpList _ _ _ ((⟨_, .load 26 _, _, _, _, _⟩ : Oper) :: _) _ _); refine wpList_gload_row (by first | rfl | (simp [Region.wanted, yielded]; done)) 26 _ rfl (g9) rfl 26 _ (0, 0) _ (hBp9.heap) Tryd.underlying26 rfl (hz26) ?_))
                refine (HV.out _ _ _ _ hk9 hle9 hds9).mono ?_
                rintro e w5 ⟨rfl, hb5⟩
                go_wp2_with fail
                go_ret
                exact ⟨rfl, belowVia hb5 hbel9⟩
            · go_simp
              replace hap := hap.build1
              refine hK.out _ _ (SH.out _ hap.below) (fun hHeld => ?_)
              clear hK K'
              generalize hg0 : X0.alloc (.cells (darr p) 26) = X1 at *
              clear hg0
              refine wpAnyH_ready (rs := [0, 2]) (by kernel_rfl) (by simp) (AllReadyH.cons rfl (fun K' hK => ?_) (AllReadyH.cons rfl (fun K' hK => ?_) AllReadyH.nil))
              · go_simp
                replace hap := hap.build0
                refine hK.out _ _ (SH.out _ hap.below) (fun hHeld => ?_)
                clear hK K'
                generalize hg1 : X1.alloc (.cells #[] 26) = X2 at *
                clear hg1
                refine wpAnyH_ready (rs := [2]) (by kernel_rfl) (by simp) (AllReadyH.cons rfl (fun K' hK => ?_) AllReadyH.nil)
                have qc := (hB8.below hap.below hB8.lt).cell 2
                go_simp
                refine hK.out _ _ hHeld (fun hHeld => ?_)
                clear hK K' qc
                obtain ⟨X3, rfl⟩ : ∃ Y, Y = X2 := ⟨_, rfl⟩
                refine wpAnyH_ready (rs := [3]) (by kernel_rfl) (by simp) (AllReadyH.cons rfl (fun K' hK => ?_) AllReadyH.nil)
                obtain ⟨A1, c1, X4, hrun, hapn⟩ := hap.app1 D4 hk4 E4 l f4 pth hE4 hl1000
                refine step_append_run _ rfl _ _ 30 30 rfl _ _ rfl rfl _ _ hrun ?_
                refine hK.out _ _ (SH.out _ hapn.below) (fun hHeld => ?_)
                clear hK K' hrun hap
                have hap := hapn
                clear hapn
                refine wpAnyH_ready (rs := [6]) (by kernel_rfl) (by simp) (AllReadyH.cons rfl (fun K' hK => ?_) AllReadyH.nil)
                obtain ⟨A2, c2, X5, hrun, hapn⟩ := hap.app2 hp32.out hl1000
                refine step_append_run _ rfl _ _ 30 30 rfl _ _ rfl rfl _ _ hrun ?_
                refine hK.out _ _ (SH.out _ hapn.below) (fun hHeld => ?_)
                clear hK K' hrun hap
                have hap := hapn
                clear hapn
                have hBx := hB8.below hap.below hB8.lt
                have qc := hBx.cell 2
                have fc := hBx.frozen 2
                obtain ⟨D9, hG9, hds9⟩ := hap.pub hall D4 hk4
                have hB8r := hB8.grow hG9
                have hBpr := hBpa.grow hG9
                refine wpAnyH_take (i := 7) (v := ?_) rfl (by kernel_rfl) (by kernel_rfl) (by kernel_rfl) (fun _ _ _ h => h) (Or.inl ⟨by rfl, ?_⟩) hHeld ?_
                rotate_left
                · (intro wz hSw; (try dsimp only at hSw); go_simp; try with_reducible rfl)
                simp only [Act.put, List.getElem_toArray, List.getElem_cons_zero, List.getElem_cons_succ, List.setIfInBounds_toArray, List.set_cons_zero, List.set_cons_succ]
                refine wpAnyH_ready (rs := [8]) (by kernel_rfl) (by simp) (AllReadyH.cons rfl (fun K' hK => ?_) AllReadyH.nil)
                go_simp
                have hrg : (X5.setCell ⟨g12, 2, none⟩ (.slice A2 (l + 1) c2)).rangeAt g9 0 (p.map bv) := fun j v hv => by
                  rw [Nat.zero_add, (hBpr.far2 g0).cell, darr_full p hp32.out]; simpa using hv
                refine hK.out _ _ hrg (fun hHeld => ?_)
                clear hK K' qc fc
                refine wpAnyH_done (by kernel_rfl) ?_ _
                have hk9 : Keeps D9 (X5.setCell ⟨g12, 2, none⟩ (.slice A2 (l + 1) c2)) := hG9.keeps.setCell (p := ⟨_, 2, none⟩) hB8r.off _
                have hbel9 : Below w.heap.size w (X5.setCell ⟨g12, 2, none⟩ (.slice A2 (l + 1) c2)) := (belowVia hG9.below hbel4).setCell (p := ⟨_, 2, none⟩) g1 _
                have hBp9 : Box (X5.setCell ⟨g12, 2, none⟩ (.slice A2 (l + 1) c2)) D9 g9 26 (darr p) := hBpr.far2 g0
                have hB89 : Box (X5.setCell ⟨g12, 2, none⟩ (.slice A2 (l + 1) c2)) D9 g12 49 #[.int .i64 u, .slice P4 67 d4, .slice A2 (l + 1) c2] := hB8r.set_ 2 _
                have hle9 := hG9.le
                have z0 := hB89.cell 0
                have z1 := hB89.cell 1
                have z2 := hB89.cell 2
                clear hap hfz hsp hsp2 hp32' hrg hHeld hB8r hBpr hG9 hBx
                go_wp2_with (first | ((with_reducible show wpList _ _ _ ((⟨_, .load 26 _, _, _, _, _⟩ : Oper) :: _) _ _); refine wpList_gload_row (by first | rfl | (simp [Region.wanted, yielded]; done)) 26 _ rfl (g9) rfl 26 _ (0, 0) _ (hBp9.heap) Tryd.underlying26 rfl (hz26) ?_))
                refine (HV.out _ _ _ _ hk9 hle9 hds9).mono ?_
                rintro e w5 ⟨rfl, hb5⟩
                go_wp2_with fail
                go_ret
                exact ⟨rfl, belowVia hb5 hbel9⟩
              · have qc := (hB8.below hap.below hB8.lt).cell 2
                go_simp
                refine hK.out _ _ hHeld (fun hHeld => ?_)
                clear hK K' qc
                obtain ⟨X2, rfl⟩ : ∃ Y, Y = X1 := ⟨_, rfl⟩
                refine wpAnyH_ready (rs := [0]) (by kernel_rfl) (by simp) (AllReadyH.cons rfl (fun K' hK => ?_) AllReadyH.nil)
                go_simp
                replace hap := hap.build0
                refine hK.out _ _ (SH.out _ hap.below) (fun hHeld => ?_)
                clear hK K'
                generalize hg2 : X2.alloc (.cells #[] 26) = X3 at *
                clear hg2
                refine wpAnyH_ready (rs := [3]) (by kernel_rfl) (by simp) (AllReadyH.cons rfl (fun K' hK => ?_) AllReadyH.nil)
                obtain ⟨A1, c1, X4, hrun, hapn⟩ := hap.app1 D4 hk4 E4 l f4 pth hE4 hl1000
                refine step_append_run _ rfl _ _ 30 30 rfl _ _ rfl rfl _ _ hrun ?_
                refine hK.out _ _ (SH.out _ hapn.below) (fun hHeld => ?_)
                clear hK K' hrun hap
                have hap := hapn
                clear hapn
                refine wpAnyH_ready (rs := [6]) (by kernel_rfl) (by simp) (AllReadyH.cons rfl (fun K' hK => ?_) AllReadyH.nil)
                obtain ⟨A2, c2, X5, hrun, hapn⟩ := hap.app2 hp32.out hl1000
                refine step_append_run _ rfl _ _ 30 30 rfl _ _ rfl rfl _ _ hrun ?_
                refine hK.out _ _ (SH.out _ hapn.below) (fun hHeld => ?_)
                clear hK K' hrun hap
                have hap := hapn
                clear hapn
                have hBx := hB8.below hap.below hB8.lt
                have qc := hBx.cell 2
                have fc := hBx.frozen 2
                obtain ⟨D9, hG9, hds9⟩ := hap.pub hall D4 hk4
                have hB8r := hB8.grow hG9
                have hBpr := hBpa.grow hG9
                refine wpAnyH_take (i := 7) (v := ?_) rfl (by kernel_rfl) (by kernel_rfl) (by kernel_rfl) (fun _ _ _ h => h) (Or.inl ⟨by rfl, ?_⟩) hHeld ?_
                rotate_left
                · (intro wz hSw; (try dsimp only at hSw); go_simp; try with_reducible rfl)
                simp only [Act.put, List.getElem_toArray, List.getElem_cons_zero, List.getElem_cons_succ, List.setIfInBounds_toArray, List.set_cons_zero, List.set_cons_succ]
                refine wpAnyH_ready (rs := [8]) (by kernel_rfl) (by simp) (AllReadyH.cons rfl (fun K' hK => ?_) AllReadyH.nil)
                go_simp
                have hrg : (X5.setCell ⟨g12, 2, none⟩ (.slice A2 (l + 1) c2)).rangeAt g9 0 (p.map bv) := fun j v hv => by
                  rw [Nat.zero_add, (hBpr.far2 g0).cell, darr_full p hp32.out]; simpa using hv
                refine hK.out _ _ hrg (fun hHeld => ?_)
                clear hK K' qc fc
                refine wpAnyH_done (by kernel_rfl) ?_ _
                have hk9 : Keeps D9 (X5.setCell ⟨g12, 2, none⟩ (.slice A2 (l + 1) c2)) := hG9.keeps.setCell (p := ⟨_, 2, none⟩) hB8r.off _
                have hbel9 : Below w.heap.size w (X5.setCell ⟨g12, 2, none⟩ (.slice A2 (l + 1) c2)) := (belowVia hG9.below hbel4).setCell (p := ⟨_, 2, none⟩) g1 _
                have hBp9 : Box (X5.setCell ⟨g12, 2, none⟩ (.slice A2 (l + 1) c2)) D9 g9 26 (darr p) := hBpr.far2 g0
                have hB89 : Box (X5.setCell ⟨g12, 2, none⟩ (.slice A2 (l + 1) c2)) D9 g12 49 #[.int .i64 u, .slice P4 67 d4, .slice A2 (l + 1) c2] := hB8r.set_ 2 _
                have hle9 := hG9.le
                have z0 := hB89.cell 0
                have z1 := hB89.cell 1
                have z2 := hB89.cell 2
                clear hap hfz hsp hsp2 hp32' hrg hHeld hB8r hBpr hG9 hBx
                go_wp2_with (first | ((with_reducible show wpList _ _ _ ((⟨_, .load 26 _, _, _, _, _⟩ : Oper) :: _) _ _); refine wpList_gload_row (by first | rfl | (simp [Region.wanted, yielded]; done)) 26 _ rfl (g9) rfl 26 _ (0, 0) _ (hBp9.heap) Tryd.underlying26 rfl (hz26) ?_))
                refine (HV.out _ _ _ _ hk9 hle9 hds9).mono ?_
                rintro e w5 ⟨rfl, hb5⟩
                go_wp2_with fail
                go_ret
                exact ⟨rfl, belowVia hb5 hbel9⟩
          · by_cases h2 : hw = 2
            · subst h2
              obtain ⟨mx, hmx, hm0, hm1⟩ : ∃ mx : Int, max (0 : Int) (min nn 1000) = mx ∧ 0 ≤ mx ∧ mx ≤ 1000 := ⟨_, rfl, by omega, by omega⟩
              go_wp2_with (first | ((with_reducible show wpList _ _ _ ((⟨_, .load 26 _, _, _, _, _⟩ : Oper) :: _) _ _); refine wpList_gload_row (by first | rfl | (simp [Region.wanted, yielded]; done)) 26 _ rfl (g9) rfl 26 _ (0, 0) _ (((hBq.alloc _).alloc _).heap) Tryd.underlying26 rfl (hz26) ?_))
              refine (HVB.out m (m + mx) 67 (by simp [maxLen]) _ (.inr (.inr (.inr (.inl (by omega)))))).mono ?_
              rintro e w5 ⟨rfl, hb5⟩
              go_wp2_with fail
              go_ret
              exact ⟨rfl, belowVia hb5 (belowAlloc (belowAlloc hbq _) _)⟩
            · by_cases h3 : hw = 3
              · subst h3
                obtain ⟨mx, hmx, hm0, hm1⟩ : ∃ mx : Int, max (0 : Int) (min nn 1000) = mx ∧ 0 ≤ mx ∧ mx ≤ 1000 := ⟨_, rfl, by omega, by omega⟩
                go_wp2_with (first | ((with_reducible show wpList _ _ _ ((⟨_, .load 26 _, _, _, _, _⟩ : Oper) :: _) _ _); refine wpList_gload_row (by first | rfl | (simp [Region.wanted, yielded]; done)) 26 _ rfl (g9) rfl 26 _ (0, 0) _ (((hBq.alloc _).alloc _).heap) Tryd.underlying26 rfl (hz26) ?_))
                refine (HVB.out m (-1 - mx) 67 (by simp [maxLen]) _ (.inr (.inr (.inl (by omega))))).mono ?_
                rintro e w5 ⟨rfl, hb5⟩
                go_wp2_with fail
                go_ret
                exact ⟨rfl, belowVia hb5 (belowAlloc (belowAlloc hbq _) _)⟩
              · by_cases h4 : hw = 4
                · subst h4
                  go_wp2_with fail
                  refine (pick_c nn _).mono ?_
                  rintro e w5 ⟨rfl, rfl⟩
                  have hpb := pickF_bad nn
                  generalize pickF nn = pk at *
                  go_wp2_with (first | ((with_reducible show wpList _ _ _ ((⟨_, .load 26 _, _, _, _, _⟩ : Oper) :: _) _ _); refine wpList_gload_row (by first | rfl | (simp [Region.wanted, yielded]; done)) 26 _ rfl (g9) rfl 26 _ (0, 0) _ (hBpa.heap) Tryd.underlying26 rfl (hz26) ?_))
                  refine (HVB.out pk u 67 (by simp [maxLen]) _ (hpb.elim .inl (fun h => .inr (.inl h)))).mono ?_
                  rintro e w5 ⟨rfl, hb5⟩
                  go_wp2_with fail
                  go_ret
                  exact ⟨rfl, belowVia hb5 hbel4⟩
                · have e0 : (hw == 0) = false := by simpa using h0
                  have e1 : (hw == 1) = false := by simpa using h1
                  have e2 : (hw == 2) = false := by simpa using h2
                  have e3 : (hw == 3) = false := by simpa using h3
                  have e4 : (hw == 4) = false := by simpa using h4
                  have HV := Lib.hid (fun W hk => HVX.out E4 l f4 pth D4 W hk (Gh.le.refl _) hE4)
                  rw [HVS.out hum] at HV
                  go_wp2_with (first | ((with_reducible show wpList _ _ _ ((⟨_, .load 26 _, _, _, _, _⟩ : Oper) :: _) _ _); refine wpList_load_row rfl 26 _ rfl (g9) rfl 26 _ (0, 0) _ (hBpa.heap) Tryd.underlying26 rfl (hz26) ?_))
                  refine (HV.out _ hk4).mono ?_
                  rintro e w5 ⟨rfl, hb5⟩
                  go_wp2_with fail
                  go_ret
                  exact ⟨rfl, belowVia hb5 hbel4⟩
    · have hv : validF n m u = false := by simpa using hv
      go_wp2_with fail
      refine (public_bad A n c hnm m u D w2 hk2 hv).mono ?_
      rintro e w3 ⟨rfl, hb3⟩
      rw [dg_darr zeros32 rfl]
      have hz26 := sz26 zeros32 rfl
      replace hB0 := (hB0.below hb3 hB0.lt).alloc (.cells (darr zeros32) 26)
      have hk3 := (hk2.below hb3 (Nat.le_refl _)).alloc (.cells (darr zeros32) 26)
      have hbel3 := belowAlloc (belowVia hb3 hbel2) (.cells (darr zeros32) 26)
      clear q0 q1 q2 hb3 hk2 hbel2
      have q0 := hB0.cell 0
      have q1 := hB0.cell 1
      have q2 := hB0.cell 2
      go_wp2_with (first | (((with_reducible show wpList _ _ _ ((⟨_, .store 26 _ _, _, _, _, _⟩ : Oper) :: _) _ _); refine wpList_store_row rfl 26 _ _ rfl (w3.heap.size) (darr zeros32) rfl rfl 26 (darr []) (heap_alloc_new w3 _) (hz26) (rfl) (darr_one _) ?_); rw [World.setRow_alloc_new]))
      refine (sign_bad A n c hnm m u B b d hbm _ D hk3 320 (.inl ⟨hv, rfl⟩)).mono ?_
      rintro e w4 ⟨rfl, hb4⟩
      have hbel4 := belowVia hb4 hbel3
      go_wp2
      go_ret
      exact ⟨rfl, belowAlloc (belowAlloc hbel4 _) _⟩
  · have hfew : fewF n m b = false := by simpa using hfew
    rw [hfew]
    clear hfew
    go_wp2
    go_ret
    exact ⟨rfl, hbel2⟩
end Go.Proofs.YtohknemfcohhfaaDoor
