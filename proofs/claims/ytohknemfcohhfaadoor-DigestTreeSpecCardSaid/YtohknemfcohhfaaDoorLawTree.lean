/-
  What is proved here: the walk of DigestTreeSpec
-/
import Derived.Test.YtohknemfcohhfaaDoorRows
import Derived.Test.YtohknemfcohhfaaDoorBaseC
import Derived.Test.YtohknemfcohhfaaDoorSha
import Derived.Test.YtohknemfcohhfaaDoorDigA
import Derived.Test.YtohknemfcohhfaaDoorDigB
import Derived.Test.YtohknemfcohhfaaDoorDigC
import Derived.Test.YtohknemfcohhfaaDoorDigD
import Derived.Test.YtohknemfcohhfaaDoorDigE
import Derived.Test.YtohknemfcohhfaaDoorDigF
import Derived.Test.YtohknemfcohhfaaDoorDigG
import Derived.Test.YtohknemfcohhfaaDoorDigL
import Derived.Test.YtohknemfcohhfaaDoorLawHalves
import Derived.Test.YtohknemfcohhfaaDoorDigW
import Derived.Test.YtohknemfcohhfaaDoorDigX
import Derived.Test.YtohknemfcohhfaaDoorTwoB
import Derived.Deep.MidRow
import Derived.Test.YtohknemfcohhfaaDoorDigZB
import Derived.Test.YtohknemfcohhfaaDoorDigZ
import Derived.Test.YtohknemfcohhfaaDoorDigY
import Derived.Test.YtohknemfcohhfaaDoorDigT
import Derived.Test.YtohknemfcohhfaaDoorDigR
import Derived.Great.BuildSlice
import Derived.Test.YtohknemfcohhfaaDoorDigQ
import Derived.Stop.BytesEq
import Derived.Test.YtohknemfcohhfaaDoorDigU
import Derived.Test.YtohknemfcohhfaaDoorDigV
import Derived.Lib.ConvBytes
import Derived.StillTailTactics
import Derived.Lib.AppendZerosOnto
import Derived.Deep.RegionHeld3
import Derived.Deep.MidRow
import Derived.Deep.RegionLaw
import Derived.Deep.DeepCutAuto
import Derived.Deep.QuietTactic
import Derived.BigQuiet
import Derived.Laws.EntriesVeiled
namespace Go.Proofs.YtohknemfcohhfaaDoor
open Go.RowKit Go.VS
theorem _root_.Go.VS.Keeps.anti {D D' : Gh} {w : World} (h : Keeps D' w) (hle : D.le D') : Keeps D w := fun b o v e => h b o v (hle b o v e)
theorem ints3 {w : World} {D : Gh} (hk : Keeps D w) (a b c : Int) : ∃ D', Grow w D (w.alloc (.cells #[.int .i64 a, .int .i64 b, .int .i64 c] 3)) D' ∧ ∀ j, j < 3 → ∃ v : Int, D' w.heap.size j = some (.int .i64 v) := by
  obtain ⟨D', h1, _, h3, _⟩ := ((Grow.refl hk).alloc (.cells #[.int .i64 a, .int .i64 b, .int .i64 c] 3)).pubBox (Box.new2 hk rfl 3 #[.int .i64 a, .int .i64 b, .int .i64 c]) (Nat.le_refl _)
  refine ⟨D', h1, fun j hj => ?_⟩
  obtain rfl | rfl | rfl : j = 0 ∨ j = 1 ∨ j = 2 := by omega
  · exact ⟨a, h3 0 _ rfl⟩
  · exact ⟨b, h3 1 _ rfl⟩
  · exact ⟨c, h3 2 _ rfl⟩
theorem climbR_len {sh : List UInt8 → List UInt8} (hs : Sh sh) (d : Dg) (a n : Int) (ps : List Dg) : (climbR sh d a n ps).1.length = 32 := by
  unfold climbR
  split
  · exact climbF_len hs _ _ _ _
  · rfl
theorem pathR_len (sh : List UInt8 → List UInt8) (ds : List Dg) (h : ds.length ≤ 64) (a : Int) : (pathR sh ds a).1.length ≤ 6 := by
  unfold pathR
  split
  · rw [pathF_len _ _ _ _ rfl]; exact lenF_le 6 _ _ (by omega)
  · simp
theorem foldzD (r : List UInt8) (hr : r.length = 32) : List.foldl (fun (cs : Array Value) (x : Value × Nat) => cs.setIfInBounds x.snd x.fst) #[.int .u8 0, .int .u8 0, .int .u8 0, .int .u8 0, .int .u8 0, .int .u8 0, .int .u8 0, .int .u8 0, .int .u8 0, .int .u8 0, .int .u8 0, .int .u8 0, .int .u8 0, .int .u8 0, .int .u8 0, .int .u8 0, .int .u8 0, .int .u8 0, .int .u8 0, .int .u8 0, .int .u8 0, .int .u8 0, .int .u8 0, .int .u8 0, .int .u8 0, .int .u8 0, .int .u8 0, .int .u8 0, .int .u8 0, .int .u8 0, .int .u8 0, .int .u8 0] (r.map bv).zipIdx = darr r := foldzL2 r hr
theorem fin3 {W0 X : World} {D9 : Gh} (hbel : Below W0.heap.size W0 X) (hk : Keeps D9 X) {A0 A1 A2 : Option Addr} {l0 l1 l2 c0 c1 c2 : Nat} {p0 p1 p2 : List Dg}
    (h0 : DS D9 (.slice A0 l0 c0) p0) (h1 : DS D9 (.slice A1 l1 c1) p1) (h2 : DS D9 (.slice A2 l2 c2) p2) :
    ∃ (gF : Nat) (D' : Gh), Value.slice (some ⟨X.heap.size, 0, none⟩) 3 3 = .slice (some ⟨gF, 0, none⟩) 3 3 ∧ Value.int .i64 3 = .int .i64 3 ∧ Value.int .i64 0 = .int .i64 0 ∧ Below W0.heap.size W0 (X.alloc (.cells #[.slice A0 l0 c0, .slice A1 l1 c1, .slice A2 l2 c2] 30)) ∧ Keeps D' (X.alloc (.cells #[.slice A0 l0 c0, .slice A1 l1 c1, .slice A2 l2 c2] 30)) ∧ D9.le D' ∧
      ∀ j, j < 3 → ∃ (A9 : Option Addr) (l9 c9 : Nat) (ps : List Dg), D' gF j = some (.slice A9 l9 c9) ∧ DS D' (.slice A9 l9 c9) ps := by
  obtain ⟨D', hG, _, h3, _⟩ := ((Grow.refl hk).alloc (.cells #[.slice A0 l0 c0, .slice A1 l1 c1, .slice A2 l2 c2] 30)).pubBox (Box.new2 hk rfl 30 #[.slice A0 l0 c0, .slice A1 l1 c1, .slice A2 l2 c2]) (Nat.le_refl _)
  refine ⟨_, D', rfl, rfl, rfl, belowAlloc hbel _, hG.keeps, hG.le, fun j hj => ?_⟩
  obtain rfl | rfl | rfl : j = 0 ∨ j = 1 ∨ j = 2 := by omega
  · exact ⟨_, _, _, p0, h3 0 _ rfl, h0.le hG.le⟩
  · exact ⟨_, _, _, p1, h3 1 _ rfl, h1.le hG.le⟩
  · exact ⟨_, _, _, p2, h3 2 _ rfl, h2.le hG.le⟩
set_option maxRecDepth 100000 in
set_option maxHeartbeats 4000000 in
theorem treespec_walk {sh : List UInt8 → List UInt8} (hs : Sh sh) (A : Option Addr) (n c : Nat) (bs : List UInt8) (at_ nn : Int) (d : List UInt8) (hd : d.length = 32) (D : Gh) (w : World) (hk : Keeps D w) (hT : Tab D) (hb : BS D (.slice A n c) bs) :
    Calls Tryd.prog 4 #[.slice A n c, .int .i64 at_, .int .i64 nn, dg d] w fun e w' => e = .returned (.bool true) ∧ Below w.heap.size w w' := by
  have H32 := Lib.hid hd
  rw [dg_darr d hd]
  clear hd
  have hB0 := Box.new2 hk rfl 26 (darr d)
  obtain ⟨D1, hG1, hle1, hcl1, _⟩ := ((Grow.refl hk).alloc (.cells (darr d) 26)).pubBox hB0 (Nat.le_refl _)
  have SR : Hid (∀ D' W, D1.le D' → Keeps D' W → W.rangeAt w.heap.size 0 (d.map bv)) := fun D' W hle hk j v hv => by
    rw [Nat.zero_add]
    refine hk _ _ _ (hle _ _ _ (hcl1 j v ?_))
    rw [darr_full d H32.out]; simpa using hv
  have hT1 := hT.le hG1.le
  have HSA := Lib.hid (sane27_c hs D1 _ hG1.keeps hT1)
  have hb1' := hb.le hG1.le
  clear hB0 hle1 hcl1 hT hb
  go_enter Tryd.func4, Tryd.ntmps4
  go_wp2_with fail
  refine HSA.out.mono ?_
  rintro e w1 ⟨rfl, hb1⟩
  have hk1 := hG1.keeps.below hb1 (Nat.le_refl _)
  have hbel1 := belowVia hb1 hG1.below
  clear HSA hb1 hG1
  go_wp2_with fail
  refine (digestsOf_c A n c bs D1 w1 hk1 hb1').mono ?_
  rintro e w2 ⟨A2, c2, D2, rfl, hG2, hds⟩
  have hT2 := hT1.le hG2.le
  have hbel2 : Below w.heap.size w w2 := belowVia hG2.below hbel1
  have hk2 := hG2.keeps
  have hle2 := hG2.le
  have hl40 : (lD bs).length ≤ 40 := by rw [lD_len]; omega
  generalize lD bs = ds at *
  obtain ⟨m, hm⟩ : ∃ m, m = ds.length := ⟨_, rfl⟩
  rw [← hm] at hl40 hds ⊢
  have HM := Lib.hid hm
  have HTR := Lib.hid (fun W hk => tree_c hs A2 m c2 ds D2 W hk hT2 hds (by omega))
  have HTR2 := Lib.hid (fun W hk => rtree_c hs m A2 m c2 ds D2 W hk hds (Nat.le_refl _) (by omega))
  have hr32 := Lib.hid (treeF_len hs ds)
  generalize treeF (tagB sh) ds = r at *
  rw [dg_darr r hr32.out] at HTR HTR2
  have heq : ∀ W, (Op.equalIn 10000 26 (.agg (darr r)) (.agg (darr r))).run Tryd.prog W = .ok true W := fun W => by
    rw [eq26 r r hr32.out hr32.out W]; simp
  clear hm hk1 hbel1 hb1' hG2
  go_wp2_with fail
  refine (HTR.out _ hk2).mono ?_
  rintro e w3 ⟨rfl, hb3⟩
  have hk3 := hk2.below hb3 (Nat.le_refl _)
  have hbel3 := belowVia hb3 hbel2
  go_wp2_with fail
  refine (HTR2.out _ hk3).mono ?_
  rintro e w4 ⟨rfl, hb4⟩
  have hk4 := hk3.below hb4 (Nat.le_refl _)
  have hbel4 := belowVia hb4 hbel3
  clear HTR HTR2 hk2 hbel2 hb3 hk3 hbel3 hb4
  obtain ⟨q3, hq3, hq4⟩ : ∃ q3 : Nat, bits .and .i64 nn 3 = (q3 : Int) ∧ q3 < 4 := ⟨(nn % 4).toNat, by rw [i64_mask2]; omega, by omega⟩
  obtain ⟨D3, hG3, hi3⟩ := ints3 hk4 at_ (bits .and .i64 at_ 31) ((m : Int) - 1)
  have hbel5 : Below w.heap.size w (w4.alloc (.cells #[.int .i64 at_, .int .i64 (bits .and .i64 at_ 31), .int .i64 ((m : Int) - 1)] 3)) := belowAlloc hbel4 _
  have hk5 := hG3.keeps
  have hT3 := hT2.le hG3.le
  have hds3 := hds.le hG3.le
  have hle3 := hle2.trans hG3.le
  go_wp2_with fail
  clear hT2 hds hle2 hG3 hk4 hbel4
  generalize w4.heap.size = g3 at *
  generalize w4.alloc (.cells #[.int .i64 at_, .int .i64 (bits .and .i64 at_ 31), .int .i64 ((m : Int) - 1)] 3) = W5 at *
  go_loopw [41] (fun x wx => ∃ i : Nat, i ≤ 3 ∧ x = .int .i64 i ∧ Below w.heap.size w wx ∧ Keeps D3 wx) (fun x _ => 3 - (intOf x).toNat)
  case atStart => exact ⟨0, by omega, rfl, hbel5, hk5⟩
  case round =>
    clear hbel5 hk5
    obtain ⟨i, hi2, rfl, hbel, hkx⟩ := hrel
    by_cases hlt : i < 3
    · obtain ⟨v, hv⟩ := hi3 i hlt
      have hcv := hkx g3 i _ hv
      have g8 : (i : Int) < 3 := by omega
      clear hv
      have HP1 := Lib.hid (fun W hk => pathR_c hs A2 m c2 ds v D3 W hk hT3 hds3 (by omega))
      have HP2 := Lib.hid (fun D' W hk (hle : D3.le D') => rpathR_c hs A2 m c2 ds v D' W hk (hds3.le hle) (by omega))
      have hpl := pathR_len sh ds (by rw [← HM.out]; omega) v
      generalize pathR sh ds v = PR at *
      obtain ⟨P, z⟩ := PR
      dsimp only at HP1 HP2 hpl
      obtain ⟨L, hL⟩ : ∃ L, L = P.length := ⟨_, rfl⟩
      rw [← hL] at HP1 HP2 hpl
      have HL := Lib.hid hL
      clear hL
      go_wp2_with fail
      refine (HP1.out _ hkx).mono ?_
      rintro e w6 ⟨A5, c5, D5, rfl, hG5, hp5⟩
      have hbel6 := belowVia hG5.below hbel
      clear hcv
      go_wp2_with fail
      refine (HP2.out _ _ hG5.keeps hG5.le).mono ?_
      rintro e w7 ⟨A6, c6, D6, rfl, hG6, hp6⟩
      have hbel7 := belowVia hG6.below hbel6
      have hp5' := hp5.le hG6.le
      have hle6 := hG5.le.trans hG6.le
      have hkx6 := hG6.keeps
      clear hG5 hG6 hbel6 hp5 HP1 HP2
      go_wp2_with fail
      refine (rsame27_c _ _ _ _ _ _ P D6 _ hkx6 hp5' hp6).mono ?_
      rintro e w8 ⟨rfl, hb8⟩
      have hk8 := hkx6.below hb8 (Nat.le_refl _)
      have hbel8 := belowVia hb8 hbel7
      obtain ⟨D7, hG7, hi7⟩ := ints3 hk8 nn (m : Int) ((m : Int) + q3)
      have hbel9 : Below w.heap.size w (w8.alloc (.cells #[.int .i64 nn, .int .i64 (m : Int), .int .i64 ((m : Int) + q3)] 3)) := belowAlloc hbel8 _
      have hk9 := hG7.keeps
      have hp7 := hp6.le hG7.le
      have hle7 := (hle3.trans hle6).trans hG7.le
      have hle7' := hle6.trans hG7.le
      clear hp5' hp6 hkx6 hbel7 hb8 hk8 hbel8 hG7 hle6
      go_wp2_with fail
      clear hle3
      generalize w8.heap.size = g7 at *
      generalize w8.alloc (.cells #[.int .i64 nn, .int .i64 (m : Int), .int .i64 ((m : Int) + q3)] 3) = W9 at *
      go_loopw [76] (fun x wx => ∃ i : Nat, i ≤ 3 ∧ x = .int .i64 i ∧ Below w.heap.size w wx ∧ Keeps D7 wx) (fun x _ => 3 - (intOf x).toNat)
      case atStart => exact ⟨0, by omega, rfl, hbel9, hk9⟩
      case round =>
        clear hbel9 hk9
        obtain ⟨i2, hi22, rfl, hbel, hkx⟩ := hrel
        by_cases hlt2 : i2 < 3
        · obtain ⟨u, hu⟩ := hi7 i2 hlt2
          have hcu := hkx g7 i2 _ hu
          have g9 : (i2 : Int) < 3 := by omega
          clear hu
          go_wp2_with fail
          go_cut [92, 93, 94] (fun x y z wx => ∃ (gF : Nat) (D9 : Gh), x = .slice (some ⟨gF, 0, none⟩) 3 3 ∧ y = .int .i64 3 ∧ z = .int .i64 0 ∧ Below w.heap.size w wx ∧ Keeps D9 wx ∧ D7.le D9 ∧ ∀ j, j < 3 → ∃ (A9 : Option Addr) (l9 c9 : Nat) (ps : List Dg), D9 gF j = some (.slice A9 l9 c9) ∧ DS D9 (.slice A9 l9 c9) ps)
          case first =>
            have hall : ∀ x ∈ P ++ [d], x.length = 32 := fun x hx => by
              rw [List.mem_append, List.mem_singleton] at hx
              rcases hx with hx | rfl
              · exact hp7.1 x hx
              · exact H32.out
            obtain ⟨hpl1, hpl2, hpl3⟩ := hp7.len
            unfold maxLen at hpl3
            obtain ⟨hsh, hph⟩ := ds_head hp7 (k := L / 2) (by omega)
            have HF := Lib.hid (fun (D9 : Gh) (X : World) (hle : D7.le D9) (hk : Keeps D9 X) (hb : Below w.heap.size w X) (A' : Option Addr) (l' c' : Nat) (h1 : DS D9 (.slice A' l' c') (P ++ [d])) =>
              (show ∃ (gF : Nat) (D' : Gh), Value.slice (some ⟨X.heap.size, 0, none⟩) 3 3 = .slice (some ⟨gF, 0, none⟩) 3 3 ∧ Value.int .i64 3 = .int .i64 3 ∧ Value.int .i64 0 = .int .i64 0 ∧ Below w.heap.size w (X.alloc (.cells #[.slice A6 L c6, .slice A' l' c', .slice A6 (L / 2) c6] 30)) ∧ Keeps D' (X.alloc (.cells #[.slice A6 L c6, .slice A' l' c', .slice A6 (L / 2) c6] 30)) ∧ D7.le D' ∧ ∀ j, j < 3 → ∃ (A9 : Option Addr) (l9 c9 : Nat) (ps : List Dg), D' gF j = some (.slice A9 l9 c9) ∧ DS D' (.slice A9 l9 c9) ps from
                let ⟨gF, D', a, b, c, d, e, f, g⟩ := fin3 hb hk (hp7.le hle) h1 (hph.le hle)
                ⟨gF, D', a, b, c, d, e, hle.trans f, g⟩))
            have e1 : ((L / 2 : Nat) : Int) = (L : Int) / 2 := by omega
            rw [e1] at hsh
            obtain ⟨kk, hkk⟩ : ∃ kk, L / 2 = kk := ⟨_, rfl⟩
            have e2 : (L : Int) / 2 = (kk : Int) := by omega
            have e3 : (L : Int).tdiv 2 = (kk : Int) := by rw [Int.tdiv_eq_ediv_of_nonneg (by omega)]; exact e2
            have e4 : (kk : Int) ≤ (c6 : Int) := by omega
            have e5 : IntKind.i64.wrap (kk : Int) = kk := by rw [IntKind.wrap_i64]; omega
            rw [hkk] at HF hsh
            rw [e2] at hsh
            have HPH := Lib.hid hph
            clear hph e1 hcu hpl1 hpl2 hpl3
            have hu26 := Tryd.underlying26
            have hszd := sz26l d H32.out
            have hd32 := H32.out
            have hfz := foldzD d H32.out
            have hsp : (d.map bv).toArray.size = 32 := by simp [H32.out]
            have hsp2 : (d.map bv).length = 32 := by simp [H32.out]
            have hk0 := hkx.drew
            have hbel0 := hbel.drew
            have SH0 := Lib.hid (fun W hk => SR.out D7 W hle7 hk)
            refine wp_region_held_drew (S := fun W => W.rangeAt w.heap.size 0 (d.map bv)) (by kernel_rfl) (SH0.out _ hk0) (fun hHeld => ?_)
            generalize wr.drew = X0 at *
            have hap := Aq.start X0
            have SH : Hid (∀ W, Below X0.heap.size X0 W → W.rangeAt w.heap.size 0 (d.map bv)) := fun W hb => SH0.out _ (hk0.below hb (Nat.le_refl _))
            refine wpAnyH_take (i := 0) (v := ?_) rfl (by kernel_rfl) (by kernel_rfl) (by kernel_rfl) (fun _ _ _ h => h) (Or.inl ⟨by rfl, ?_⟩) hHeld ?_
            rotate_left
            · (intro wz hSw; (try dsimp only at hSw); go_simp; try with_reducible rfl)
            simp only [Act.put, List.getElem_toArray, List.getElem_cons_zero, List.setIfInBounds_toArray, List.set_cons_zero, List.set_cons_succ]
            refine wpAnyH_take (i := 2) (v := ?_) rfl (by kernel_rfl) (by kernel_rfl) (by kernel_rfl) (fun _ _ _ h => h) (Or.inl ⟨by rfl, ?_⟩) hHeld ?_
            rotate_left
            · (intro wz hSw; (try dsimp only at hSw); go_simp; try with_reducible rfl)
            simp only [Act.put, List.getElem_toArray, List.getElem_cons_zero, List.getElem_cons_succ, List.setIfInBounds_toArray, List.set_cons_zero, List.set_cons_succ]
            refine wpAnyH_take (i := 4) (v := (.agg (d.map bv).toArray)) rfl (by kernel_rfl) (by kernel_rfl) (by kernel_rfl) (fun _ _ _ h => h) (yieldsIf_load_mid (by rfl) _ _ rfl _ _ rfl _ _ (fun w h => h) hu26 rfl hszd) hHeld ?_
            simp only [Act.put, List.getElem_toArray, List.getElem_cons_zero, List.getElem_cons_succ, List.setIfInBounds_toArray, List.set_cons_zero, List.set_cons_succ]
            refine wpAnyH_take (i := 7) (v := ?_) rfl (by kernel_rfl) (by kernel_rfl) (by kernel_rfl) (fun _ _ _ h => h) (Or.inl ⟨by rfl, ?_⟩) hHeld ?_
            rotate_left
            · (intro wz hSw; (try dsimp only at hSw); go_simp; try with_reducible rfl)
            simp only [Act.put, List.getElem_toArray, List.getElem_cons_zero, List.getElem_cons_succ, List.setIfInBounds_toArray, List.set_cons_zero, List.set_cons_succ]
            refine wpAnyH_take (i := 8) (v := ?_) rfl (by kernel_rfl) (by kernel_rfl) (by kernel_rfl) (fun _ _ _ h => h) (Or.inl ⟨by rfl, ?_⟩) hHeld ?_
            rotate_left
            · (intro wz hSw; (try dsimp only at hSw); go_simp; try with_reducible rfl)
            simp only [Act.put, List.getElem_toArray, List.getElem_cons_zero, List.getElem_cons_succ, List.setIfInBounds_toArray, List.set_cons_zero, List.set_cons_succ]
            refine wpAnyH_take (i := 9) (v := ?_) rfl (by kernel_rfl) (by kernel_rfl) (by kernel_rfl) (fun _ _ _ h => h) (Or.inl ⟨by rfl, ?_⟩) hHeld ?_
            rotate_left
            · (intro wz hSw; (try dsimp only at hSw); go_simp; try with_reducible rfl)
            simp only [Act.put, List.getElem_toArray, List.getElem_cons_zero, List.getElem_cons_succ, List.setIfInBounds_toArray, List.set_cons_zero, List.set_cons_succ]
            refine wpAnyH_take (i := 10) (v := ?_) rfl (by kernel_rfl) (by kernel_rfl) (by kernel_rfl) (fun _ _ _ h => h) (Or.inl ⟨by rfl, ?_⟩) hHeld ?_
            rotate_left
            · (intro wz hSw; (try dsimp only at hSw); go_simp; try with_reducible rfl)
            simp only [Act.put, List.getElem_toArray, List.getElem_cons_zero, List.getElem_cons_succ, List.setIfInBounds_toArray, List.set_cons_zero, List.set_cons_succ]
            refine wpAnyH_take (i := 11) (v := ?_) rfl (by kernel_rfl) (by kernel_rfl) (by kernel_rfl) (fun _ _ _ h => h) (Or.inl ⟨by rfl, ?_⟩) hHeld ?_
            rotate_left
            · (intro wz hSw; (try dsimp only at hSw); go_simp; try with_reducible rfl)
            simp only [Act.put, List.getElem_toArray, List.getElem_cons_zero, List.getElem_cons_succ, List.setIfInBounds_toArray, List.set_cons_zero, List.set_cons_succ]
            refine wpAnyH_take (i := 14) (v := ?_) rfl (by kernel_rfl) (by kernel_rfl) (by kernel_rfl) (fun _ _ _ h => h) (Or.inl ⟨by rfl, ?_⟩) hHeld ?_
            rotate_left
            · (intro wz hSw; (try dsimp only at hSw); go_simp; try with_reducible rfl)
            simp only [Act.put, List.getElem_toArray, List.getElem_cons_zero, List.getElem_cons_succ, List.setIfInBounds_toArray, List.set_cons_zero, List.set_cons_succ]
            refine wpAnyH_ready (rs := [1, 5]) (by kernel_rfl) (by simp) (AllReadyH.cons rfl (fun K' hK => ?_) (AllReadyH.cons rfl (fun K' hK => ?_) AllReadyH.nil))
            · go_simp
              replace hap := hap.build0
              refine hK.out _ _ (SH.out _ hap.below) (fun hHeld => ?_)
              clear hK K'
              generalize X0.alloc (.cells #[] 26) = X1 at *
              refine wpAnyH_ready (rs := [3, 5]) (by kernel_rfl) (by simp) (AllReadyH.cons rfl (fun K' hK => ?_) (AllReadyH.cons rfl (fun K' hK => ?_) AllReadyH.nil))
              · obtain ⟨A1, c1, X2, hrun, hapn⟩ := hap.app1 D7 hk0 A6 L c6 P hp7 (by omega)
                refine step_append_run _ rfl _ _ 30 30 rfl _ _ rfl rfl _ _ hrun ?_
                refine hK.out _ _ (SH.out _ hapn.below) (fun hHeld => ?_)
                clear hK K' hrun hap
                have hap := hapn
                clear hapn
                refine wpAnyH_ready (rs := [5]) (by kernel_rfl) (by simp) (AllReadyH.cons rfl (fun K' hK => ?_) AllReadyH.nil)
                go_simp
                replace hap := hap.build (darr d)
                refine hK.out _ _ (SH.out _ hap.below) (fun hHeld => ?_)
                clear hK K'
                generalize X2.alloc (.cells (darr d) 26) = X3 at *
                refine wpAnyH_ready (rs := [6]) (by kernel_rfl) (by simp) (AllReadyH.cons rfl (fun K' hK => ?_) AllReadyH.nil)
                obtain ⟨A2', c2', X4, hrun, hapn⟩ := hap.app2 H32.out (go := X2.heap.size) (by simp) (by omega)
                refine step_append_run _ rfl _ _ 30 30 rfl _ _ rfl rfl _ _ hrun ?_
                refine hK.out _ _ (SH.out _ hapn.below) (fun hHeld => ?_)
                clear hK K' hrun hap
                have hap := hapn
                clear hapn
                refine wpAnyH_ready (rs := [12]) (by kernel_rfl) (by simp) (AllReadyH.cons rfl (fun K' hK => ?_) AllReadyH.nil)
                obtain ⟨D9, hG9, hds9⟩ := hap.pub hall D7 hk0
                go_simp
                have hfin := Lib.hid (HF.out D9 X4 hG9.le hG9.keeps (belowVia hap.below hbel0) A2' (L + 1) c2' hds9)
                refine hK.out _ _ (SH.out _ (belowAlloc hap.below _)) (fun hHeld => ?_)
                clear hK K'
                refine wpAnyH_take (i := 13) (v := ?_) rfl (by kernel_rfl) (by kernel_rfl) (by kernel_rfl) (fun _ _ _ h => h) (Or.inl ⟨by rfl, ?_⟩) hHeld ?_
                rotate_left
                · (intro wz hSw; (try dsimp only at hSw); go_simp; try with_reducible rfl)
                simp only [Act.put, List.getElem_toArray, List.getElem_cons_zero, List.getElem_cons_succ, List.setIfInBounds_toArray, List.set_cons_zero, List.set_cons_succ]
                refine wpAnyH_done (by kernel_rfl) ?_ _
                go_wp2_with fail
                go_meet
                exact (let ⟨gF, D', a, _, _, r⟩ := hfin.out; ⟨gF, D', a, rfl, rfl, r⟩)
              · go_simp
                replace hap := hap.build (darr d)
                refine hK.out _ _ (SH.out _ hap.below) (fun hHeld => ?_)
                clear hK K'
                generalize X1.alloc (.cells (darr d) 26) = X2 at *
                refine wpAnyH_ready (rs := [3]) (by kernel_rfl) (by simp) (AllReadyH.cons rfl (fun K' hK => ?_) AllReadyH.nil)
                obtain ⟨A1, c1, X3, hrun, hapn⟩ := hap.app1 D7 hk0 A6 L c6 P hp7 (by omega)
                refine step_append_run _ rfl _ _ 30 30 rfl _ _ rfl rfl _ _ hrun ?_
                refine hK.out _ _ (SH.out _ hapn.below) (fun hHeld => ?_)
                clear hK K' hrun hap
                have hap := hapn
                clear hapn
                refine wpAnyH_ready (rs := [6]) (by kernel_rfl) (by simp) (AllReadyH.cons rfl (fun K' hK => ?_) AllReadyH.nil)
                obtain ⟨A2', c2', X4, hrun, hapn⟩ := hap.app2 H32.out (go := X1.heap.size) (by simp) (by omega)
                refine step_append_run _ rfl _ _ 30 30 rfl _ _ rfl rfl _ _ hrun ?_
                refine hK.out _ _ (SH.out _ hapn.below) (fun hHeld => ?_)
                clear hK K' hrun hap
                have hap := hapn
                clear hapn
                refine wpAnyH_ready (rs := [12]) (by kernel_rfl) (by simp) (AllReadyH.cons rfl (fun K' hK => ?_) AllReadyH.nil)
                obtain ⟨D9, hG9, hds9⟩ := hap.pub hall D7 hk0
                go_simp
                have hfin := Lib.hid (HF.out D9 X4 hG9.le hG9.keeps (belowVia hap.below hbel0) A2' (L + 1) c2' hds9)
                refine hK.out _ _ (SH.out _ (belowAlloc hap.below _)) (fun hHeld => ?_)
                clear hK K'
                refine wpAnyH_take (i := 13) (v := ?_) rfl (by kernel_rfl) (by kernel_rfl) (by kernel_rfl) (fun _ _ _ h => h) (Or.inl ⟨by rfl, ?_⟩) hHeld ?_
                rotate_left
                · (intro wz hSw; (try dsimp only at hSw); go_simp; try with_reducible rfl)
                simp only [Act.put, List.getElem_toArray, List.getElem_cons_zero, List.getElem_cons_succ, List.setIfInBounds_toArray, List.set_cons_zero, List.set_cons_succ]
                refine wpAnyH_done (by kernel_rfl) ?_ _
                go_wp2_with fail
                go_meet
                exact (let ⟨gF, D', a, _, _, r⟩ := hfin.out; ⟨gF, D', a, rfl, rfl, r⟩)
            · go_simp
              replace hap := hap.build (darr d)
              refine hK.out _ _ (SH.out _ hap.below) (fun hHeld => ?_)
              clear hK K'
              generalize X0.alloc (.cells (darr d) 26) = X1 at *
              refine wpAnyH_ready (rs := [1]) (by kernel_rfl) (by simp) (AllReadyH.cons rfl (fun K' hK => ?_) AllReadyH.nil)
              go_simp
              replace hap := hap.build0
              refine hK.out _ _ (SH.out _ hap.below) (fun hHeld => ?_)
              clear hK K'
              generalize X1.alloc (.cells #[] 26) = X2 at *
              refine wpAnyH_ready (rs := [3]) (by kernel_rfl) (by simp) (AllReadyH.cons rfl (fun K' hK => ?_) AllReadyH.nil)
              obtain ⟨A1, c1, X3, hrun, hapn⟩ := hap.app1 D7 hk0 A6 L c6 P hp7 (by omega)
              refine step_append_run _ rfl _ _ 30 30 rfl _ _ rfl rfl _ _ hrun ?_
              refine hK.out _ _ (SH.out _ hapn.below) (fun hHeld => ?_)
              clear hK K' hrun hap
              have hap := hapn
              clear hapn
              refine wpAnyH_ready (rs := [6]) (by kernel_rfl) (by simp) (AllReadyH.cons rfl (fun K' hK => ?_) AllReadyH.nil)
              obtain ⟨A2', c2', X4, hrun, hapn⟩ := hap.app2 H32.out (go := X0.heap.size) (by simp) (by omega)
              refine step_append_run _ rfl _ _ 30 30 rfl _ _ rfl rfl _ _ hrun ?_
              refine hK.out _ _ (SH.out _ hapn.below) (fun hHeld => ?_)
              clear hK K' hrun hap
              have hap := hapn
              clear hapn
              refine wpAnyH_ready (rs := [12]) (by kernel_rfl) (by simp) (AllReadyH.cons rfl (fun K' hK => ?_) AllReadyH.nil)
              obtain ⟨D9, hG9, hds9⟩ := hap.pub hall D7 hk0
              go_simp
              have hfin := Lib.hid (HF.out D9 X4 hG9.le hG9.keeps (belowVia hap.below hbel0) A2' (L + 1) c2' hds9)
              refine hK.out _ _ (SH.out _ (belowAlloc hap.below _)) (fun hHeld => ?_)
              clear hK K'
              refine wpAnyH_take (i := 13) (v := ?_) rfl (by kernel_rfl) (by kernel_rfl) (by kernel_rfl) (fun _ _ _ h => h) (Or.inl ⟨by rfl, ?_⟩) hHeld ?_
              rotate_left
              · (intro wz hSw; (try dsimp only at hSw); go_simp; try with_reducible rfl)
              simp only [Act.put, List.getElem_toArray, List.getElem_cons_zero, List.getElem_cons_succ, List.setIfInBounds_toArray, List.set_cons_zero, List.set_cons_succ]
              refine wpAnyH_done (by kernel_rfl) ?_ _
              go_wp2_with fail
              go_meet
              exact (let ⟨gF, D', a, _, _, r⟩ := hfin.out; ⟨gF, D', a, rfl, rfl, r⟩)
          case rest =>
            clear hcu
            obtain ⟨gF, D9, rfl, rfl, rfl, hbelx, hkx9, hle9, hel⟩ := hcut
            have hT9 := hT3.le (hle7'.trans hle9)
            go_wp2_with fail
            go_loopw [94] (fun x wx => ∃ i : Nat, i ≤ 3 ∧ x = .int .i64 i ∧ Below w.heap.size w wx ∧ Keeps D9 wx) (fun x _ => 3 - (intOf x).toNat)
            case atStart => exact ⟨0, by omega, rfl, hbelx, hkx9⟩
            case round =>
              clear hbelx hkx9 hbel hkx
              obtain ⟨i4, hi4, rfl, hbel, hkx⟩ := hrel
              by_cases hlt4 : i4 < 3
              · obtain ⟨A9, l9, c9, ps, hD9, hds9⟩ := hel i4 hlt4
                have hc9 := hkx gF i4 _ hD9
                have g10 : (i4 : Int) < 3 := by omega
                clear hD9
                have HC1 := Lib.hid (fun W hk => climbR_c hs d H32.out v u A9 l9 c9 ps D9 W hk hT9 hds9)
                have HC2 := Lib.hid (fun W hk => rclimbR_c hs d H32.out v u A9 l9 c9 ps D9 W hk hds9)
                have hR32 := climbR_len hs d v u ps
                generalize climbR sh d v u ps = R at *
                obtain ⟨x, zz⟩ := R
                dsimp only at HC1 HC2 hR32
                have HR32 := Lib.hid hR32
                simp only [dg_darr x hR32] at HC1 HC2
                unfold dg at HC1 HC2
                clear hR32
                have hr1 := SR.out D7 _ hle7 (hkx.anti hle9)
                have hszd := sz26l d H32.out
                have hsx26 := sz26 x HR32.out
                have hsx0 : (darr []).size = (darr x).size := by rw [darr_size _ (by simp), darr_size _ (by rw [HR32.out]; omega)]
                have heqx : ∀ W, (Op.equalIn 10000 26 (.agg (darr x)) (.agg (darr x))).run Tryd.prog W = .ok true W := fun W => by
                  rw [eq26 x x HR32.out HR32.out W]; simp
                go_wp2_with (refine wpList_load_mid rfl 26 _ rfl w.heap.size 0 rfl _ _ hr1 Tryd.underlying26 rfl hszd ?_)
                refine (HC1.out _ hkx).mono ?_
                rintro e y1 ⟨rfl, hy1⟩
                have hk1 := hkx.below hy1 (Nat.le_refl _)
                have hbl1 := belowVia hy1 hbel
                have hB20 := Box.new2 hk1 rfl 26 (darr x)
                have hk1' := hk1.alloc (.cells (darr x) 26)
                have hbl1' := belowAlloc hbl1 (.cells (darr x) 26)
                have hr2 := SR.out D7 _ hle7 (hk1'.anti hle9)
                clear hr1 hc9
                go_wp2_with (first | (refine wpList_store_row rfl 26 _ _ rfl y1.heap.size (darr x) rfl rfl 26 (darr []) (heap_alloc_new y1 _) hsx26 hsx0 (darr_one _) ?_; rw [World.setRow_alloc_new]) | (refine wpList_load_mid rfl 26 _ rfl w.heap.size 0 rfl _ _ hr2 Tryd.underlying26 rfl hszd ?_))
                refine (HC2.out _ hk1').mono ?_
                rintro e y2 ⟨rfl, hy2⟩
                have hk2 := hk1'.below hy2 (Nat.le_refl _)
                have hbl2 := belowVia hy2 hbl1'
                have hB20' := (hB20.below hy2 hB20.lt).alloc (.cells (darr x) 26)
                have hB22 := Box.new2 hk2 rfl 26 (darr x)
                have hk2' := hk2.alloc (.cells (darr x) 26)
                have hbl2' := belowAlloc hbl2 (.cells (darr x) 26)
                clear hr2 hk1 hk1' hbl1 hbl1' hB20
                go_wp2_with (first | (refine wpList_store_row rfl 26 _ _ rfl y2.heap.size (darr x) rfl rfl 26 (darr []) (heap_alloc_new y2 _) hsx26 hsx0 (darr_one _) ?_; rw [World.setRow_alloc_new]) | (refine wpList_load_row rfl 26 _ rfl y1.heap.size rfl 26 _ (0, 0) _ hB20'.heap Tryd.underlying26 rfl hsx26 ?_) | (refine wpList_load_row rfl 26 _ rfl y2.heap.size rfl 26 _ (0, 0) _ hB22.heap Tryd.underlying26 rfl hsx26 ?_))
                exact ⟨⟨i4 + 1, by omega, by first | rfl | (congr 1; omega), hbl2', hk2'⟩, by simp only [intOf]; omega⟩
              · obtain rfl : i4 = 3 := by omega
                go_wp2
                exact ⟨⟨i2 + 1, by omega, by first | rfl | (congr 1; omega), hbel, hkx.anti hle9⟩, by simp only [intOf]; omega⟩
        · obtain rfl : i2 = 3 := by omega
          go_wp2
          exact ⟨⟨i + 1, by omega, by first | rfl | (congr 1; omega), hbel, hkx.anti hle7'⟩, by simp only [intOf]; omega⟩
    · obtain rfl : i = 3 := by omega
      go_wp2
      go_ret
      exact ⟨rfl, hbel⟩
end Go.Proofs.YtohknemfcohhfaaDoor
