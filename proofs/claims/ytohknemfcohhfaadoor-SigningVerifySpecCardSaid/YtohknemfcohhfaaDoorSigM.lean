/-
  What is proved here: Verify of the signing reference
-/
import Derived.Test.YtohknemfcohhfaaDoorRows
import Derived.Test.YtohknemfcohhfaaDoorBaseC
import Derived.Test.YtohknemfcohhfaaDoorSha
import Derived.Test.YtohknemfcohhfaaDoorTree
import Derived.Test.YtohknemfcohhfaaDoorSign
import Derived.Test.YtohknemfcohhfaaDoorShelf
import Derived.Test.YtohknemfcohhfaaDoorDigA
import Derived.Test.YtohknemfcohhfaaDoorDigC
import Derived.Test.YtohknemfcohhfaaDoorDigD
import Derived.Test.YtohknemfcohhfaaDoorDigE
import Derived.Test.YtohknemfcohhfaaDoorDigF
import Derived.Test.YtohknemfcohhfaaDoorDigG
import Derived.Test.YtohknemfcohhfaaDoorDigH
import Derived.Test.YtohknemfcohhfaaDoorDigI
import Derived.Test.YtohknemfcohhfaaDoorDigJ
import Derived.Test.YtohknemfcohhfaaDoorDigK
import Derived.Test.YtohknemfcohhfaaDoorDigL
import Derived.Test.YtohknemfcohhfaaDoorDigM
import Derived.Test.YtohknemfcohhfaaDoorDigN
import Derived.Test.YtohknemfcohhfaaDoorDigO
import Derived.Test.YtohknemfcohhfaaDoorDigP
import Derived.Test.YtohknemfcohhfaaDoorDigQ
import Derived.Test.YtohknemfcohhfaaDoorDigR
import Derived.Test.YtohknemfcohhfaaDoorDigS
import Derived.Test.YtohknemfcohhfaaDoorDigT
import Derived.Test.YtohknemfcohhfaaDoorLawHalves
import Derived.Test.YtohknemfcohhfaaDoorDigU
import Derived.Test.YtohknemfcohhfaaDoorDigW
import Derived.Test.YtohknemfcohhfaaDoorDigX
import Derived.Test.YtohknemfcohhfaaDoorDigY
import Derived.Test.YtohknemfcohhfaaDoorSigA
import Derived.Test.YtohknemfcohhfaaDoorSigB
import Derived.Test.YtohknemfcohhfaaDoorSigC
import Derived.Test.YtohknemfcohhfaaDoorSigD
import Derived.Test.YtohknemfcohhfaaDoorSigE
import Derived.Test.YtohknemfcohhfaaDoorSigP
import Derived.Test.YtohknemfcohhfaaDoorSigF
import Derived.Test.YtohknemfcohhfaaDoorSigG
import Derived.Test.YtohknemfcohhfaaDoorSigI
import Derived.Test.YtohknemfcohhfaaDoorDigZ
import Derived.Test.YtohknemfcohhfaaDoorDigZB
import Derived.Lib.ConvBytes
import Derived.StillTailTactics
import Derived.Lib.AppendZerosOnto
import Derived.Deep.RegionHeld3
import Derived.Stop.BytesEq
import Derived.Great.BuildSlice
import Derived.Deep.MidRow
import Derived.Deep.RegionLaw
import Derived.Deep.DeepCutAuto
import Derived.Deep.QuietTactic
import Derived.BigQuiet
import Derived.Laws.EntriesVeiled
namespace Go.Proofs.YtohknemfcohhfaaDoor
open Go.RowKit Go.VS
theorem ns_cell2 {D : Gh} {A : Option Addr} {n c : Nat} {l : List Int} (h : NS D (.slice A n c) l) {k : Nat} (hk : k < l.length) : ∃ b o, A = some ⟨b, o, none⟩ ∧ ∀ W, Keeps D W → W.cell? ⟨b, o + k, none⟩ = some (.int .i64 (l.getD k 0)) := by
  obtain ⟨a', c', hv, h1, h2, h3, h4⟩ := h
  cases hv
  obtain ⟨b, o, ha, hc⟩ := h4 (by simp; omega)
  exact ⟨b, o, ha, fun W hW => hW _ _ _ (hc k _ (by simp [List.getD, List.getElem?_eq_getElem hk]))⟩
theorem wpList_gload_mid {P : Program} {ops : Array Oper} {rest : List Oper} {op : Oper} {a : Act} {w : World} {Q : Exit → Act → World → Prop} (hw : Region.wanted op (yielded ops a.tmps) = true) (ty : TypeId) (x : Operand) (ho : op.op = .load ty x)
    (b o : Nat) (hx : a.eval x = .pointer (some ⟨b, o, none⟩)) (cs : List Value) (d : TypeDesc) (hc : w.rangeAt b o cs)
    (hu : P.underlying ty = some d) (hd : d.isRow = true) (hi : (P.info? ty).map (·.size) = some cs.length)
    (h : wpList P ops Q rest (a.put op.dst (.agg cs.toArray)) w) : wpList P ops Q (op :: rest) a w :=
  wpList_step fun K hK => by rw [if_pos hw]; exact wp_load_mid ty x ho b o hx cs d hc hu hd hi (hK _ _ h)
theorem openF_take (T : List UInt8 → List UInt8 → List UInt8) (parts : List (List UInt8)) (i : Int) (l : List Int) (k : Nat) (h : k < 67) : (openF T parts i l).take (k + 1) = (openF T parts i l).take k ++ [adv T i k (l.getD k 0) 15 (parts.getD k [])] := by
  rw [List.take_add_one]
  unfold openF
  rw [List.getElem?_map, List.getElem?_range h]
  rfl
set_option maxRecDepth 100000 in
set_option maxHeartbeats 2000000 in
theorem rverify_ok {sh : List UInt8 → List UInt8} (hs : Sh sh) (p : List UInt8) (hp : p.length = 32) (m : Nat) (A : Option Addr) (n c : Nat) (msg : List UInt8) (hn : n ≤ 65536) (u : Nat) (B : Option Addr) (d : Nat) (parts : List (List UInt8)) (E : Option Addr) (e f : Nat) (path : List (List UInt8)) (D : Gh) (w : World) (hk : Keeps D w)
    (hA : BS D (.slice A n c) msg) (hB : DS D (.slice B 67 d) parts) (hE : DS D (.slice E e f) path) (hm : m ≤ 256) (hu : u < m) :
    Calls Tryd.prog 38 #[.agg (darr p), .int .i64 m, .slice A n c, sigV u B 67 d E e f] w fun x w' => x = .returned (.bool (verF sh p m u msg parts path)) ∧ Below w.heap.size w w' := by
  have hP := Lib.hid hp
  have hnm : n ≤ 65536 := hn
  obtain ⟨hb1, hb2, hb3⟩ := hB.len
  have hpl : parts.length = 67 := hb1.symm
  unfold maxLen at hb3
  obtain ⟨D1, hG1, hv1⟩ := Box.pub hk 26 (darr p)
  obtain ⟨D2, hG2, hv2⟩ := Box.pub hG1.keeps 49 #[.int .i64 u, .slice B 67 d, .slice E e f]
  rw [show (w.alloc (.cells (darr p) 26)).heap.size = w.heap.size + 1 by simp] at hv2
  have hG3 := hG1.trans hG2
  have kp : Hid (∀ W, Keeps D2 W → W.rangeAt w.heap.size 0 (p.map bv)) := fun W hW j v hv => by
    rw [Nat.zero_add]
    refine hW _ _ _ (hG2.le _ _ _ (hv1 j v ?_))
    rw [darr_full p hP.out]; simpa using hv
  have kw0 := hv2 0 _ rfl
  have kw1 := hv2 1 _ rfl
  have kw2 := hv2 2 _ rfl
  have hA2 := hA.le hG3.le
  have hB2 := hB.le hG3.le
  have hE2 := hE.le hG3.le
  have hbel := hG3.below
  have hkW := hG3.keeps
  have HVF := Lib.hid (show verF sh p m u msg parts path = (decide ((climbR sh (oneF (tagB sh) (openF (tagB sh) parts u (digF (hashF (tagB sh) p u msg)))) u m path).2 = 0) && (climbR sh (oneF (tagB sh) (openF (tagB sh) parts u (digF (hashF (tagB sh) p u msg)))) u m path).1 == p) from rfl)
  have HHC := Lib.hid (fun W hk => rhash_c hs p hp u A n c msg hn D2 W hk hA2)
  have hh32 := Lib.hid (show (hashF (tagB sh) p u msg).length = 32 from hs.len _)
  generalize hashF (tagB sh) p u msg = hh at *
  have HDC := Lib.hid (fun W hk => rDigits_c _ hh32.out D2 W hk)
  have hL67 := Lib.hid (digF_len _ hh32.out)
  have HDR := Lib.hid (fun k hk => digF_range _ hh32.out k hk)
  generalize digF hh = L at *
  have hszp := sz26l p hp
  have hu26 := Tryd.underlying26
  have hr0 := kp.out _ hkW
  have q0 := hkW _ _ _ kw0
  have q1 := hkW _ _ _ kw1
  have q2 := hkW _ _ _ kw2
  have HPL := Lib.hid hpl
  have HL32 := Lib.hid (show Tryd.prog.underlying 26 = _ from Tryd.underlying26)
  rw [dg_darr hh hh32.out] at HHC HDC
  unfold dg at HHC
  clear hp hpl hb1 hv1 hv2 hA hB hE hG1 hG2 hG3 hk HL32
  have g1 : ¬ ((m : Int) < 1) := by omega
  have g2 : ¬ ((256 : Int) < (m : Int)) := by omega
  have g3 : ¬ ((u : Int) < 0) := by omega
  have g4 : ¬ ((m : Int) ≤ (u : Int)) := by omega
  have g4' : ¬ (m ≤ u) := by omega
  have g5 : ¬ ((65536 : Int) < (n : Int)) := by omega
  go_enter Tryd.func38, Tryd.ntmps38
  go_wp2_with (refine wpList_load_mid rfl 26 _ rfl w.heap.size 0 rfl _ _ hr0 Tryd.underlying26 rfl hszp ?_)
  generalize (w.alloc (.cells (darr p) 26)).alloc (.cells #[.int .i64 u, .slice B 67 d, .slice E e f] 49) = W at *
  refine (HHC.out _ hkW).mono ?_
  rintro x w1 ⟨rfl, hb1⟩
  have hk1 := hkW.below hb1 (Nat.le_refl _)
  have hbel1 := belowVia hb1 hbel
  clear hr0 q0 q1 q2 hkW hbel hb1
  go_wp2_with fail
  refine (HDC.out _ hk1).mono ?_
  rintro x w2 ⟨A9, c9, D3, rfl, hG9, hns⟩
  have hbel2 := belowVia hG9.below hbel1
  have hk2 := hG9.keeps
  have hle9 := hG9.le
  replace kw0 := hle9 _ _ _ kw0
  replace kw1 := hle9 _ _ _ kw1
  replace kw2 := hle9 _ _ _ kw2
  have KP := Lib.hid (fun (D' : Gh) (W : World) (hle : D3.le D') (hW : Keeps D' W) => kp.out W (fun b o v e => hW b o v (hle b o v (hle9 b o v e))))
  have hB3 := hB2.le hle9
  have hE3 := hE2.le hle9
  have hown0 := Lib.hid (show (w2.alloc (.cells #[] 26)).ownsRow w2.heap.size 26 32 (.slice (some ⟨w2.heap.size, 0, none⟩) 0 0) 0 (flat ((openF (tagB sh) parts u L).take 0)) from own_e0 (s := 32) (Nat.le_refl _) (heap_alloc_new w2 (.cells #[] 26)))
  have HOL := Lib.hid (openF_len (tagB sh) parts u L)
  clear HHC HDC hk1 hbel1 hG9 hle9 kp hB2 hE2 g1 g2 g3 g4 g4' g5 hA2
  go_wp2_with fail
  go_loopw [10, 11] (fun x y wr => ∃ (k : Nat) (Ak : Option Addr) (ck : Nat), k ≤ 67 ∧ x = .slice Ak k ck ∧ y = .int .i64 k ∧ wr.ownsRow w2.heap.size 26 32 (.slice Ak k ck) k (flat ((openF (tagB sh) parts u L).take k)) ∧ Grow w2 D3 wr D3) (fun _ y _ => 67 - (intOf y).toNat)
  case atStart => exact ⟨0, _, _, by omega, rfl, rfl, hown0.out, (Grow.refl hk2).alloc _⟩
  case round =>
    clear hown0
    obtain ⟨k, Ak, ck, hk67, rfl, rfl, hown, hG⟩ := hrel
    by_cases hlt : k < 67
    · have g1 : (k : Int) < 67 := by omega
      have g0 : (0 : Int) ≤ (k : Int) := by omega
      have hkd := hG.keeps.drew
      obtain ⟨b1, o1, rfl, h32, hr1⟩ := ds_range hB3 hkd (k := k) (by rw [HPL.out]; exact hlt)
      rw [Nat.mul_comm] at hr1
      obtain ⟨bg, og, rfl, hdg⟩ := ns_cell2 hns (k := k) (by rw [hL67.out]; exact hlt)
      have hdr := HDR.out k hlt
      have HTK := Lib.hid (openF_take (tagB sh) parts u L k hlt)
      have hgd : parts.getD k [] = parts[k]'(by rw [HPL.out]; exact hlt) := by simp [List.getD, List.getElem?_eq_getElem (show k < parts.length by rw [HPL.out]; exact hlt)]
      rw [hgd] at HTK
      have HY : Hid (∀ W, Keeps D3 W → W.rangeAt b1 (o1 + k * 32) ((parts[k]'(by rw [HPL.out]; exact hlt)).map bv)) := fun W hW => by
        obtain ⟨b', o', e', _, hr'⟩ := ds_range hB3 hW (k := k) (by rw [HPL.out]; exact hlt)
        cases e'
        rw [Nat.mul_comm] at hr'
        exact hr'
      generalize parts[k]'(by rw [HPL.out]; exact hlt) = y at *
      generalize L.getD k 0 = x at *
      have hd0 := hdr.1
      have hd15 := hdr.2
      have hszy := sz26l y h32
      have HCL := Lib.hid (fun W hk => rclimb32_c hs u k x 15 hd0 (by omega) (by omega) (by omega) y h32 D3 W hk)
      have hv32 := Lib.hid (adv_len hs u k x 15 y h32)
      generalize adv (tagB sh) u k x 15 y = r at *
      rw [dg_darr r hv32.out] at HCL
      unfold dg at HCL
      have SH : Hid (∀ W, Keeps D3 W → (W.cell? ⟨w.heap.size + 1, 0, none⟩ = some (.int .i64 u) ∧ W.cell? ⟨w.heap.size + 1, 1, none⟩ = some (.slice (some ⟨b1, o1, none⟩) 67 d) ∧ W.rangeAt b1 (o1 + k * 32) (y.map bv) ∧ W.cell? ⟨bg, og + k, none⟩ = some (.int .i64 x))) := fun W h => ⟨h _ _ _ kw0, h _ _ _ kw1, HY.out W h, hdg W h⟩
      have hs32 : (darr r).size = 32 := darr_size r (by rw [hv32.out]; omega)
      have hfz := foldz r hv32.out
      clear hr1 h32 hdr hgd hd0 hd15 hdg
      go_wp2_with fail
      refine wp_region_held_drew (S := fun W => W.cell? ⟨w.heap.size + 1, 0, none⟩ = some (.int .i64 u) ∧ W.cell? ⟨w.heap.size + 1, 1, none⟩ = some (.slice (some ⟨b1, o1, none⟩) 67 d) ∧ W.rangeAt b1 (o1 + k * 32) (y.map bv) ∧ W.cell? ⟨bg, og + k, none⟩ = some (.int .i64 x)) (by kernel_rfl) (SH.out _ hkd) (fun hHeld => ?_)
      refine wpAnyH_take (i := 0) (v := ?_) rfl (by kernel_rfl) (by kernel_rfl) (by kernel_rfl) (fun _ _ _ h => h) (Or.inl ⟨by rfl, ?_⟩) hHeld ?_
      rotate_left
      · (intro wz hSw; (try dsimp only at hSw); go_simp; try with_reducible rfl)
      simp only [Act.put, List.getElem_toArray, List.getElem_cons_zero, List.setIfInBounds_toArray, List.set_cons_zero, List.set_cons_succ]
      refine wpAnyH_take (i := 1) (v := ?_) rfl (by kernel_rfl) (by kernel_rfl) (by kernel_rfl) (fun _ _ _ h => h) (Or.inl ⟨by rfl, ?_⟩) hHeld ?_
      rotate_left
      · (intro wz hSw; (try dsimp only at hSw); go_simp; try with_reducible rfl)
      simp only [Act.put, List.getElem_toArray, List.getElem_cons_zero, List.getElem_cons_succ, List.setIfInBounds_toArray, List.set_cons_zero, List.set_cons_succ]
      refine wpAnyH_take (i := 2) (v := ?_) rfl (by kernel_rfl) (by kernel_rfl) (by kernel_rfl) (fun _ _ _ h => h) (Or.inl ⟨by rfl, ?_⟩) hHeld ?_
      rotate_left
      · (intro wz hSw; (try dsimp only at hSw); go_simp; try with_reducible rfl)
      simp only [Act.put, List.getElem_toArray, List.getElem_cons_zero, List.getElem_cons_succ, List.setIfInBounds_toArray, List.set_cons_zero, List.set_cons_succ]
      refine wpAnyH_take (i := 3) (v := ?_) rfl (by kernel_rfl) (by kernel_rfl) (by kernel_rfl) (fun _ _ _ h => h) (Or.inl ⟨by rfl, ?_⟩) hHeld ?_
      rotate_left
      · (intro wz hSw; (try dsimp only at hSw); go_simp; try with_reducible rfl)
      simp only [Act.put, List.getElem_toArray, List.getElem_cons_zero, List.getElem_cons_succ, List.setIfInBounds_toArray, List.set_cons_zero, List.set_cons_succ]
      refine wpAnyH_take (i := 4) (v := ?_) rfl (by kernel_rfl) (by kernel_rfl) (by kernel_rfl) (fun _ _ _ h => h) (Or.inl ⟨by rfl, ?_⟩) hHeld ?_
      rotate_left
      · (intro wz hSw; (try dsimp only at hSw); go_simp; try with_reducible rfl)
      simp only [Act.put, List.getElem_toArray, List.getElem_cons_zero, List.getElem_cons_succ, List.setIfInBounds_toArray, List.set_cons_zero, List.set_cons_succ]
      refine wpAnyH_take (i := 5) (v := (.agg (y.map bv).toArray)) rfl (by kernel_rfl) (by kernel_rfl) (by kernel_rfl) (fun _ _ _ h => h) (yieldsIf_load_mid (by rfl) _ _ rfl _ _ rfl _ _ (fun w h => h.2.2.1) hu26 rfl hszy) hHeld ?_
      simp only [Act.put, List.getElem_toArray, List.getElem_cons_zero, List.getElem_cons_succ, List.setIfInBounds_toArray, List.set_cons_zero, List.set_cons_succ]
      refine wpAnyH_take (i := 6) (v := ?_) rfl (by kernel_rfl) (by kernel_rfl) (by kernel_rfl) (fun _ _ _ h => h) (Or.inl ⟨by rfl, ?_⟩) hHeld ?_
      rotate_left
      · (intro wz hSw; (try dsimp only at hSw); go_simp; try with_reducible rfl)
      simp only [Act.put, List.getElem_toArray, List.getElem_cons_zero, List.getElem_cons_succ, List.setIfInBounds_toArray, List.set_cons_zero, List.set_cons_succ]
      refine wpAnyH_take (i := 7) (v := ?_) rfl (by kernel_rfl) (by kernel_rfl) (by kernel_rfl) (fun _ _ _ h => h) (Or.inl ⟨by rfl, ?_⟩) hHeld ?_
      rotate_left
      · (intro wz hSw; (try dsimp only at hSw); go_simp; try with_reducible rfl)
      simp only [Act.put, List.getElem_toArray, List.getElem_cons_zero, List.getElem_cons_succ, List.setIfInBounds_toArray, List.set_cons_zero, List.set_cons_succ]
      refine wpAnyH_take (i := 8) (v := ?_) rfl (by kernel_rfl) (by kernel_rfl) (by kernel_rfl) (fun _ _ _ h => h) (Or.inl ⟨by rfl, ?_⟩) hHeld ?_
      rotate_left
      · (intro wz hSw; (try dsimp only at hSw); go_simp; try with_reducible rfl)
      simp only [Act.put, List.getElem_toArray, List.getElem_cons_zero, List.getElem_cons_succ, List.setIfInBounds_toArray, List.set_cons_zero, List.set_cons_succ]
      refine wpAnyH_take (i := 9) (v := ?_) rfl (by kernel_rfl) (by kernel_rfl) (by kernel_rfl) (fun _ _ _ h => h) (Or.inl ⟨by rfl, ?_⟩) hHeld ?_
      rotate_left
      · (intro wz hSw; (try dsimp only at hSw); go_simp; try with_reducible rfl)
      simp only [Act.put, List.getElem_toArray, List.getElem_cons_zero, List.getElem_cons_succ, List.setIfInBounds_toArray, List.set_cons_zero, List.set_cons_succ]
      refine wpAnyH_take (i := 10) (v := ?_) rfl (by kernel_rfl) (by kernel_rfl) (by kernel_rfl) (fun _ _ _ h => h) (Or.inl ⟨by rfl, ?_⟩) hHeld ?_
      rotate_left
      · (intro wz hSw; (try dsimp only at hSw); go_simp; try with_reducible rfl)
      simp only [Act.put, List.getElem_toArray, List.getElem_cons_zero, List.getElem_cons_succ, List.setIfInBounds_toArray, List.set_cons_zero, List.set_cons_succ]
      refine wpAnyH_take (i := 11) (v := ?_) rfl (by kernel_rfl) (by kernel_rfl) (by kernel_rfl) (fun _ _ _ h => h) (Or.inl ⟨by rfl, ?_⟩) hHeld ?_
      rotate_left
      · (intro wz hSw; (try dsimp only at hSw); go_simp; try with_reducible rfl)
      simp only [Act.put, List.getElem_toArray, List.getElem_cons_zero, List.getElem_cons_succ, List.setIfInBounds_toArray, List.set_cons_zero, List.set_cons_succ]
      refine wpAnyH_take (i := 12) (v := ?_) rfl (by kernel_rfl) (by kernel_rfl) (by kernel_rfl) (fun _ _ _ h => h) (Or.inl ⟨by rfl, ?_⟩) hHeld ?_
      rotate_left
      · (intro wz hSw; (try dsimp only at hSw); go_simp; try with_reducible rfl)
      simp only [Act.put, List.getElem_toArray, List.getElem_cons_zero, List.getElem_cons_succ, List.setIfInBounds_toArray, List.set_cons_zero, List.set_cons_succ]
      refine wpAnyH_ready (rs := [13]) (by kernel_rfl) (by simp) (AllReadyH.cons rfl (fun K' hK => ?_) AllReadyH.nil)
      go_simp
      go_wp2_with ((go_at_call 73; refine (HCL.out _ hkd).mono ?_; rintro e' w3 ⟨rfl, hb3'⟩))
      have hk3 := hkd.below hb3' (Nat.le_refl _)
      obtain ⟨A5, c5, w5, hrun5, hown5, hG5⟩ := app_step r hv32.out hk2 hown.drew hG.drew hb3' (by omega)
      rw [← HTK.out] at hown5
      have HOWN5 := Lib.hid hown5
      have HG5 := Lib.hid hG5
      clear hown5 hG5
      refine hK.out _ _ (SH.out _ hk3) (fun hHeld => ?_)
      clear hK K'
      refine wpAnyH_ready (rs := [14]) (by kernel_rfl) (by simp) (AllReadyH.cons rfl (fun K' hK => ?_) AllReadyH.nil)
      go_simp
      refine hK.out _ _ (SH.out _ (hk3.alloc _)) (fun hHeld => ?_)
      clear hK K'
      refine wpAnyH_ready (rs := [15]) (by kernel_rfl) (by simp) (AllReadyH.cons rfl (fun K' hK => ?_) AllReadyH.nil)
      refine step_append_run _ rfl _ _ 30 30 rfl _ _ rfl rfl _ _ hrun5 ?_
      refine hK.out _ _ (SH.out _ HG5.out.keeps) (fun hHeld => ?_)
      clear hK K'
      refine wpAnyH_ready (rs := [16]) (by kernel_rfl) (by simp) (AllReadyH.cons rfl (fun K' hK => ?_) AllReadyH.nil)
      go_simp
      refine hK.out _ _ hHeld (fun hHeld => ?_)
      clear hK K'
      refine wpAnyH_done (by kernel_rfl) ?_ _
      go_wp2_with fail
      go_roundw
      case rel => exact ⟨k + 1, A5, c5, by omega, rfl, by go_num, HOWN5.out, HG5.out⟩
      case measure => simp [intOf]; omega
    · obtain rfl : k = 67 := by omega
      have hfull : (openF (tagB sh) parts u L).take 67 = openF (tagB sh) parts u L := List.take_of_length_le (by rw [HOL.out]; exact Nat.le_refl _)
      rw [hfull] at hown
      obtain ⟨D4, hG4, hle4, hs4, _⟩ := hG.pubN hown (Nat.le_refl _) (fun g h => hk2.offNew (hown.lt g h).1)
      have hall : ∀ d ∈ openF (tagB sh) parts u L, d.length = 32 := fun x hx => by
        unfold openF at hx
        rw [List.mem_map] at hx
        obtain ⟨j, hj, rfl⟩ := hx
        have hj := List.mem_range.1 hj
        refine adv_len hs _ _ _ _ _ ?_
        have e' : parts.getD j [] = parts[j]'(by rw [HPL.out]; exact hj) := by simp [List.getD, List.getElem?_eq_getElem (show j < parts.length by rw [HPL.out]; exact hj)]
        rw [e']
        exact hB3.1 _ (List.getElem_mem _)
      have hdsO : DS D4 (.slice Ak 67 ck) (openF (tagB sh) parts u L) := ⟨hall, by rw [HOL.out]; exact hs4⟩
      have hE4 := hE3.le hle4
      have hle34 := hle4
      have kx0 := hle34 _ _ _ kw0
      have kx2 := hle34 _ _ _ kw2
      have hkr := hG4.keeps
      have hbelr := belowVia hG4.below hbel2
      have HONE := Lib.hid (fun W hk => rone_c hs Ak 67 ck (openF (tagB sh) parts u L) (by omega) D4 W hk hdsO)
      have ho32 := Lib.hid (show (oneF (tagB sh) (openF (tagB sh) parts u L)).length = 32 from hs.len _)
      generalize oneF (tagB sh) (openF (tagB sh) parts u L) = o1 at *
      have HCL := Lib.hid (fun W hk => rclimbR_c hs o1 ho32.out u m E e f path D4 W hk hE4)
      have hc32 := climbR_len hs o1 u m path
      generalize climbR sh o1 u m path = R at *
      obtain ⟨x, z⟩ := R
      dsimp only at HCL hc32 HVF
      have hC32 := Lib.hid hc32
      rw [dg_darr o1 ho32.out] at HONE HCL
      rw [dg_darr x hc32] at HCL
      clear hc32 hown hG hG4 hs4 hall hdsO hfull hE3 hB3
      go_wp2_with fail
      go_cut [12, 13] (fun a b wx => ∃ g12 : Nat, a = .pointer (some ⟨g12, 0, none⟩) ∧ b = .int .i64 z ∧ Below w.heap.size w wx ∧ Keeps D4 wx ∧ Box wx D4 g12 26 (darr x))
      case first =>
        have SH : Hid (∀ W, Keeps D4 W → (W.cell? ⟨w.heap.size + 1, 0, none⟩ = some (.int .i64 u) ∧ W.cell? ⟨w.heap.size + 1, 2, none⟩ = some (.slice E e f))) := fun W h => ⟨h _ _ _ kx0, h _ _ _ kx2⟩
        have hkd := hkr.drew
        have hbeld := hbelr.drew
        have hs32 : (darr x).size = 32 := darr_size x (by rw [hC32.out]; omega)
        refine wp_region_held_drew (S := fun W => W.cell? ⟨w.heap.size + 1, 0, none⟩ = some (.int .i64 u) ∧ W.cell? ⟨w.heap.size + 1, 2, none⟩ = some (.slice E e f)) (by kernel_rfl) (SH.out _ hkd) (fun hHeld => ?_)
        generalize World.drew _ = X0 at *
        refine wpAnyH_take (i := 0) (v := ?_) rfl (by kernel_rfl) (by kernel_rfl) (by kernel_rfl) (fun _ _ _ h => h) (Or.inl ⟨by rfl, ?_⟩) hHeld ?_
        rotate_left
        · (intro wz hSw; (try dsimp only at hSw); go_simp; try with_reducible rfl)
        simp only [Act.put, List.getElem_toArray, List.getElem_cons_zero, List.setIfInBounds_toArray, List.set_cons_zero, List.set_cons_succ]
        refine wpAnyH_take (i := 2) (v := ?_) rfl (by kernel_rfl) (by kernel_rfl) (by kernel_rfl) (fun _ _ _ h => h) (Or.inl ⟨by rfl, ?_⟩) hHeld ?_
        rotate_left
        · (intro wz hSw; (try dsimp only at hSw); go_simp; try with_reducible rfl)
        simp only [Act.put, List.getElem_toArray, List.getElem_cons_zero, List.getElem_cons_succ, List.setIfInBounds_toArray, List.set_cons_zero, List.set_cons_succ]
        refine wpAnyH_take (i := 3) (v := ?_) rfl (by kernel_rfl) (by kernel_rfl) (by kernel_rfl) (fun _ _ _ h => h) (Or.inl ⟨by rfl, ?_⟩) hHeld ?_
        rotate_left
        · (intro wz hSw; (try dsimp only at hSw); go_simp; try with_reducible rfl)
        simp only [Act.put, List.getElem_toArray, List.getElem_cons_zero, List.getElem_cons_succ, List.setIfInBounds_toArray, List.set_cons_zero, List.set_cons_succ]
        refine wpAnyH_take (i := 4) (v := ?_) rfl (by kernel_rfl) (by kernel_rfl) (by kernel_rfl) (fun _ _ _ h => h) (Or.inl ⟨by rfl, ?_⟩) hHeld ?_
        rotate_left
        · (intro wz hSw; (try dsimp only at hSw); go_simp; try with_reducible rfl)
        simp only [Act.put, List.getElem_toArray, List.getElem_cons_zero, List.getElem_cons_succ, List.setIfInBounds_toArray, List.set_cons_zero, List.set_cons_succ]
        refine wpAnyH_take (i := 5) (v := ?_) rfl (by kernel_rfl) (by kernel_rfl) (by kernel_rfl) (fun _ _ _ h => h) (Or.inl ⟨by rfl, ?_⟩) hHeld ?_
        rotate_left
        · (intro wz hSw; (try dsimp only at hSw); go_simp; try with_reducible rfl)
        simp only [Act.put, List.getElem_toArray, List.getElem_cons_zero, List.getElem_cons_succ, List.setIfInBounds_toArray, List.set_cons_zero, List.set_cons_succ]
        refine wpAnyH_take (i := 6) (v := ?_) rfl (by kernel_rfl) (by kernel_rfl) (by kernel_rfl) (fun _ _ _ h => h) (Or.inl ⟨by rfl, ?_⟩) hHeld ?_
        rotate_left
        · (intro wz hSw; (try dsimp only at hSw); go_simp; try with_reducible rfl)
        simp only [Act.put, List.getElem_toArray, List.getElem_cons_zero, List.getElem_cons_succ, List.setIfInBounds_toArray, List.set_cons_zero, List.set_cons_succ]
        refine wpAnyH_ready (rs := [1, 11]) (by kernel_rfl) (by simp) (AllReadyH.cons rfl (fun K' hK => ?_) (AllReadyH.cons rfl (fun K' hK => ?_) AllReadyH.nil))
        · go_simp
          go_wp2_with ((go_at_call 77; refine (HONE.out _ hkd).mono ?_; rintro e' y1 ⟨rfl, hy⟩))
          have hk1 := hkd.below hy (Nat.le_refl _)
          have hbel1 := belowVia hy hbeld
          refine hK.out _ _ (SH.out _ hk1) (fun hHeld => ?_)
          clear hK K' hy
          refine wpAnyH_ready (rs := [7, 11]) (by kernel_rfl) (by simp) (AllReadyH.cons rfl (fun K' hK => ?_) (AllReadyH.cons rfl (fun K' hK => ?_) AllReadyH.nil))
          · go_simp
            go_wp2_with ((go_at_call 29; refine (HCL.out _ hk1).mono ?_; rintro e' y2 ⟨rfl, hy⟩))
            have hk2 := hk1.below hy (Nat.le_refl _)
            have hbel2 := belowVia hy hbel1
            refine hK.out _ _ (SH.out _ hk2) (fun hHeld => ?_)
            clear hK K' hy
            refine wpAnyH_take (i := 8) (v := ?_) rfl (by kernel_rfl) (by kernel_rfl) (by kernel_rfl) (fun _ _ _ h => h) (Or.inl ⟨by rfl, ?_⟩) hHeld ?_
            rotate_left
            · (intro wz hSw; (try dsimp only at hSw); go_simp; try with_reducible rfl)
            simp only [Act.put, List.getElem_toArray, List.getElem_cons_zero, List.getElem_cons_succ, List.setIfInBounds_toArray, List.set_cons_zero, List.set_cons_succ]
            refine wpAnyH_take (i := 9) (v := ?_) rfl (by kernel_rfl) (by kernel_rfl) (by kernel_rfl) (fun _ _ _ h => h) (Or.inl ⟨by rfl, ?_⟩) hHeld ?_
            rotate_left
            · (intro wz hSw; (try dsimp only at hSw); go_simp; try with_reducible rfl)
            simp only [Act.put, List.getElem_toArray, List.getElem_cons_zero, List.getElem_cons_succ, List.setIfInBounds_toArray, List.set_cons_zero, List.set_cons_succ]
            refine wpAnyH_take (i := 10) (v := ?_) rfl (by kernel_rfl) (by kernel_rfl) (by kernel_rfl) (fun _ _ _ h => h) (Or.inl ⟨by rfl, ?_⟩) hHeld ?_
            rotate_left
            · (intro wz hSw; (try dsimp only at hSw); go_simp; try with_reducible rfl)
            simp only [Act.put, List.getElem_toArray, List.getElem_cons_zero, List.getElem_cons_succ, List.setIfInBounds_toArray, List.set_cons_zero, List.set_cons_succ]
            refine wpAnyH_ready (rs := [11]) (by kernel_rfl) (by simp) (AllReadyH.cons rfl (fun K' hK => ?_) AllReadyH.nil)
            go_simp
            have hB12 := Box.new hk2 26 (darr [])
            have hg12 : w.heap.size ≤ _ := hbel2.size
            have hk3 := hk2.alloc (.cells (darr []) 26)
            have hbel3 := belowAlloc hbel2 (.cells (darr []) 26)
            refine hK.out _ _ (SH.out _ hk3) (fun hHeld => ?_)
            clear hK K'
            change wpAnyH _ _ _ _ _ _ _ _ (y2.alloc (.cells (darr []) 26))
            generalize y2.alloc (.cells (darr []) 26) = y3 at *
            have hst := store_run hB12 hC32.out
            refine wpAnyH_ready (rs := [12]) (by kernel_rfl) (by simp) (AllReadyH.cons rfl (fun K' hK => ?_) AllReadyH.nil)
            go_simp
            refine hK.out _ _ (SH.out _ (keepsRow hk3 hB12.off _)) (fun hHeld => ?_)
            clear hK K' hst
            refine wpAnyH_ready (rs := [13]) (by kernel_rfl) (by simp) (AllReadyH.cons rfl (fun K' hK => ?_) AllReadyH.nil)
            go_simp
            refine hK.out _ _ hHeld (fun hHeld => ?_)
            clear hK K'
            refine wpAnyH_done (by kernel_rfl) ?_ _
            go_wp2_with fail
            go_meet
            exact ⟨_, rfl, rfl, belowRow hbel3 hg12 _, keepsRow hk3 hB12.off _, hB12.setRow _⟩
          · go_simp
            have hB12 := Box.new hk1 26 (darr [])
            have hg12 : w.heap.size ≤ _ := hbel1.size
            have hk2 := hk1.alloc (.cells (darr []) 26)
            have hbel2 := belowAlloc hbel1 (.cells (darr []) 26)
            refine hK.out _ _ (SH.out _ hk2) (fun hHeld => ?_)
            clear hK K'
            change wpAnyH _ _ _ _ _ _ _ _ (y1.alloc (.cells (darr []) 26))
            generalize y1.alloc (.cells (darr []) 26) = y2 at *
            refine wpAnyH_ready (rs := [7]) (by kernel_rfl) (by simp) (AllReadyH.cons rfl (fun K' hK => ?_) AllReadyH.nil)
            go_simp
            go_wp2_with ((go_at_call 29; refine (HCL.out _ hk2).mono ?_; rintro e' y3 ⟨rfl, hy⟩))
            have hk3 := hk2.below hy (Nat.le_refl _)
            have hbel3 := belowVia hy hbel2
            replace hB12 := hB12.below hy hB12.lt
            refine hK.out _ _ (SH.out _ hk3) (fun hHeld => ?_)
            clear hK K' hy
            refine wpAnyH_take (i := 8) (v := ?_) rfl (by kernel_rfl) (by kernel_rfl) (by kernel_rfl) (fun _ _ _ h => h) (Or.inl ⟨by rfl, ?_⟩) hHeld ?_
            rotate_left
            · (intro wz hSw; (try dsimp only at hSw); go_simp; try with_reducible rfl)
            simp only [Act.put, List.getElem_toArray, List.getElem_cons_zero, List.getElem_cons_succ, List.setIfInBounds_toArray, List.set_cons_zero, List.set_cons_succ]
            refine wpAnyH_take (i := 9) (v := ?_) rfl (by kernel_rfl) (by kernel_rfl) (by kernel_rfl) (fun _ _ _ h => h) (Or.inl ⟨by rfl, ?_⟩) hHeld ?_
            rotate_left
            · (intro wz hSw; (try dsimp only at hSw); go_simp; try with_reducible rfl)
            simp only [Act.put, List.getElem_toArray, List.getElem_cons_zero, List.getElem_cons_succ, List.setIfInBounds_toArray, List.set_cons_zero, List.set_cons_succ]
            refine wpAnyH_take (i := 10) (v := ?_) rfl (by kernel_rfl) (by kernel_rfl) (by kernel_rfl) (fun _ _ _ h => h) (Or.inl ⟨by rfl, ?_⟩) hHeld ?_
            rotate_left
            · (intro wz hSw; (try dsimp only at hSw); go_simp; try with_reducible rfl)
            simp only [Act.put, List.getElem_toArray, List.getElem_cons_zero, List.getElem_cons_succ, List.setIfInBounds_toArray, List.set_cons_zero, List.set_cons_succ]
            have hst := store_run hB12 hC32.out
            refine wpAnyH_ready (rs := [12]) (by kernel_rfl) (by simp) (AllReadyH.cons rfl (fun K' hK => ?_) AllReadyH.nil)
            go_simp
            refine hK.out _ _ (SH.out _ (keepsRow hk3 hB12.off _)) (fun hHeld => ?_)
            clear hK K' hst
            refine wpAnyH_ready (rs := [13]) (by kernel_rfl) (by simp) (AllReadyH.cons rfl (fun K' hK => ?_) AllReadyH.nil)
            go_simp
            refine hK.out _ _ hHeld (fun hHeld => ?_)
            clear hK K'
            refine wpAnyH_done (by kernel_rfl) ?_ _
            go_wp2_with fail
            go_meet
            exact ⟨_, rfl, rfl, belowRow hbel3 hg12 _, keepsRow hk3 hB12.off _, hB12.setRow _⟩
        · go_simp
          have hB12 := Box.new hkd 26 (darr [])
          have hg12 : w.heap.size ≤ _ := hbeld.size
          have hk1 := hkd.alloc (.cells (darr []) 26)
          have hbel1 := belowAlloc hbeld (.cells (darr []) 26)
          refine hK.out _ _ (SH.out _ hk1) (fun hHeld => ?_)
          clear hK K'
          change wpAnyH _ _ _ _ _ _ _ _ (X0.alloc (.cells (darr []) 26))
          generalize X0.alloc (.cells (darr []) 26) = y1 at *
          refine wpAnyH_ready (rs := [1]) (by kernel_rfl) (by simp) (AllReadyH.cons rfl (fun K' hK => ?_) AllReadyH.nil)
          go_simp
          go_wp2_with ((go_at_call 77; refine (HONE.out _ hk1).mono ?_; rintro e' y2 ⟨rfl, hy⟩))
          have hk2 := hk1.below hy (Nat.le_refl _)
          have hbel2 := belowVia hy hbel1
          replace hB12 := hB12.below hy hB12.lt
          refine hK.out _ _ (SH.out _ hk2) (fun hHeld => ?_)
          clear hK K' hy
          refine wpAnyH_ready (rs := [7]) (by kernel_rfl) (by simp) (AllReadyH.cons rfl (fun K' hK => ?_) AllReadyH.nil)
          go_simp
          go_wp2_with ((go_at_call 29; refine (HCL.out _ hk2).mono ?_; rintro e' y3 ⟨rfl, hy⟩))
          have hk3 := hk2.below hy (Nat.le_refl _)
          have hbel3 := belowVia hy hbel2
          replace hB12 := hB12.below hy hB12.lt
          refine hK.out _ _ (SH.out _ hk3) (fun hHeld => ?_)
          clear hK K' hy
          refine wpAnyH_take (i := 8) (v := ?_) rfl (by kernel_rfl) (by kernel_rfl) (by kernel_rfl) (fun _ _ _ h => h) (Or.inl ⟨by rfl, ?_⟩) hHeld ?_
          rotate_left
          · (intro wz hSw; (try dsimp only at hSw); go_simp; try with_reducible rfl)
          simp only [Act.put, List.getElem_toArray, List.getElem_cons_zero, List.getElem_cons_succ, List.setIfInBounds_toArray, List.set_cons_zero, List.set_cons_succ]
          refine wpAnyH_take (i := 9) (v := ?_) rfl (by kernel_rfl) (by kernel_rfl) (by kernel_rfl) (fun _ _ _ h => h) (Or.inl ⟨by rfl, ?_⟩) hHeld ?_
          rotate_left
          · (intro wz hSw; (try dsimp only at hSw); go_simp; try with_reducible rfl)
          simp only [Act.put, List.getElem_toArray, List.getElem_cons_zero, List.getElem_cons_succ, List.setIfInBounds_toArray, List.set_cons_zero, List.set_cons_succ]
          refine wpAnyH_take (i := 10) (v := ?_) rfl (by kernel_rfl) (by kernel_rfl) (by kernel_rfl) (fun _ _ _ h => h) (Or.inl ⟨by rfl, ?_⟩) hHeld ?_
          rotate_left
          · (intro wz hSw; (try dsimp only at hSw); go_simp; try with_reducible rfl)
          simp only [Act.put, List.getElem_toArray, List.getElem_cons_zero, List.getElem_cons_succ, List.setIfInBounds_toArray, List.set_cons_zero, List.set_cons_succ]
          have hst := store_run hB12 hC32.out
          refine wpAnyH_ready (rs := [12]) (by kernel_rfl) (by simp) (AllReadyH.cons rfl (fun K' hK => ?_) AllReadyH.nil)
          go_simp
          refine hK.out _ _ (SH.out _ (keepsRow hk3 hB12.off _)) (fun hHeld => ?_)
          clear hK K' hst
          refine wpAnyH_ready (rs := [13]) (by kernel_rfl) (by simp) (AllReadyH.cons rfl (fun K' hK => ?_) AllReadyH.nil)
          go_simp
          refine hK.out _ _ hHeld (fun hHeld => ?_)
          clear hK K'
          refine wpAnyH_done (by kernel_rfl) ?_ _
          go_wp2_with fail
          go_meet
          exact ⟨_, rfl, rfl, belowRow hbel3 hg12 _, keepsRow hk3 hB12.off _, hB12.setRow _⟩
      case rest =>
        obtain ⟨g12, rfl, rfl, hbelx, hkx, hB12⟩ := hcut
        have hr0 := KP.out D4 _ hle34 hkx
        have hsx26 := sz26 x hC32.out
        have heq : ∀ W, (Op.equalIn 10000 26 (.agg (darr x)) (.agg (darr p))).run Tryd.prog W = .ok (x == p) W := fun W => eq26 x p hC32.out hP.out W
        rw [darr_full p hP.out] at heq
        by_cases hz : z = 0
        · subst hz
          have hvf : verF sh p m u msg parts path = (x == p) := by rw [HVF.out]; simp
          have HVB := Lib.hid hvf
          clear hvf
          go_wp2_with (first | (refine wpList_gload_row (by first | rfl | (simp [Region.wanted, yielded]; done)) 26 _ rfl g12 rfl 26 _ (0, 0) _ hB12.heap Tryd.underlying26 rfl hsx26 ?_) | (refine wpList_gload_mid (by first | rfl | (simp [Region.wanted, yielded]; done)) 26 _ rfl w.heap.size 0 rfl _ _ hr0 Tryd.underlying26 rfl hszp ?_))
          go_ret
          exact ⟨by rw [HVB.out]; rfl, hbelx⟩
        · have hvf : verF sh p m u msg parts path = false := by rw [HVF.out]; simp [hz]
          have HVB := Lib.hid hvf
          have hz' : (z == 0) = false := by simp; exact hz
          clear hvf
          go_wp2_with fail
          go_ret
          exact ⟨by rw [HVB.out]; rfl, hbelx⟩
end Go.Proofs.YtohknemfcohhfaaDoor
