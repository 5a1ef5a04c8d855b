/-
  What is proved here: Public and Sign of the signing reference
-/
import Derived.Test.YtohknemfcohhfaaDoorRows
import Derived.Test.YtohknemfcohhfaaDoorBaseC
import Derived.Test.YtohknemfcohhfaaDoorSha
import Derived.Test.YtohknemfcohhfaaDoorTree
import Derived.Test.YtohknemfcohhfaaDoorSign
import Derived.Test.YtohknemfcohhfaaDoorShelf
import Derived.Test.YtohknemfcohhfaaDoorDigA
import Derived.Test.YtohknemfcohhfaaDoorDigC
import Derived.Test.YtohknemfcohhfaaDoorDigD
import Derived.Test.YtohknemfcohhfaaDoorDigE
import Derived.Test.YtohknemfcohhfaaDoorDigF
import Derived.Test.YtohknemfcohhfaaDoorDigG
import Derived.Test.YtohknemfcohhfaaDoorDigH
import Derived.Test.YtohknemfcohhfaaDoorDigI
import Derived.Test.YtohknemfcohhfaaDoorDigJ
import Derived.Test.YtohknemfcohhfaaDoorDigK
import Derived.Test.YtohknemfcohhfaaDoorDigL
import Derived.Test.YtohknemfcohhfaaDoorDigM
import Derived.Test.YtohknemfcohhfaaDoorDigN
import Derived.Test.YtohknemfcohhfaaDoorDigO
import Derived.Test.YtohknemfcohhfaaDoorDigP
import Derived.Test.YtohknemfcohhfaaDoorDigQ
import Derived.Test.YtohknemfcohhfaaDoorDigR
import Derived.Test.YtohknemfcohhfaaDoorDigS
import Derived.Test.YtohknemfcohhfaaDoorDigT
import Derived.Test.YtohknemfcohhfaaDoorLawHalves
import Derived.Test.YtohknemfcohhfaaDoorDigU
import Derived.Test.YtohknemfcohhfaaDoorDigW
import Derived.Test.YtohknemfcohhfaaDoorDigX
import Derived.Test.YtohknemfcohhfaaDoorDigY
import Derived.Test.YtohknemfcohhfaaDoorSigA
import Derived.Test.YtohknemfcohhfaaDoorSigB
import Derived.Test.YtohknemfcohhfaaDoorSigC
import Derived.Test.YtohknemfcohhfaaDoorSigD
import Derived.Test.YtohknemfcohhfaaDoorSigE
import Derived.Test.YtohknemfcohhfaaDoorSigP
import Derived.Test.YtohknemfcohhfaaDoorSigF
import Derived.Test.YtohknemfcohhfaaDoorSigG
import Derived.Test.YtohknemfcohhfaaDoorSigI
import Derived.Test.YtohknemfcohhfaaDoorSigJ
import Derived.Lib.ConvBytes
import Derived.StillTailTactics
import Derived.Lib.AppendZerosOnto
import Derived.Deep.RegionHeld3
import Derived.Stop.BytesEq
import Derived.Great.BuildSlice
import Derived.Deep.MidRow
import Derived.Deep.RegionLaw
import Derived.Deep.DeepCutAuto
import Derived.Deep.QuietTactic
import Derived.BigQuiet
import Derived.Laws.EntriesVeiled
namespace Go.Proofs.YtohknemfcohhfaaDoor
open Go.RowKit Go.VS
set_option maxRecDepth 100000 in
set_option maxHeartbeats 1000000 in
theorem rpublic_ok {sh : List UInt8 → List UInt8} (hs : Sh sh) (A : Option Addr) (n c : Nat) (seed : List UInt8) (m : Nat) (u : Int) (D : Gh) (w : World) (hk : Keeps D w) (hb : BS D (.slice A n c) seed) (hv : validF n m u = true) :
    Calls Tryd.prog 45 #[keyV A n c m u] w fun e w' => e = .returned (.tuple #[dg (treeF (tagB sh) (keysF (tagB sh) seed m)), .int .i64 0]) ∧ Below w.heap.size w w' := by
  have hvv := of_decide_eq_true hv
  obtain ⟨h1, h2, h3, h4, h5, h6⟩ := hvv
  have HV := Lib.hid hv
  clear hv
  have hB0 := (Box.new2 hk rfl 45 #[.slice A n c, .int .i64 m, .int .i64 u]).alloc (.cells (darr []) 26)
  have hB2 := Box.new2 (hk.alloc (.cells #[.slice A n c, .int .i64 m, .int .i64 u] 45)) (g := w.heap.size + 1) (by simp) 26 (darr [])
  have hG0 : Grow w D ((w.alloc (.cells #[.slice A n c, .int .i64 m, .int .i64 u] 45)).alloc (.cells (darr []) 26)) D := ((Grow.refl hk).alloc _).alloc _
  have q0 := hB0.cell 0
  have q1 := hB0.cell 1
  have q2 := hB0.cell 2
  have HVC := Lib.hid (fun W => rvalid_c A n c (by unfold maxLen; omega) m u W)
  go_enter Tryd.func45, Tryd.ntmps45
  go_wp2_with fail
  refine (HVC.out _).mono ?_
  rintro e w1 ⟨rfl, hb1⟩
  rw [HV.out]
  have hG1 := hG0.trans (Grow.of_below hG0.keeps hb1)
  have hB0a := hB0.below hb1 hB0.lt
  have hB2a := hB2.below hb1 hB2.lt
  clear q0 q1 q2 hB0 hB2 hb1 hG0
  have q0 := hB0a.cell 0
  have q1 := hB0a.cell 1
  have q2 := hB0a.cell 2
  go_wp2_with fail
  refine (rkeys_c hs A n c seed (by omega) m (by omega) u D w1 hG1.keeps hb).mono ?_
  rintro e w2 ⟨A2, c2, D2, rfl, hG2, hds⟩
  have hG3 := hG1.trans hG2
  have hB2b := hB2a.grow hG2
  clear q0 q1 q2 hB0a hB2a hG1
  have HTC := Lib.hid (fun W hk => rtree_c hs m _ _ _ _ D2 W hk hds (by omega) (by omega))
  have hr32 := Lib.hid (treeF_len hs (keysF (tagB sh) seed m))
  generalize hr : treeF (tagB sh) (keysF (tagB sh) seed m) = r at *
  have HR := Lib.hid hr
  clear hr
  rw [dg_darr r hr32.out] at HTC
  have hsr : (darr []).size = (darr r).size := by rw [darr_size _ (by simp), darr_size _ (by rw [hr32.out]; omega)]
  have hsr26 := sz26 r hr32.out
  go_wp2_with fail
  refine (HTC.out _ hG3.keeps).mono ?_
  rintro e w3 ⟨rfl, hb3⟩
  have hB2f := hB2b.below hb3 hB2b.lt
  have hbel3 := belowVia hb3 hG3.below
  go_wp2_with (first | ((with_reducible show wpList _ _ _ ((⟨_, .store 26 _ _, _, _, _, _⟩ : Oper) :: _) _ _); refine wpList_store_row rfl 26 _ _ rfl (w.heap.size + 1) (darr r) rfl rfl 26 (darr []) (hB2f.heap) (hsr26) (hsr) (darr_one _) ?_))
  refine bodyPost_ret (results_cell_tmp rfl _ _ _ _ _ _ _ _ rfl rfl (hB2f.setRow _).heap Tryd.underlying26 rfl hsr26) rfl ⟨?_, belowRow hbel3 (by omega) _⟩
  rw [HR.out, dg_darr r hr32.out]
  rfl

theorem ns_cell {D : Gh} {A : Option Addr} {n c : Nat} {l : List Int} (h : NS D (.slice A n c) l) {k : Nat} (hk : k < l.length) : ∃ b o, A = some ⟨b, o, none⟩ ∧ ∀ W, Keeps D W → W.cell? ⟨b, o + k, none⟩ = some (.int .i64 (l.getD k 0)) := by
  obtain ⟨a', c', hv, h1, h2, h3, h4⟩ := h
  cases hv
  obtain ⟨b, o, ha, hc⟩ := h4 (by simp; omega)
  exact ⟨b, o, ha, fun W hW => hW _ _ _ (hc k _ (by simp [List.getD, List.getElem?_eq_getElem hk]))⟩
/-- what stands in the loop of the reference's Sign. -/
structure RgI (D : Gh) (w : World) (u : Int) (g8 : Nat) (Ap : Option Addr) (k cp : Nat) (xs : List (List UInt8)) (W : World) : Prop where
  keeps : Keeps D W
  below : Below w.heap.size w W
  b1 : Box W D (w.heap.size + 1) 45 #[.slice none 0 0, .int .i64 0, .int .i64 0]
  b2 : Box W D (w.heap.size + 1 + 1) 49 #[.int .i64 0, .slice none 0 0, .slice none 0 0]
  b8 : Box W D g8 49 #[.int .i64 u, .slice Ap k cp, .slice none 0 0]
  ne8 : w.heap.size + 1 + 1 < g8
  own : W.ownsRow w.heap.size 26 32 (.slice Ap k cp) k (flat xs)
  off : ∀ g, (Value.slice Ap k cp).ownBlock = some g → D.off g
theorem RgI.drew {D : Gh} {w : World} {u : Int} {g8 k cp : Nat} {Ap : Option Addr} {xs : List (List UInt8)} {W : World} (h : RgI D w u g8 Ap k cp xs W) : RgI D w u g8 Ap k cp xs W.drew := ⟨h.keeps.drew, h.below.drew, h.b1.drew, h.b2.drew, h.b8.drew, h.ne8, h.own.drew, h.off⟩
theorem RgI.call {D : Gh} {w : World} {u : Int} {g8 k cp : Nat} {Ap : Option Addr} {xs : List (List UInt8)} {W W' : World} (h : RgI D w u g8 Ap k cp xs W) (hb : Below W.heap.size W W') : RgI D w u g8 Ap k cp xs W' := ⟨h.keeps.below hb (Nat.le_refl _), belowVia hb h.below, h.b1.below hb h.b1.lt, h.b2.below hb h.b2.lt, h.b8.below hb h.b8.lt, h.ne8, own_belowN h.own hb, h.off⟩
theorem RgI.grow {D D' : Gh} {w : World} {u : Int} {g8 k cp : Nat} {Ap : Option Addr} {xs : List (List UInt8)} {W W' : World} (h : RgI D w u g8 Ap k cp xs W) (hG : Grow W D W' D') : RgI D' w u g8 Ap k cp xs W' :=
  ⟨hG.keeps, belowVia hG.below h.below, h.b1.grow hG, h.b2.grow hG, h.b8.grow hG, h.ne8, own_belowN h.own hG.below, fun g e => hG.off (h.own.lt g e).2 (h.off g e)⟩
/-- one part more. -/
theorem RgI.step {D : Gh} {w : World} {u : Int} {g8 k cp : Nat} {Ap : Option Addr} {xs : List (List UInt8)} {W : World} (h : RgI D w u g8 Ap k cp xs W) (hk : k ≤ 100) (r : List UInt8) (hr : r.length = 32) :
    ∃ A' cap' w', (Builtin.append_ #[30, 30] 30 #[.slice Ap k cp, .slice (some ⟨W.heap.size, 0, none⟩) 1 1]).run Tryd.prog (W.alloc (.cells (darr r) 26)) = .ok (.slice A' (k + 1) cap') w' ∧ w'.cell? ⟨g8, 1, none⟩ = some (.slice Ap k cp) ∧ w'.frozen? ⟨g8, 1, none⟩ = false ∧ Keeps D w' ∧
      RgI D w u g8 A' (k + 1) cap' (xs ++ [r]) (w'.setCell ⟨g8, 1, none⟩ (.slice A' (k + 1) cap')) := by
  obtain ⟨A', cap', w', hrun, hown', hg, hk', hoff'⟩ := app_row r hr h.own h.keeps h.off h.below.size (by omega)
  have hbel0 : Below w.heap.size w (W.alloc (.cells (darr r) 26)) := belowAlloc h.below _
  have n1 : some (w.heap.size + 1) ≠ (Value.slice Ap k cp).ownBlock := fun e => h.b1.ne_own32 h.own (by decide) e.symm
  have n2 : some (w.heap.size + 1 + 1) ≠ (Value.slice Ap k cp).ownBlock := fun e => h.b2.ne_own32 h.own (by decide) e.symm
  have n8 : some g8 ≠ (Value.slice Ap k cp).ownBlock := fun e => h.b8.ne_own32 h.own (by decide) e.symm
  have b1 := (h.b1.alloc (.cells (darr r) 26)).grown hg n1
  have b2 := (h.b2.alloc (.cells (darr r) 26)).grown hg n2
  have b8 := (h.b8.alloc (.cells (darr r) 26)).grown hg n8
  have hbel' : Below w.heap.size w w' := hbel0.grown hg hbel0.size (fun g e => (h.own.lt g e).1)
  have hn := h.ne8
  refine ⟨A', cap', w', hrun, b8.cell 1, b8.frozen 1, hk', ⟨hk'.setCell (p := ⟨_, 1, none⟩) b8.off _, belowSet2 (by omega) hbel', b1.far2 (by omega), b2.far2 (by omega), b8.set_ 1 _, hn, own_farN hown' (b8.ne_own32 hown' (by decide)) _, hoff'⟩⟩
set_option maxRecDepth 100000 in
set_option maxHeartbeats 2000000 in
theorem rsign_ok {sh : List UInt8 → List UInt8} (hs : Sh sh) (A : Option Addr) (n c : Nat) (seed : List UInt8) (m u : Nat) (B : Option Addr) (b d : Nat) (msg : List UInt8) (hb : b ≤ 65536) (D : Gh) (w : World) (hk : Keeps D w) (hA : BS D (.slice A n c) seed) (hB : BS D (.slice B b d) msg) (hv : validF n m u = true) (hu : u < m) :
    Calls Tryd.prog 34 #[keyV A n c m u, .slice B b d] w fun x w' => ∃ A' c' P' d' E' f' D', x = .returned (.tuple #[keyV A' n c' m ((u : Int) + 1), sigV u P' 67 d' E' (lenF u m) f', .int .i64 0]) ∧ Grow w D w' D' ∧ BS D' (.slice A' n c') seed ∧ DS D' (.slice P' 67 d') (partsF (tagB sh) seed u (sigD sh seed m u msg)) ∧ DS D' (.slice E' (lenF u m) f') (pathF (tagB sh) (keysF (tagB sh) seed m) u) := by
  have hvv := of_decide_eq_true hv
  obtain ⟨h1, h2, h3, h4, h5, h6⟩ := hvv
  have HV := Lib.hid hv
  clear hv
  have HVC := Lib.hid (fun W => rvalid_c A n c (by unfold maxLen; omega) m u W)
  obtain ⟨D0, hGk, hkv⟩ := Box.pub hk 45 #[.slice A n c, .int .i64 m, .int .i64 u]
  have kv0 := hkv 0 _ rfl
  have kv1 := hkv 1 _ rfl
  have kv2 := hkv 2 _ rfl
  have hB1 := (Box.new2 hGk.keeps (g := w.heap.size + 1) (by simp) 45 #[.slice none 0 0, .int .i64 0, .int .i64 0]).alloc (.cells #[.int .i64 0, .slice none 0 0, .slice none 0 0] 49)
  have hB2 := Box.new2 (hGk.keeps.alloc (.cells #[.slice none 0 0, .int .i64 0, .int .i64 0] 45)) (g := w.heap.size + 1 + 1) (by simp) 49 #[.int .i64 0, .slice none 0 0, .slice none 0 0]
  have hG0 : Grow w D (((w.alloc (.cells #[.slice A n c, .int .i64 m, .int .i64 u] 45)).alloc (.cells #[.slice none 0 0, .int .i64 0, .int .i64 0] 45)).alloc (.cells #[.int .i64 0, .slice none 0 0, .slice none 0 0] 49)) D0 := (hGk.alloc _).alloc _
  have q0 := hG0.keeps _ _ _ kv0
  have q1 := hG0.keeps _ _ _ kv1
  have q2 := hG0.keeps _ _ _ kv2
  clear hkv hGk
  go_enter Tryd.func34, Tryd.ntmps34
  go_wp2_with fail
  generalize ((w.alloc (.cells #[.slice A n c, .int .i64 m, .int .i64 u] 45)).alloc (.cells #[.slice none 0 0, .int .i64 0, .int .i64 0] 45)).alloc (.cells #[.int .i64 0, .slice none 0 0, .slice none 0 0] 49) = W at *
  refine (HVC.out _).mono ?_
  rintro e w1 ⟨rfl, hb1⟩
  rw [HV.out]
  replace hB1 := hB1.below hb1 hB1.lt
  replace hB2 := hB2.below hb1 hB2.lt
  have hG1 := hG0.trans (Grow.of_below hG0.keeps hb1)
  clear hb1 hG0 HVC HV q0 q1 q2 W
  have q0 := hG1.keeps _ _ _ kv0
  have q1 := hG1.keeps _ _ _ kv1
  have q2 := hG1.keeps _ _ _ kv2
  have g2 : ¬ ((65536 : Int) < (b : Int)) := by omega
  have g3 : ((u : Int) == (m : Int)) = false := by simp; omega
  have g3' : ¬ (u = m) := by omega
  go_wp2_with fail
  refine (rkeys_c hs A n c seed (by omega) m (by omega) u D0 w1 hG1.keeps (hA.le hG1.le)).mono ?_
  rintro e w2 ⟨A2, c2, D2, rfl, hG2, hds⟩
  replace hB1 := hB1.grow hG2
  replace hB2 := hB2.grow hG2
  have hG3 := hG1.trans hG2
  replace kv0 := hG2.le _ _ _ kv0
  replace kv1 := hG2.le _ _ _ kv1
  replace kv2 := hG2.le _ _ _ kv2
  clear q0 q1 q2 hG1 hG2
  have q0 := hG3.keeps _ _ _ kv0
  have q1 := hG3.keeps _ _ _ kv1
  have q2 := hG3.keeps _ _ _ kv2
  go_wp2_with fail
  have hlt2 := hB2.lt
  have hS0 : RgI D2 w u w2.heap.size none 0 0 [] (w2.alloc (.cells #[.int .i64 u, .slice none 0 0, .slice none 0 0] 49)) :=
    ⟨hG3.keeps.alloc _, belowAlloc hG3.below _, hB1.alloc _, hB2.alloc _, Box.new2 hG3.keeps rfl 49 _, hlt2, World.ownsRow_nil _ _ _ _, by simp [Value.ownBlock]⟩
  have hle3 := hG3.le
  have hold3 := hG3.old
  clear q0 q1 q2 hB1 hB2 hlt2 hG3
  generalize w2.heap.size = g8 at *
  generalize w2.alloc (.cells #[.int .i64 u, .slice none 0 0, .slice none 0 0] 49) = W9 at *
  have hS0d := hS0.drew
  have HTC := Lib.hid (fun W hk => rtree_c hs m _ _ _ _ D2 W hk hds (by omega) (by omega))
  have hr32 := Lib.hid (treeF_len hs (keysF (tagB sh) seed m))
  have HHC := Lib.hid (fun W hk => rhash_c hs _ hr32.out u B b d msg hb D2 W hk (hB.le hle3))
  have hh32 := Lib.hid (show (hashF (tagB sh) (treeF (tagB sh) (keysF (tagB sh) seed m)) u msg).length = 32 from hs.len _)
  have HDC := Lib.hid (fun W hk => rDigits_c _ hh32.out D2 W hk)
  have hL67 := Lib.hid (digF_len _ hh32.out)
  have HDR := Lib.hid (fun k hk => digF_range _ hh32.out k hk)
  change Hid (∀ W, Keeps D2 W → Calls Tryd.prog 43 _ W fun e w' => ∃ A' c' D', e = .returned (.slice A' 67 c') ∧ Grow W D2 w' D' ∧ NS D' (.slice A' 67 c') (sigD sh seed m u msg)) at HDC
  change Hid ((sigD sh seed m u msg).length = 67) at hL67
  change Hid (∀ k, k < 67 → 0 ≤ (sigD sh seed m u msg).getD k 0 ∧ (sigD sh seed m u msg).getD k 0 ≤ 15) at HDR
  generalize hL : sigD sh seed m u msg = L at *
  have HLL := Lib.hid hL
  clear hL
  generalize hashF (tagB sh) (treeF (tagB sh) (keysF (tagB sh) seed m)) u msg = hh at *
  generalize treeF (tagB sh) (keysF (tagB sh) seed m) = tr at *
  rw [dg_darr tr hr32.out] at HTC HHC
  rw [dg_darr hh hh32.out] at HHC HDC
  go_cut [9] (fun x wx => ∃ (A' : Option Addr) (c' : Nat) (D' : Gh), x = .slice A' 67 c' ∧ NS D' (.slice A' 67 c') L ∧ RgI D' w u g8 none 0 0 [] wx ∧ Grow W9 D2 wx D')
  case first =>
    refine wp_region_held_drew (S := fun W => W.cell? ⟨w.heap.size, 2, none⟩ = some (.int .i64 u)) (by kernel_rfl) (hS0d.keeps _ _ _ kv2) (fun hHeld => ?_)
    refine wpAnyH_take (i := 0) (v := ?_) rfl (by kernel_rfl) (by kernel_rfl) (by kernel_rfl) (fun _ _ _ h => h) (Or.inl ⟨by rfl, ?_⟩) hHeld ?_
    rotate_left
    · (intro wz hSw; (try dsimp only at hSw); go_simp; try with_reducible rfl)
    simp only [Act.put, List.getElem_toArray, List.getElem_cons_zero, List.setIfInBounds_toArray, List.set_cons_zero, List.set_cons_succ]
    refine wpAnyH_take (i := 2) (v := ?_) rfl (by kernel_rfl) (by kernel_rfl) (by kernel_rfl) (fun _ _ _ h => h) (Or.inl ⟨by rfl, ?_⟩) hHeld ?_
    rotate_left
    · (intro wz hSw; (try dsimp only at hSw); go_simp; try with_reducible rfl)
    simp only [Act.put, List.getElem_toArray, List.getElem_cons_zero, List.getElem_cons_succ, List.setIfInBounds_toArray, List.set_cons_zero, List.set_cons_succ]
    refine wpAnyH_take (i := 3) (v := ?_) rfl (by kernel_rfl) (by kernel_rfl) (by kernel_rfl) (fun _ _ _ h => h) (Or.inl ⟨by rfl, ?_⟩) hHeld ?_
    rotate_left
    · (intro wz hSw; (try dsimp only at hSw); go_simp; try with_reducible rfl)
    simp only [Act.put, List.getElem_toArray, List.getElem_cons_zero, List.getElem_cons_succ, List.setIfInBounds_toArray, List.set_cons_zero, List.set_cons_succ]
    refine wpAnyH_take (i := 4) (v := ?_) rfl (by kernel_rfl) (by kernel_rfl) (by kernel_rfl) (fun _ _ _ h => h) (Or.inl ⟨by rfl, ?_⟩) hHeld ?_
    rotate_left
    · (intro wz hSw; (try dsimp only at hSw); go_simp; try with_reducible rfl)
    simp only [Act.put, List.getElem_toArray, List.getElem_cons_zero, List.getElem_cons_succ, List.setIfInBounds_toArray, List.set_cons_zero, List.set_cons_succ]
    refine wpAnyH_ready (rs := [1]) (by kernel_rfl) (by simp) (AllReadyH.cons rfl (fun K' hK => ?_) AllReadyH.nil)
    go_simp
    go_wp2_with ((go_at_call 24; refine (HTC.out _ hS0d.keeps).mono ?_; rintro e w3 ⟨rfl, hb3⟩))
    have hS1 := hS0d.call hb3
    refine hK.out _ _ (hS1.keeps _ _ _ kv2) (fun hHeld => ?_)
    clear hK K'
    refine wpAnyH_ready (rs := [5]) (by kernel_rfl) (by simp) (AllReadyH.cons rfl (fun K' hK => ?_) AllReadyH.nil)
    go_simp
    go_wp2_with ((go_at_call 72; refine (HHC.out _ hS1.keeps).mono ?_; rintro e w4 ⟨rfl, hb4⟩))
    have hS2 := hS1.call hb4
    refine hK.out _ _ (hS2.keeps _ _ _ kv2) (fun hHeld => ?_)
    clear hK K'
    refine wpAnyH_ready (rs := [6]) (by kernel_rfl) (by simp) (AllReadyH.cons rfl (fun K' hK => ?_) AllReadyH.nil)
    go_simp
    go_wp2_with ((go_at_call 43; refine (HDC.out _ hS2.keeps).mono ?_; rintro e w5 ⟨A5, c5, D5, rfl, hG5, hns⟩))
    have hS3 := hS2.grow hG5
    refine hK.out _ _ (hS3.keeps _ _ _ (hG5.le _ _ _ kv2)) (fun hHeld => ?_)
    clear hK K'
    refine wpAnyH_ready (rs := [7]) (by kernel_rfl) (by simp) (AllReadyH.cons rfl (fun K' hK => ?_) AllReadyH.nil)
    go_simp
    refine hK.out _ _ hHeld (fun hHeld => ?_)
    clear hK K'
    refine wpAnyH_done (by kernel_rfl) ?_ _
    have hGG : Grow W9 D2 w5 D5 := ⟨belowVia hG5.below (belowVia hb4 (belowVia hb3 (Below.refl _ _).drew)), hG5.keeps, hG5.le, fun b hb o => hG5.old b (Nat.lt_of_lt_of_le hb (belowVia hb4 (belowVia hb3 (Below.refl W9.heap.size W9).drew)).size) o⟩
    go_wp2_with fail
    go_meet
    exact ⟨A5, c5, D5, rfl, hns, hS3, hGG⟩
  case rest =>
    obtain ⟨A9, c9, D3, rfl, hns, hS3, hG9⟩ := hcut
    have hle9 := hG9.le
    replace kv0 := hle9 _ _ _ kv0
    replace kv1 := hle9 _ _ _ kv1
    replace kv2 := hle9 _ _ _ kv2
    have hds3 := hds.le hle9
    have hA3 := hA.le (hle3.trans hle9)
    have hGw : ∀ W', Below w.heap.size w W' → Keeps D3 W' → Grow w D W' D3 := fun W' hb' hk' => ⟨hb', hk', hle3.trans hle9, fun b hb o => (hG9.old b (Nat.lt_of_lt_of_le hb hS0.below.size) o).trans (hold3 b hb o)⟩
    have HGW := Lib.hid hGw
    clear hGw hS0 hS0d hG9 hle9 HTC HHC HDC hds hh32 hr32
    go_wp2_with fail
    go_loopw [10] (fun y wr => ∃ (k : Nat) (Ap : Option Addr) (cp : Nat), k ≤ 67 ∧ y = .int .i64 k ∧ RgI D3 w u g8 Ap k cp ((partsF (tagB sh) seed u L).take k) wr) (fun y _ => 67 - (intOf y).toNat)
    case atStart => exact ⟨0, none, 0, by omega, rfl, by rw [List.take_zero]; exact hS3⟩
    case round =>
      clear hS3
      obtain ⟨k, Ap, cp, hk67, rfl, hS⟩ := hrel
      by_cases hlt : k < 67
      · have g1 : (k : Int) < 67 := by omega
        have g0 : (0 : Int) ≤ (k : Int) := by omega
        obtain ⟨bg, og, rfl, hdg⟩ := ns_cell hns (k := k) (by rw [hL67.out]; exact hlt)
        have hdr := HDR.out k hlt
        have HTK := Lib.hid (partsF_take (tagB sh) seed u L k hlt)
        generalize L.getD k 0 = x at *
        have hd0 := hdr.1
        have hd15 := hdr.2
        have hst32 : (startF (tagB sh) seed u k).length = 32 := hs.len _
        have HCL := Lib.hid (fun W hk => rclimb32_c hs u k 0 x (by omega) (by omega) hd0 (by omega) (startF (tagB sh) seed u k) hst32 D3 W hk)
        have hv32 := Lib.hid (show (valF (tagB sh) seed u k x).length = 32 from adv_len hs u k 0 x _ hst32)
        change Hid (∀ W, Keeps D3 W → Calls Tryd.prog 73 _ W fun e w' => e = .returned (dg (valF (tagB sh) seed u k x)) ∧ _) at HCL
        have HST := Lib.hid (fun W hk => rstart_c hs A n c seed (by omega) m u u k D3 W hk hA3)
        generalize startF (tagB sh) seed u k = st at *
        generalize valF (tagB sh) seed u k x = r at *
        rw [dg_darr r hv32.out] at HCL
        unfold dg at HCL HST
        generalize (partsF (tagB sh) seed u L).take k = ps at *
        have hSd := hS.drew
        have HDG := Lib.hid hdg
        have q0 := hS.keeps _ _ _ kv0
        have q1 := hS.keeps _ _ _ kv1
        have q2 := hS.keeps _ _ _ kv2
        have p1 := hS.b8.cell 1
        have dg0 := hdg _ hS.keeps
        clear hdr hdg hst32
        have hs32 : (darr r).size = 32 := darr_size r (by rw [hv32.out]; omega)
        have hfz := foldz r hv32.out
        go_wp2_with fail
        have SH : Hid (∀ W, Keeps D3 W → (W.cell? ⟨w.heap.size, 0, none⟩ = some (.slice A n c) ∧ W.cell? ⟨w.heap.size, 1, none⟩ = some (.int .i64 m) ∧ W.cell? ⟨w.heap.size, 2, none⟩ = some (.int .i64 u) ∧ W.cell? ⟨bg, og + k, none⟩ = some (.int .i64 x))) := fun W h => ⟨h _ _ _ kv0, h _ _ _ kv1, h _ _ _ kv2, HDG.out _ h⟩
        clear q0 q1 q2 p1 dg0
        refine wp_region_held_drew (S := fun W => W.cell? ⟨w.heap.size, 0, none⟩ = some (.slice A n c) ∧ W.cell? ⟨w.heap.size, 1, none⟩ = some (.int .i64 m) ∧ W.cell? ⟨w.heap.size, 2, none⟩ = some (.int .i64 u) ∧ W.cell? ⟨bg, og + k, none⟩ = some (.int .i64 x)) (by kernel_rfl) (SH.out _ hSd.keeps) (fun hHeld => ?_)
        refine wpAnyH_take (i := 0) (v := ?_) rfl (by kernel_rfl) (by kernel_rfl) (by kernel_rfl) (fun _ _ _ h => h) (Or.inl ⟨by rfl, ?_⟩) hHeld ?_
        rotate_left
        · (intro wz hSw; (try dsimp only at hSw); go_simp; try with_reducible rfl)
        simp only [Act.put, List.getElem_toArray, List.getElem_cons_zero, List.setIfInBounds_toArray, List.set_cons_zero, List.set_cons_succ]
        refine wpAnyH_take (i := 2) (v := ?_) rfl (by kernel_rfl) (by kernel_rfl) (by kernel_rfl) (fun _ _ _ h => h) (Or.inl ⟨by rfl, ?_⟩) hHeld ?_
        rotate_left
        · (intro wz hSw; (try dsimp only at hSw); go_simp; try with_reducible rfl)
        simp only [Act.put, List.getElem_toArray, List.getElem_cons_zero, List.getElem_cons_succ, List.setIfInBounds_toArray, List.set_cons_zero, List.set_cons_succ]
        refine wpAnyH_take (i := 3) (v := ?_) rfl (by kernel_rfl) (by kernel_rfl) (by kernel_rfl) (fun _ _ _ h => h) (Or.inl ⟨by rfl, ?_⟩) hHeld ?_
        rotate_left
        · (intro wz hSw; (try dsimp only at hSw); go_simp; try with_reducible rfl)
        simp only [Act.put, List.getElem_toArray, List.getElem_cons_zero, List.getElem_cons_succ, List.setIfInBounds_toArray, List.set_cons_zero, List.set_cons_succ]
        refine wpAnyH_take (i := 4) (v := ?_) rfl (by kernel_rfl) (by kernel_rfl) (by kernel_rfl) (fun _ _ _ h => h) (Or.inl ⟨by rfl, ?_⟩) hHeld ?_
        rotate_left
        · (intro wz hSw; (try dsimp only at hSw); go_simp; try with_reducible rfl)
        simp only [Act.put, List.getElem_toArray, List.getElem_cons_zero, List.getElem_cons_succ, List.setIfInBounds_toArray, List.set_cons_zero, List.set_cons_succ]
        refine wpAnyH_take (i := 5) (v := ?_) rfl (by kernel_rfl) (by kernel_rfl) (by kernel_rfl) (fun _ _ _ h => h) (Or.inl ⟨by rfl, ?_⟩) hHeld ?_
        rotate_left
        · (intro wz hSw; (try dsimp only at hSw); go_simp; try with_reducible rfl)
        simp only [Act.put, List.getElem_toArray, List.getElem_cons_zero, List.getElem_cons_succ, List.setIfInBounds_toArray, List.set_cons_zero, List.set_cons_succ]
        refine wpAnyH_take (i := 7) (v := ?_) rfl (by kernel_rfl) (by kernel_rfl) (by kernel_rfl) (fun _ _ _ h => h) (Or.inl ⟨by rfl, ?_⟩) hHeld ?_
        rotate_left
        · (intro wz hSw; (try dsimp only at hSw); go_simp; try with_reducible rfl)
        simp only [Act.put, List.getElem_toArray, List.getElem_cons_zero, List.getElem_cons_succ, List.setIfInBounds_toArray, List.set_cons_zero, List.set_cons_succ]
        refine wpAnyH_take (i := 8) (v := ?_) rfl (by kernel_rfl) (by kernel_rfl) (by kernel_rfl) (fun _ _ _ h => h) (Or.inl ⟨by rfl, ?_⟩) hHeld ?_
        rotate_left
        · (intro wz hSw; (try dsimp only at hSw); go_simp; try with_reducible rfl)
        simp only [Act.put, List.getElem_toArray, List.getElem_cons_zero, List.getElem_cons_succ, List.setIfInBounds_toArray, List.set_cons_zero, List.set_cons_succ]
        refine wpAnyH_take (i := 9) (v := ?_) rfl (by kernel_rfl) (by kernel_rfl) (by kernel_rfl) (fun _ _ _ h => h) (Or.inl ⟨by rfl, ?_⟩) hHeld ?_
        rotate_left
        · (intro wz hSw; (try dsimp only at hSw); go_simp; try with_reducible rfl)
        simp only [Act.put, List.getElem_toArray, List.getElem_cons_zero, List.getElem_cons_succ, List.setIfInBounds_toArray, List.set_cons_zero, List.set_cons_succ]
        refine wpAnyH_take (i := 10) (v := ?_) rfl (by kernel_rfl) (by kernel_rfl) (by kernel_rfl) (fun _ _ _ h => h) (Or.inl ⟨by rfl, ?_⟩) hHeld ?_
        rotate_left
        · (intro wz hSw; (try dsimp only at hSw); go_simp; try with_reducible rfl)
        simp only [Act.put, List.getElem_toArray, List.getElem_cons_zero, List.getElem_cons_succ, List.setIfInBounds_toArray, List.set_cons_zero, List.set_cons_succ]
        refine wpAnyH_take (i := 11) (v := ?_) rfl (by kernel_rfl) (by kernel_rfl) (by kernel_rfl) (fun _ _ _ h => h) (Or.inl ⟨by rfl, ?_⟩) hHeld ?_
        rotate_left
        · (intro wz hSw; (try dsimp only at hSw); go_simp; try with_reducible rfl)
        simp only [Act.put, List.getElem_toArray, List.getElem_cons_zero, List.getElem_cons_succ, List.setIfInBounds_toArray, List.set_cons_zero, List.set_cons_succ]
        refine wpAnyH_take (i := 12) (v := ?_) rfl (by kernel_rfl) (by kernel_rfl) (by kernel_rfl) (fun _ _ _ h => h) (Or.inl ⟨by rfl, ?_⟩) hHeld ?_
        rotate_left
        · (intro wz hSw; (try dsimp only at hSw); go_simp; try with_reducible rfl)
        simp only [Act.put, List.getElem_toArray, List.getElem_cons_zero, List.getElem_cons_succ, List.setIfInBounds_toArray, List.set_cons_zero, List.set_cons_succ]
        refine wpAnyH_take (i := 13) (v := ?_) rfl (by kernel_rfl) (by kernel_rfl) (by kernel_rfl) (fun _ _ _ h => h) (Or.inl ⟨by rfl, ?_⟩) hHeld ?_
        rotate_left
        · (intro wz hSw; (try dsimp only at hSw); go_simp; try with_reducible rfl)
        simp only [Act.put, List.getElem_toArray, List.getElem_cons_zero, List.getElem_cons_succ, List.setIfInBounds_toArray, List.set_cons_zero, List.set_cons_succ]
        refine wpAnyH_ready (rs := [1, 6]) (by kernel_rfl) (by simp) (AllReadyH.cons rfl (fun K' hK => ?_) (AllReadyH.cons rfl (fun K' hK => ?_) AllReadyH.nil))
        · have p1 := hSd.b8.cell 1
          go_simp
          refine hK.out _ _ hHeld (fun hHeld => ?_)
          clear hK K' p1
          refine wpAnyH_ready (rs := [6]) (by kernel_rfl) (by simp) (AllReadyH.cons rfl (fun K' hK => ?_) AllReadyH.nil)
          go_simp
          go_wp2_with ((go_at_call 74; refine (HST.out _ hSd.keeps).mono ?_; rintro e w6 ⟨rfl, hb6⟩))
          have hS6 := hSd.call hb6
          refine hK.out _ _ (SH.out _ hS6.keeps) (fun hHeld => ?_)
          clear hK K'
          refine wpAnyH_ready (rs := [14]) (by kernel_rfl) (by simp) (AllReadyH.cons rfl (fun K' hK => ?_) AllReadyH.nil)
          go_simp
          go_wp2_with ((go_at_call 73; refine (HCL.out _ hS6.keeps).mono ?_; rintro e w7 ⟨rfl, hb7⟩))
          have hS7 := hS6.call hb7
          refine hK.out _ _ (SH.out _ hS7.keeps) (fun hHeld => ?_)
          clear hK K'
          obtain ⟨A5, c5, w8, hrun5, hc8, hf8, hk8, hS8⟩ := hS7.step (by omega) r hv32.out
          have p8 := Lib.hid ((hS7.b8.alloc (.cells (darr r) 26)).cell 1)
          rw [← HTK.out] at hS8
          have HS8 := Lib.hid hS8
          clear hS8
          refine wpAnyH_ready (rs := [15]) (by kernel_rfl) (by simp) (AllReadyH.cons rfl (fun K' hK => ?_) AllReadyH.nil)
          go_simp
          refine hK.out _ _ (SH.out _ (hS7.keeps.alloc _)) (fun hHeld => ?_)
          clear hK K'
          refine wpAnyH_ready (rs := [16]) (by kernel_rfl) (by simp) (AllReadyH.cons rfl (fun K' hK => ?_) AllReadyH.nil)
          refine step_append_run _ rfl _ _ 30 30 rfl _ _ rfl rfl _ _ hrun5 ?_
          refine hK.out _ _ (SH.out _ hk8) (fun hHeld => ?_)
          clear hK K'
          refine wpAnyH_take (i := 17) (v := ?_) rfl (by kernel_rfl) (by kernel_rfl) (by kernel_rfl) (fun _ _ _ h => h) (Or.inl ⟨by rfl, ?_⟩) hHeld ?_
          rotate_left
          · (intro wz hSw; (try dsimp only at hSw); go_simp; try with_reducible rfl)
          simp only [Act.put, List.getElem_toArray, List.getElem_cons_zero, List.getElem_cons_succ, List.setIfInBounds_toArray, List.set_cons_zero, List.set_cons_succ]
          refine wpAnyH_ready (rs := [18]) (by kernel_rfl) (by simp) (AllReadyH.cons rfl (fun K' hK => ?_) AllReadyH.nil)
          go_simp
          refine hK.out _ _ (SH.out _ HS8.out.keeps) (fun hHeld => ?_)
          clear hK K'
          refine wpAnyH_done (by kernel_rfl) ?_ _
          go_wp2_with fail
          go_roundw
          case rel => exact ⟨k + 1, A5, c5, by omega, by go_num, HS8.out⟩
          case measure => simp [intOf]; omega
        · go_simp
          go_wp2_with ((go_at_call 74; refine (HST.out _ hSd.keeps).mono ?_; rintro e w6 ⟨rfl, hb6⟩))
          have hS6 := hSd.call hb6
          refine hK.out _ _ (SH.out _ hS6.keeps) (fun hHeld => ?_)
          clear hK K'
          refine wpAnyH_ready (rs := [1, 14]) (by kernel_rfl) (by simp) (AllReadyH.cons rfl (fun K' hK => ?_) (AllReadyH.cons rfl (fun K' hK => ?_) AllReadyH.nil))
          · have p1 := hS6.b8.cell 1
            go_simp
            refine hK.out _ _ hHeld (fun hHeld => ?_)
            clear hK K' p1
            refine wpAnyH_ready (rs := [14]) (by kernel_rfl) (by simp) (AllReadyH.cons rfl (fun K' hK => ?_) AllReadyH.nil)
            go_simp
            go_wp2_with ((go_at_call 73; refine (HCL.out _ hS6.keeps).mono ?_; rintro e w7 ⟨rfl, hb7⟩))
            have hS7 := hS6.call hb7
            refine hK.out _ _ (SH.out _ hS7.keeps) (fun hHeld => ?_)
            clear hK K'
            obtain ⟨A5, c5, w8, hrun5, hc8, hf8, hk8, hS8⟩ := hS7.step (by omega) r hv32.out
            have p8 := Lib.hid ((hS7.b8.alloc (.cells (darr r) 26)).cell 1)
            rw [← HTK.out] at hS8
            have HS8 := Lib.hid hS8
            clear hS8
            refine wpAnyH_ready (rs := [15]) (by kernel_rfl) (by simp) (AllReadyH.cons rfl (fun K' hK => ?_) AllReadyH.nil)
            go_simp
            refine hK.out _ _ (SH.out _ (hS7.keeps.alloc _)) (fun hHeld => ?_)
            clear hK K'
            refine wpAnyH_ready (rs := [16]) (by kernel_rfl) (by simp) (AllReadyH.cons rfl (fun K' hK => ?_) AllReadyH.nil)
            refine step_append_run _ rfl _ _ 30 30 rfl _ _ rfl rfl _ _ hrun5 ?_
            refine hK.out _ _ (SH.out _ hk8) (fun hHeld => ?_)
            clear hK K'
            refine wpAnyH_take (i := 17) (v := ?_) rfl (by kernel_rfl) (by kernel_rfl) (by kernel_rfl) (fun _ _ _ h => h) (Or.inl ⟨by rfl, ?_⟩) hHeld ?_
            rotate_left
            · (intro wz hSw; (try dsimp only at hSw); go_simp; try with_reducible rfl)
            simp only [Act.put, List.getElem_toArray, List.getElem_cons_zero, List.getElem_cons_succ, List.setIfInBounds_toArray, List.set_cons_zero, List.set_cons_succ]
            refine wpAnyH_ready (rs := [18]) (by kernel_rfl) (by simp) (AllReadyH.cons rfl (fun K' hK => ?_) AllReadyH.nil)
            go_simp
            refine hK.out _ _ (SH.out _ HS8.out.keeps) (fun hHeld => ?_)
            clear hK K'
            refine wpAnyH_done (by kernel_rfl) ?_ _
            go_wp2_with fail
            go_roundw
            case rel => exact ⟨k + 1, A5, c5, by omega, by go_num, HS8.out⟩
            case measure => simp [intOf]; omega
          · go_simp
            go_wp2_with ((go_at_call 73; refine (HCL.out _ hS6.keeps).mono ?_; rintro e w7 ⟨rfl, hb7⟩))
            have hS7 := hS6.call hb7
            refine hK.out _ _ (SH.out _ hS7.keeps) (fun hHeld => ?_)
            clear hK K'
            obtain ⟨A5, c5, w8, hrun5, hc8, hf8, hk8, hS8⟩ := hS7.step (by omega) r hv32.out
            have p8 := Lib.hid ((hS7.b8.alloc (.cells (darr r) 26)).cell 1)
            rw [← HTK.out] at hS8
            have HS8 := Lib.hid hS8
            clear hS8
            refine wpAnyH_ready (rs := [1, 15]) (by kernel_rfl) (by simp) (AllReadyH.cons rfl (fun K' hK => ?_) (AllReadyH.cons rfl (fun K' hK => ?_) AllReadyH.nil))
            · have p1 := hS7.b8.cell 1
              go_simp
              refine hK.out _ _ hHeld (fun hHeld => ?_)
              clear hK K' p1
              refine wpAnyH_ready (rs := [15]) (by kernel_rfl) (by simp) (AllReadyH.cons rfl (fun K' hK => ?_) AllReadyH.nil)
              go_simp
              refine hK.out _ _ (SH.out _ (hS7.keeps.alloc _)) (fun hHeld => ?_)
              clear hK K'
              refine wpAnyH_ready (rs := [16]) (by kernel_rfl) (by simp) (AllReadyH.cons rfl (fun K' hK => ?_) AllReadyH.nil)
              refine step_append_run _ rfl _ _ 30 30 rfl _ _ rfl rfl _ _ hrun5 ?_
              refine hK.out _ _ (SH.out _ hk8) (fun hHeld => ?_)
              clear hK K'
              refine wpAnyH_take (i := 17) (v := ?_) rfl (by kernel_rfl) (by kernel_rfl) (by kernel_rfl) (fun _ _ _ h => h) (Or.inl ⟨by rfl, ?_⟩) hHeld ?_
              rotate_left
              · (intro wz hSw; (try dsimp only at hSw); go_simp; try with_reducible rfl)
              simp only [Act.put, List.getElem_toArray, List.getElem_cons_zero, List.getElem_cons_succ, List.setIfInBounds_toArray, List.set_cons_zero, List.set_cons_succ]
              refine wpAnyH_ready (rs := [18]) (by kernel_rfl) (by simp) (AllReadyH.cons rfl (fun K' hK => ?_) AllReadyH.nil)
              go_simp
              refine hK.out _ _ (SH.out _ HS8.out.keeps) (fun hHeld => ?_)
              clear hK K'
              refine wpAnyH_done (by kernel_rfl) ?_ _
              go_wp2_with fail
              go_roundw
              case rel => exact ⟨k + 1, A5, c5, by omega, by go_num, HS8.out⟩
              case measure => simp [intOf]; omega
            · go_simp
              refine hK.out _ _ (SH.out _ (hS7.keeps.alloc _)) (fun hHeld => ?_)
              clear hK K'
              refine wpAnyH_ready (rs := [1]) (by kernel_rfl) (by simp) (AllReadyH.cons rfl (fun K' hK => ?_) AllReadyH.nil)
              have p1 := p8.out
              go_simp
              refine hK.out _ _ hHeld (fun hHeld => ?_)
              clear hK K' p1
              refine wpAnyH_ready (rs := [16]) (by kernel_rfl) (by simp) (AllReadyH.cons rfl (fun K' hK => ?_) AllReadyH.nil)
              refine step_append_run _ rfl _ _ 30 30 rfl _ _ rfl rfl _ _ hrun5 ?_
              refine hK.out _ _ (SH.out _ hk8) (fun hHeld => ?_)
              clear hK K'
              refine wpAnyH_take (i := 17) (v := ?_) rfl (by kernel_rfl) (by kernel_rfl) (by kernel_rfl) (fun _ _ _ h => h) (Or.inl ⟨by rfl, ?_⟩) hHeld ?_
              rotate_left
              · (intro wz hSw; (try dsimp only at hSw); go_simp; try with_reducible rfl)
              simp only [Act.put, List.getElem_toArray, List.getElem_cons_zero, List.getElem_cons_succ, List.setIfInBounds_toArray, List.set_cons_zero, List.set_cons_succ]
              refine wpAnyH_ready (rs := [18]) (by kernel_rfl) (by simp) (AllReadyH.cons rfl (fun K' hK => ?_) AllReadyH.nil)
              go_simp
              refine hK.out _ _ (SH.out _ HS8.out.keeps) (fun hHeld => ?_)
              clear hK K'
              refine wpAnyH_done (by kernel_rfl) ?_ _
              go_wp2_with fail
              go_roundw
              case rel => exact ⟨k + 1, A5, c5, by omega, by go_num, HS8.out⟩
              case measure => simp [intOf]; omega
      · obtain rfl : k = 67 := by omega
        have hpl := partsF_len (tagB sh) seed u L
        rw [show (partsF (tagB sh) seed u L).take 67 = partsF (tagB sh) seed u L from List.take_of_length_le (by omega)] at hS
        have hG := HGW.out _ hS.below hS.keeps
        obtain ⟨D4, hG4, hle4, hs4, hoff4⟩ := hG.pubN hS.own (Nat.le_refl _) hS.off
        have hds4p : DS D4 (.slice Ap 67 cp) (partsF (tagB sh) seed u L) := ⟨partsF_all hs seed u L, by rw [hpl]; exact hs4⟩
        have hB1 := hS.b1.le (hoff4 _ hS.b1.off (hS.b1.ne_own32 hS.own (by decide)))
        have hB2 := hS.b2.le (hoff4 _ hS.b2.off (hS.b2.ne_own32 hS.own (by decide)))
        have hB8 := hS.b8.le (hoff4 _ hS.b8.off (hS.b8.ne_own32 hS.own (by decide)))
        have hds4 := hds3.le hle4
        have hne8 := hS.ne8
        replace kv0 := hle4 _ _ _ kv0
        replace kv1 := hle4 _ _ _ kv1
        replace kv2 := hle4 _ _ _ kv2
        have hPR : pathR sh (keysF (tagB sh) seed m) (u : Int) = (pathF (tagB sh) (keysF (tagB sh) seed m) u, 0) := by
          unfold pathR
          rw [if_pos ⟨by omega, by rw [keysF_len]; omega⟩]
          simp
        have HPC := Lib.hid (fun W hk => rpathR_c hs A2 m c2 (keysF (tagB sh) seed m) (u : Int) D4 W hk hds4 (by omega))
        rw [hPR] at HPC
        dsimp only at HPC
        have hpl2 : (pathF (tagB sh) (keysF (tagB sh) seed m) u).length = lenF u m := by rw [pathF_len _ m _ _ (keysF_len _ _ _)]
        rw [hpl2] at HPC
        clear hS hs4 hoff4 hG hpl hPR hpl2 hds4
        have q2 := hG4.keeps _ _ _ kv2
        have g1 : ¬ ((67 : Int) < 67) := by omega
        rw [show ((67 : Nat) : Int) = 67 from rfl]
        go_wp2_with fail
        refine (HPC.out _ hG4.keeps).mono ?_
        rintro e w6 ⟨E6, f6, D6, rfl, hG6, hp6⟩
        replace hB1 := hB1.grow hG6
        replace hB2 := hB2.grow hG6
        replace hB8 := hB8.grow hG6
        have hds6 := hds4p.le hG6.le
        have hG7 := hG4.trans hG6
        replace kv0 := hG6.le _ _ _ kv0
        replace kv1 := hG6.le _ _ _ kv1
        replace kv2 := hG6.le _ _ _ kv2
        clear q2 hds4p hG6 hG4 HPC
        generalize hl6 : lenF u m = l6 at *
        have HL6 := Lib.hid hl6
        clear hl6
        have r2 := hB8.cell 2
        have f2 := hB8.frozen 2
        have hG8 : Grow w D (w6.setCell ⟨g8, 2, none⟩ (.slice E6 l6 f6)) D6 := hG7.setNew (p := ⟨_, 2, none⟩) (by show w.heap.size ≤ g8; omega) hB8.off _
        have hB1a : Box (w6.setCell ⟨g8, 2, none⟩ (.slice E6 l6 f6)) D6 (w.heap.size + 1) 45 #[.slice none 0 0, .int .i64 0, .int .i64 0] := hB1.far2 (by omega)
        have hB2a : Box (w6.setCell ⟨g8, 2, none⟩ (.slice E6 l6 f6)) D6 (w.heap.size + 1 + 1) 49 #[.int .i64 0, .slice none 0 0, .slice none 0 0] := hB2.far2 (by omega)
        have hB8a : Box (w6.setCell ⟨g8, 2, none⟩ (.slice E6 l6 f6)) D6 g8 49 #[.int .i64 u, .slice Ap 67 cp, .slice E6 l6 f6] := hB8.set_ 2 _
        have q0 := hG8.keeps _ _ _ kv0
        have q1 := hG8.keeps _ _ _ kv1
        have q2 := hG8.keeps _ _ _ kv2
        have hwr : IntKind.i64.wrap ((u : Int) + 1) = (u : Int) + 1 := by rw [IntKind.wrap_i64]; omega
        have hg11 : g8 < w6.heap.size := hB8.lt
        clear hB1 hB2 hB8 hG7
        go_wp2_with fail
        have hB11 := Box.new2 hG8.keeps (g := w6.heap.size) (by simp) 45 #[.slice A n c, .int .i64 m, .int .i64 ((u : Int) + 1)]
        have hG9 := (hG8.alloc (.cells #[.slice A n c, .int .i64 m, .int .i64 ((u : Int) + 1)] 45)).drew
        have hB11d := hB11.drew
        have hB1d := (hB1a.alloc (.cells #[.slice A n c, .int .i64 m, .int .i64 ((u : Int) + 1)] 45)).drew
        have hB2d := (hB2a.alloc (.cells #[.slice A n c, .int .i64 m, .int .i64 ((u : Int) + 1)] 45)).drew
        have hB8d := (hB8a.alloc (.cells #[.slice A n c, .int .i64 m, .int .i64 ((u : Int) + 1)] 45)).drew
        clear hB11 hG8 hB1a hB2a hB8a q0 q1 q2 r2 f2 hwr
        generalize w6.heap.size = g11 at *
        have SH : Hid (∀ W D', Box W D' g11 45 #[.slice A n c, .int .i64 m, .int .i64 ((u : Int) + 1)] → Box W D' g8 49 #[.int .i64 u, .slice Ap 67 cp, .slice E6 l6 f6] → (W.cell? ⟨g11, 0, none⟩ = some (.slice A n c) ∧ W.cell? ⟨g11, 1, none⟩ = some (.int .i64 m) ∧ W.cell? ⟨g11, 2, none⟩ = some (.int .i64 ((u : Int) + 1)) ∧ W.cell? ⟨g8, 0, none⟩ = some (.int .i64 u) ∧ W.cell? ⟨g8, 1, none⟩ = some (.slice Ap 67 cp) ∧ W.cell? ⟨g8, 2, none⟩ = some (.slice E6 l6 f6))) := fun W D' a b => ⟨a.cell 0, a.cell 1, a.cell 2, b.cell 0, b.cell 1, b.cell 2⟩
        refine wp_region_held_drew (S := fun W => W.cell? ⟨g11, 0, none⟩ = some (.slice A n c) ∧ W.cell? ⟨g11, 1, none⟩ = some (.int .i64 m) ∧ W.cell? ⟨g11, 2, none⟩ = some (.int .i64 ((u : Int) + 1)) ∧ W.cell? ⟨g8, 0, none⟩ = some (.int .i64 u) ∧ W.cell? ⟨g8, 1, none⟩ = some (.slice Ap 67 cp) ∧ W.cell? ⟨g8, 2, none⟩ = some (.slice E6 l6 f6)) (by kernel_rfl) (SH.out _ _ hB11d hB8d) (fun hHeld => ?_)
        generalize World.drew _ = W7 at *
        refine wpAnyH_take (i := 0) (v := ?_) rfl (by kernel_rfl) (by kernel_rfl) (by kernel_rfl) (fun _ _ _ h => h) (Or.inl ⟨by rfl, ?_⟩) hHeld ?_
        rotate_left
        · (intro wz hSw; (try dsimp only at hSw); go_simp; try with_reducible rfl)
        simp only [Act.put, List.getElem_toArray, List.getElem_cons_zero, List.setIfInBounds_toArray, List.set_cons_zero, List.set_cons_succ]
        refine wpAnyH_take (i := 1) (v := ?_) rfl (by kernel_rfl) (by kernel_rfl) (by kernel_rfl) (fun _ _ _ h => h) (Or.inl ⟨by rfl, ?_⟩) hHeld ?_
        rotate_left
        · (intro wz hSw; (try dsimp only at hSw); go_simp; try with_reducible rfl)
        simp only [Act.put, List.getElem_toArray, List.getElem_cons_zero, List.getElem_cons_succ, List.setIfInBounds_toArray, List.set_cons_zero, List.set_cons_succ]
        have q1 := hB1d.cell
        have f1 := hB1d.frozen
        refine wpAnyH_ready (rs := [2]) (by kernel_rfl) (by simp) (AllReadyH.cons rfl (fun K' hK => ?_) AllReadyH.nil)
        go_simp
        have hB1f : Box (((W7.setCell ⟨w.heap.size + 1, 0, none⟩ (.slice A n c)).setCell ⟨w.heap.size + 1, 1, none⟩ (.int .i64 m)).setCell ⟨w.heap.size + 1, 2, none⟩ (.int .i64 ((u : Int) + 1))) D6 (w.heap.size + 1) 45 #[.slice A n c, .int .i64 m, .int .i64 ((u : Int) + 1)] := ((hB1d.set_ 0 (.slice A n c)).set_ 1 (.int .i64 m)).set_ 2 (.int .i64 ((u : Int) + 1))
        have n2 : w.heap.size + 1 + 1 ≠ w.heap.size + 1 := by omega
        have n8 : g8 ≠ w.heap.size + 1 := by omega
        have n11 : g11 ≠ w.heap.size + 1 := by omega
        have hB2f : Box (((W7.setCell ⟨w.heap.size + 1, 0, none⟩ (.slice A n c)).setCell ⟨w.heap.size + 1, 1, none⟩ (.int .i64 m)).setCell ⟨w.heap.size + 1, 2, none⟩ (.int .i64 ((u : Int) + 1))) D6 (w.heap.size + 1 + 1) 49 #[.int .i64 0, .slice none 0 0, .slice none 0 0] := ((hB2d.far2 n2).far2 n2).far2 n2
        have hB8f : Box (((W7.setCell ⟨w.heap.size + 1, 0, none⟩ (.slice A n c)).setCell ⟨w.heap.size + 1, 1, none⟩ (.int .i64 m)).setCell ⟨w.heap.size + 1, 2, none⟩ (.int .i64 ((u : Int) + 1))) D6 g8 49 #[.int .i64 u, .slice Ap 67 cp, .slice E6 l6 f6] := ((hB8d.far2 n8).far2 n8).far2 n8
        have hB11f : Box (((W7.setCell ⟨w.heap.size + 1, 0, none⟩ (.slice A n c)).setCell ⟨w.heap.size + 1, 1, none⟩ (.int .i64 m)).setCell ⟨w.heap.size + 1, 2, none⟩ (.int .i64 ((u : Int) + 1))) D6 g11 45 #[.slice A n c, .int .i64 m, .int .i64 ((u : Int) + 1)] := ((hB11d.far2 n11).far2 n11).far2 n11
        have m1 : w.heap.size ≤ w.heap.size + 1 := by omega
        have m2 : w.heap.size ≤ w.heap.size + 1 + 1 := by omega
        have hGf : Grow w D (((W7.setCell ⟨w.heap.size + 1, 0, none⟩ (.slice A n c)).setCell ⟨w.heap.size + 1, 1, none⟩ (.int .i64 m)).setCell ⟨w.heap.size + 1, 2, none⟩ (.int .i64 ((u : Int) + 1))) D6 := ((hG9.setNew (p := ⟨_, 0, none⟩) m1 hB1d.off _).setNew (p := ⟨_, 1, none⟩) m1 hB1d.off _).setNew (p := ⟨_, 2, none⟩) m1 hB1d.off _
        clear q1 f1 hB1d hB2d hB8d hB11d hG9
        refine hK.out _ _ (SH.out _ _ hB11f hB8f) (fun hHeld => ?_)
        clear hK K'
        generalize ((W7.setCell ⟨w.heap.size + 1, 0, none⟩ (.slice A n c)).setCell ⟨w.heap.size + 1, 1, none⟩ (.int .i64 m)).setCell ⟨w.heap.size + 1, 2, none⟩ (.int .i64 ((u : Int) + 1)) = W8 at *
        have q2 := hB2f.cell
        have f2 := hB2f.frozen
        refine wpAnyH_ready (rs := [3]) (by kernel_rfl) (by simp) (AllReadyH.cons rfl (fun K' hK => ?_) AllReadyH.nil)
        go_simp
        have k1 : w.heap.size + 1 ≠ w.heap.size + 1 + 1 := by omega
        have k8 : g8 ≠ w.heap.size + 1 + 1 := by omega
        have k11 : g11 ≠ w.heap.size + 1 + 1 := by omega
        have hB2g : Box (((W8.setCell ⟨w.heap.size + 1 + 1, 0, none⟩ (.int .i64 u)).setCell ⟨w.heap.size + 1 + 1, 1, none⟩ (.slice Ap 67 cp)).setCell ⟨w.heap.size + 1 + 1, 2, none⟩ (.slice E6 l6 f6)) D6 (w.heap.size + 1 + 1) 49 #[.int .i64 u, .slice Ap 67 cp, .slice E6 l6 f6] := ((hB2f.set_ 0 _).set_ 1 _).set_ 2 _
        have hB1g : Box (((W8.setCell ⟨w.heap.size + 1 + 1, 0, none⟩ (.int .i64 u)).setCell ⟨w.heap.size + 1 + 1, 1, none⟩ (.slice Ap 67 cp)).setCell ⟨w.heap.size + 1 + 1, 2, none⟩ (.slice E6 l6 f6)) D6 (w.heap.size + 1) 45 #[.slice A n c, .int .i64 m, .int .i64 ((u : Int) + 1)] := ((hB1f.far2 k1).far2 k1).far2 k1
        have hB8g : Box (((W8.setCell ⟨w.heap.size + 1 + 1, 0, none⟩ (.int .i64 u)).setCell ⟨w.heap.size + 1 + 1, 1, none⟩ (.slice Ap 67 cp)).setCell ⟨w.heap.size + 1 + 1, 2, none⟩ (.slice E6 l6 f6)) D6 g8 49 #[.int .i64 u, .slice Ap 67 cp, .slice E6 l6 f6] := ((hB8f.far2 k8).far2 k8).far2 k8
        have hB11g : Box (((W8.setCell ⟨w.heap.size + 1 + 1, 0, none⟩ (.int .i64 u)).setCell ⟨w.heap.size + 1 + 1, 1, none⟩ (.slice Ap 67 cp)).setCell ⟨w.heap.size + 1 + 1, 2, none⟩ (.slice E6 l6 f6)) D6 g11 45 #[.slice A n c, .int .i64 m, .int .i64 ((u : Int) + 1)] := ((hB11f.far2 k11).far2 k11).far2 k11
        have hGg : Grow w D (((W8.setCell ⟨w.heap.size + 1 + 1, 0, none⟩ (.int .i64 u)).setCell ⟨w.heap.size + 1 + 1, 1, none⟩ (.slice Ap 67 cp)).setCell ⟨w.heap.size + 1 + 1, 2, none⟩ (.slice E6 l6 f6)) D6 := ((hGf.setNew (p := ⟨_, 0, none⟩) m2 hB2f.off _).setNew (p := ⟨_, 1, none⟩) m2 hB2f.off _).setNew (p := ⟨_, 2, none⟩) m2 hB2f.off _
        clear q2 f2 hB2f hB1f hB8f hB11f hGf
        refine hK.out _ _ (SH.out _ _ hB11g hB8g) (fun hHeld => ?_)
        clear hK K'
        generalize ((W8.setCell ⟨w.heap.size + 1 + 1, 0, none⟩ (.int .i64 u)).setCell ⟨w.heap.size + 1 + 1, 1, none⟩ (.slice Ap 67 cp)).setCell ⟨w.heap.size + 1 + 1, 2, none⟩ (.slice E6 l6 f6) = W9' at *
        refine wpAnyH_ready (rs := [4]) (by kernel_rfl) (by simp) (AllReadyH.cons rfl (fun K' hK => ?_) AllReadyH.nil)
        go_simp
        refine hK.out _ _ hHeld (fun hHeld => ?_)
        clear hK K'
        refine wpAnyH_done (by kernel_rfl) ?_ _
        have c1 := hB1g.cell
        have c2' := hB2g.cell
        have hAg := hA.le hGg.le
        clear SH hHeld
        go_wp2_with fail
        obtain rfl := HLL.out
        obtain rfl := HL6.out
        exact bodyPost_ret (v := .tuple #[keyV A n c m ((u : Int) + 1), sigV u Ap 67 cp E6 (lenF u m) f6, .int .i64 0]) (by simp [results, Tryd.results34, go_sem, c1, c2']) rfl ⟨A, c, Ap, cp, E6, f6, D6, rfl, hGg, hAg, hds6, hp6⟩
end Go.Proofs.YtohknemfcohhfaaDoor
