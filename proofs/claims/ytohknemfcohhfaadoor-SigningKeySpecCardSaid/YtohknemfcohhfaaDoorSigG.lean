/-
  What is proved here: Sign: the signature that a key makes.
-/
import Derived.Test.YtohknemfcohhfaaDoorRows
import Derived.Test.YtohknemfcohhfaaDoorBaseC
import Derived.Test.YtohknemfcohhfaaDoorSha
import Derived.Test.YtohknemfcohhfaaDoorDigA
import Derived.Test.YtohknemfcohhfaaDoorDigC
import Derived.Test.YtohknemfcohhfaaDoorDigD
import Derived.Test.YtohknemfcohhfaaDoorDigE
import Derived.Test.YtohknemfcohhfaaDoorDigF
import Derived.Test.YtohknemfcohhfaaDoorDigG
import Derived.Test.YtohknemfcohhfaaDoorDigH
import Derived.Test.YtohknemfcohhfaaDoorDigI
import Derived.Test.YtohknemfcohhfaaDoorDigJ
import Derived.Test.YtohknemfcohhfaaDoorDigK
import Derived.Test.YtohknemfcohhfaaDoorDigL
import Derived.Test.YtohknemfcohhfaaDoorDigM
import Derived.Test.YtohknemfcohhfaaDoorDigN
import Derived.Test.YtohknemfcohhfaaDoorDigO
import Derived.Test.YtohknemfcohhfaaDoorDigP
import Derived.Test.YtohknemfcohhfaaDoorDigQ
import Derived.Test.YtohknemfcohhfaaDoorDigR
import Derived.Test.YtohknemfcohhfaaDoorDigS
import Derived.Test.YtohknemfcohhfaaDoorDigT
import Derived.Test.YtohknemfcohhfaaDoorLawTags
import Derived.Test.YtohknemfcohhfaaDoorSigA
import Derived.Test.YtohknemfcohhfaaDoorSigB
import Derived.Test.YtohknemfcohhfaaDoorSigC
import Derived.Test.YtohknemfcohhfaaDoorSigD
import Derived.Test.YtohknemfcohhfaaDoorSigE
import Derived.Test.YtohknemfcohhfaaDoorSigP
import Derived.Test.YtohknemfcohhfaaDoorSigF
import Derived.Test.YtohknemfcohhfaaDoorTree
import Derived.Test.YtohknemfcohhfaaDoorSign
import Derived.Test.YtohknemfcohhfaaDoorShelf
import Derived.Lib.ConvBytes
import Derived.StillTailTactics
import Derived.Lib.AppendZerosOnto
import Derived.Deep.RegionHeld3
import Derived.Stop.BytesEq
import Derived.Great.BuildSlice
import Derived.Deep.MidRow
import Derived.Deep.RegionLaw
import Derived.Deep.DeepCutAuto
import Derived.Deep.QuietTactic
import Derived.BigQuiet
import Derived.Laws.EntriesVeiled
namespace Go.Proofs.YtohknemfcohhfaaDoor
open Go.RowKit Go.VS
theorem _root_.Go.VS.Box.ne_own32 {w : World} {D : Gh} {g : Nat} {t : TypeId} {cs : Array Value} {base : Nat} {e : TypeId} {n s : Nat} {v : Value} {xs : List Value} (hB : Box w D g t cs) (h : w.ownsRow base e s v n xs) (hne : t ≠ e) : v.ownBlock ≠ some g := by
  intro ev
  rcases h.2 with ⟨rfl, _⟩ | ⟨g', cap, cur, rfl, _, hh, _⟩
  · cases ev
  · have : g' = g := by simpa [Value.ownBlock] using ev
    subst this
    have := hB.heap.symm.trans hh
    injection this with this
    injection this with _ ht
    exact hne ht
theorem own_farN {w : World} {base : Nat} {e : TypeId} {v : Value} {n s b o : Nat} {xs : List Value} (h : w.ownsRow base e s v n xs) (hp : v.ownBlock ≠ some b) (u : Value) : (w.setCell ⟨b, o, none⟩ u).ownsRow base e s v n xs := by
  refine ⟨h.1, ?_⟩
  rcases h.2 with hn | ⟨g, cap, cur, rfl, hg, hh, r⟩
  · exact .inl hn
  · refine .inr ⟨g, cap, cur, rfl, hg, ?_, r⟩
    rw [Below.heap_setCell _ _ _ _ (by simpa [Value.ownBlock] using hp)]; exact hh
theorem app_row {wr : World} {base : Nat} {D : Gh} {v : Value} {n : Nat} {xs : List (List UInt8)} (r : List UInt8) (hr : r.length = 32) (hown : wr.ownsRow base 26 32 v n (flat xs)) (hk : Keeps D wr) (hoff : ∀ g, v.ownBlock = some g → D.off g) (hbase : base ≤ wr.heap.size) (hn : n ≤ 100000) :
    ∃ A' cap' w', (Builtin.append_ #[30, 30] 30 #[v, .slice (some ⟨wr.heap.size, 0, none⟩) 1 1]).run Tryd.prog (wr.alloc (.cells (darr r) 26)) = .ok (.slice A' (n + 1) cap') w' ∧ w'.ownsRow base 26 32 (.slice A' (n + 1) cap') (n + 1) (flat (xs ++ [r])) ∧ (wr.alloc (.cells (darr r) 26)).grownBy w' v.ownBlock ∧ Keeps D w' ∧ (∀ g, (Value.slice A' (n + 1) cap').ownBlock = some g → D.off g) := by
  obtain ⟨D1, hk1, hs1⟩ := one_ds (Box.new2 hk rfl 26 (darr r)) hr
  obtain ⟨A', cap', w', hrun, hown', hg, hob⟩ := run_append_dg (wr.alloc (.cells (darr r) 26)) (hown.alloc (.cells (darr r) 26)) D1 hk1 _ 1 1 [r] hs1 (by omega) (by simp; omega)
  refine ⟨A', cap', w', hrun, by rw [flat_append]; exact hown', hg, (hk.alloc _).grown hg hoff, fun g hg' => ?_⟩
  rcases hob with h | h
  · exact hoff g (h.symm.trans hg')
  · have := h.symm.trans hg'
    injection this with this
    subst this
    exact hk.offNew (by simp)
theorem partsF_take (T : List UInt8 → List UInt8 → List UInt8) (seed : List UInt8) (u : Int) (l : List Int) (k : Nat) (h : k < 67) : (partsF T seed u l).take (k + 1) = (partsF T seed u l).take k ++ [valF T seed u k (l.getD k 0)] := by
  rw [List.take_add_one]
  unfold partsF
  rw [List.getElem?_map, List.getElem?_range h]
  rfl
theorem partsF_all {sh : List UInt8 → List UInt8} (hs : Sh sh) (seed : List UInt8) (u : Int) (l : List Int) : ∀ d ∈ partsF (tagB sh) seed u l, d.length = 32 := by
  intro d hd
  unfold partsF at hd
  rw [List.mem_map] at hd
  obtain ⟨i, _, rfl⟩ := hd
  exact adv_len hs _ _ _ _ _ (hs.len _)
/-- what stands in Sign's loop. -/
structure SgI (D : Gh) (w : World) (kv : Array Value) (u : Int) (sd : Array Value) (g8 : Nat) (Ap : Option Addr) (k cp : Nat) (xs : List (List UInt8)) (W : World) : Prop where
  keeps : Keeps D W
  below : Below w.heap.size w W
  b0 : Box W D w.heap.size 45 kv
  b1 : Box W D (w.heap.size + 1) 45 #[.slice none 0 0, .int .i64 0, .int .i64 0]
  b2 : Box W D (w.heap.size + 1 + 1) 49 #[.int .i64 u, .slice Ap k cp, .slice none 0 0]
  b8 : Box W D g8 81 sd
  own : W.ownsRow w.heap.size 26 32 (.slice Ap k cp) k (flat xs)
  off : ∀ g, (Value.slice Ap k cp).ownBlock = some g → D.off g
theorem SgI.drew {D : Gh} {w : World} {kv sd : Array Value} {u : Int} {g8 k cp : Nat} {Ap : Option Addr} {xs : List (List UInt8)} {W : World} (h : SgI D w kv u sd g8 Ap k cp xs W) : SgI D w kv u sd g8 Ap k cp xs W.drew := ⟨h.keeps.drew, h.below.drew, h.b0.drew, h.b1.drew, h.b2.drew, h.b8.drew, h.own.drew, h.off⟩
theorem SgI.call {D : Gh} {w : World} {kv sd : Array Value} {u : Int} {g8 k cp : Nat} {Ap : Option Addr} {xs : List (List UInt8)} {W W' : World} (h : SgI D w kv u sd g8 Ap k cp xs W) (hb : Below W.heap.size W W') : SgI D w kv u sd g8 Ap k cp xs W' := ⟨h.keeps.below hb (Nat.le_refl _), belowVia hb h.below, h.b0.below hb h.b0.lt, h.b1.below hb h.b1.lt, h.b2.below hb h.b2.lt, h.b8.below hb h.b8.lt, own_belowN h.own hb, h.off⟩
/-- one part more. -/
theorem SgI.step {D : Gh} {w : World} {kv sd : Array Value} {u : Int} {g8 k cp : Nat} {Ap : Option Addr} {xs : List (List UInt8)} {W : World} (h : SgI D w kv u sd g8 Ap k cp xs W) (hk : k ≤ 100) (r : List UInt8) (hr : r.length = 32) :
    ∃ A' cap' w', (Builtin.append_ #[30, 30] 30 #[.slice Ap k cp, .slice (some ⟨W.heap.size, 0, none⟩) 1 1]).run Tryd.prog (W.alloc (.cells (darr r) 26)) = .ok (.slice A' (k + 1) cap') w' ∧ w'.cell? ⟨w.heap.size + 1 + 1, 1, none⟩ = some (.slice Ap k cp) ∧ w'.frozen? ⟨w.heap.size + 1 + 1, 1, none⟩ = false ∧
      SgI D w kv u sd g8 A' (k + 1) cap' (xs ++ [r]) (w'.setCell ⟨w.heap.size + 1 + 1, 1, none⟩ (.slice A' (k + 1) cap')) := by
  obtain ⟨A', cap', w', hrun, hown', hg, hk', hoff'⟩ := app_row r hr h.own h.keeps h.off h.below.size (by omega)
  have hbel0 : Below w.heap.size w (W.alloc (.cells (darr r) 26)) := belowAlloc h.below _
  have n0 : some w.heap.size ≠ (Value.slice Ap k cp).ownBlock := fun e => h.b0.ne_own32 h.own (by decide) e.symm
  have n1 : some (w.heap.size + 1) ≠ (Value.slice Ap k cp).ownBlock := fun e => h.b1.ne_own32 h.own (by decide) e.symm
  have n2 : some (w.heap.size + 1 + 1) ≠ (Value.slice Ap k cp).ownBlock := fun e => h.b2.ne_own32 h.own (by decide) e.symm
  have n8 : some g8 ≠ (Value.slice Ap k cp).ownBlock := fun e => h.b8.ne_own32 h.own (by decide) e.symm
  have b0 := (h.b0.alloc (.cells (darr r) 26)).grown hg n0
  have b1 := (h.b1.alloc (.cells (darr r) 26)).grown hg n1
  have b2 := (h.b2.alloc (.cells (darr r) 26)).grown hg n2
  have b8 := (h.b8.alloc (.cells (darr r) 26)).grown hg n8
  have hbel' : Below w.heap.size w w' := hbel0.grown hg hbel0.size (fun g e => (h.own.lt g e).1)
  refine ⟨A', cap', w', hrun, b2.cell 1, b2.frozen 1, ⟨hk'.setCell (p := ⟨_, 1, none⟩) b2.off _, (by repeat (first | (with_reducible exact Below.refl _ _) | (with_reducible refine Below.drew ?_) | (with_reducible refine belowDrewN ?_ _) | (with_reducible refine belowAlloc ?_ _) | ((with_reducible refine belowSet2 ?_ ?_); omega) | (with_reducible assumption) | (with_reducible refine belowVia (by assumption) ?_) | (with_reducible refine belowVia (Grow.below (by assumption)) ?_))), b0.far2 (by omega), b1.far2 (by omega), b2.set_ 1 _, b8.far2 ?_, own_farN hown' (b2.ne_own32 hown' (by decide)) _, hoff'⟩⟩
  exact fun e => (b8.ne b2 (by decide)) (by omega)
/-- the digits that are signed. -/
def sigD (sh : List UInt8 → List UInt8) (seed : List UInt8) (m u : Nat) (msg : List UInt8) : List Int := digF (hashF (tagB sh) (treeF (tagB sh) (keysF (tagB sh) seed m)) u msg)
set_option maxRecDepth 100000 in
set_option maxHeartbeats 1000000 in
theorem sign_ok {sh : List UInt8 → List UInt8} (hs : Sh sh) (A : Option Addr) (n c : Nat) (seed : List UInt8) (m u : Nat) (B : Option Addr) (b d : Nat) (msg : List UInt8) (hb : b ≤ 65536) (D : Gh) (w : World) (hk : Keeps D w) (hT : Tab D) (hA : BS D (.slice A n c) seed) (hB : BS D (.slice B b d) msg) (hv : validF n m u = true) (hu : u < m) :
    Calls Tryd.prog 33 #[keyV A n c m u, .slice B b d] w fun x w' => ∃ A' c' P' d' E' f' D', x = .returned (.tuple #[keyV A' n c' m ((u : Int) + 1), sigV u P' 67 d' E' (lenF u m) f', .int .i64 0]) ∧ Grow w D w' D' ∧ BS D' (.slice A' n c') seed ∧ DS D' (.slice P' 67 d') (partsF (tagB sh) seed u (sigD sh seed m u msg)) ∧ DS D' (.slice E' (lenF u m) f') (pathF (tagB sh) (keysF (tagB sh) seed m) u) := by
  have hvv := of_decide_eq_true hv
  obtain ⟨h1, h2, h3, h4, h5, h6⟩ := hvv
  have HV := Lib.hid hv
  clear hv
  have HVC := Lib.hid (fun W => valid_c A n c (by unfold maxLen; omega) m u W)
  have hB0 := ((Box.new2 hk rfl 45 #[.slice A n c, .int .i64 m, .int .i64 u]).alloc (.cells #[.slice none 0 0, .int .i64 0, .int .i64 0] 45)).alloc (.cells #[.int .i64 0, .slice none 0 0, .slice none 0 0] 49)
  have hB1 := (Box.new2 (hk.alloc (.cells #[.slice A n c, .int .i64 m, .int .i64 u] 45)) (g := w.heap.size + 1) (by simp) 45 #[.slice none 0 0, .int .i64 0, .int .i64 0]).alloc (.cells #[.int .i64 0, .slice none 0 0, .slice none 0 0] 49)
  have hB2 := Box.new2 ((hk.alloc (.cells #[.slice A n c, .int .i64 m, .int .i64 u] 45)).alloc (.cells #[.slice none 0 0, .int .i64 0, .int .i64 0] 45)) (g := w.heap.size + 1 + 1) (by simp) 49 #[.int .i64 0, .slice none 0 0, .slice none 0 0]
  have hG0 : Grow w D (((w.alloc (.cells #[.slice A n c, .int .i64 m, .int .i64 u] 45)).alloc (.cells #[.slice none 0 0, .int .i64 0, .int .i64 0] 45)).alloc (.cells #[.int .i64 0, .slice none 0 0, .slice none 0 0] 49)) D := (((Grow.refl hk).alloc _).alloc _).alloc _
  go_enter Tryd.func33, Tryd.ntmps33
  go_wp2_with fail
  generalize ((w.alloc (.cells #[.slice A n c, .int .i64 m, .int .i64 u] 45)).alloc (.cells #[.slice none 0 0, .int .i64 0, .int .i64 0] 45)).alloc (.cells #[.int .i64 0, .slice none 0 0, .slice none 0 0] 49) = W at *
  refine (HVC.out _).mono ?_
  rintro e w1 ⟨rfl, hb1⟩
  rw [HV.out]
  replace hB0 := hB0.below hb1 hB0.lt
  replace hB1 := hB1.below hb1 hB1.lt
  replace hB2 := hB2.below hb1 hB2.lt
  have hG1 := hG0.trans (Grow.of_below hG0.keeps hb1)
  clear hb1 hG0 HVC HV W
  have q0 := hB0.cell 0
  have q1 := hB0.cell 1
  have q2 := hB0.cell 2
  have g2 : ¬ ((65536 : Int) < (b : Int)) := by omega
  have g3 : ((u : Int) == (m : Int)) = false := by simp; omega
  have g3' : ¬ (u = m) := by omega
  go_wp2_with fail
  refine (publics_c hs A n c seed (by omega) m (by omega) u D w1 hG1.keeps hT hA).mono ?_
  rintro e w2 ⟨A2, c2, D2, rfl, hG2, hds⟩
  replace hB0 := hB0.grow hG2
  replace hB1 := hB1.grow hG2
  replace hB2 := hB2.grow hG2
  have hG3 := hG1.trans hG2
  clear q0 q1 q2 hG1 hG2
  have q0 := hB0.cell 0
  have q1 := hB0.cell 1
  have q2 := hB0.cell 2
  have r0 := hB2.cell 0
  have f0 := hB2.frozen 0
  go_wp2_with fail
  have hS0 : SgI D2 w #[.slice A n c, .int .i64 m, .int .i64 u] u #[.slice A n c, .int .i64 u] w2.heap.size none 0 0 [] ((w2.setCell ⟨w.heap.size + 1 + 1, 0, none⟩ (.int .i64 u)).alloc (.cells #[.slice A n c, .int .i64 u] 81)) := by
    have hne0 : w.heap.size ≠ w.heap.size + 1 + 1 := by omega
    have hne1 : w.heap.size + 1 ≠ w.heap.size + 1 + 1 := by omega
    have hk2 : Keeps D2 (w2.setCell ⟨w.heap.size + 1 + 1, 0, none⟩ (.int .i64 u)) := hG3.keeps.setCell (p := ⟨_, 0, none⟩) hB2.off _
    refine ⟨hk2.alloc _, belowAlloc (hG3.below.setCell (p := ⟨_, 0, none⟩) (by show w.heap.size ≤ w.heap.size + 1 + 1; omega) _) _, (hB0.far2 hne0).alloc _, (hB1.far2 hne1).alloc _, (hB2.set_ 0 _).alloc _, Box.new2 hk2 (by simp) 81 _, World.ownsRow_nil _ _ _ _, by simp [Value.ownBlock]⟩
  have hle3 := hG3.le
  have hold3 := hG3.old
  have hT2 := hT.le hle3
  clear q0 q1 q2 r0 f0 hB0 hB1 hB2
  generalize w2.heap.size = g8 at *
  generalize (w2.setCell ⟨w.heap.size + 1 + 1, 0, none⟩ (.int .i64 u)).alloc (.cells #[.slice A n c, .int .i64 u] 81) = W9 at *
  clear hG3
  have hS0d := hS0.drew
  have HTC := Lib.hid (fun W hk => tree_c hs _ _ _ _ D2 W hk hT2 hds (by omega))
  have hr32 := Lib.hid (treeF_len hs (keysF (tagB sh) seed m))
  have HHC := Lib.hid (fun W hk => hash_c hs _ hr32.out u B b d msg hb D2 W hk hT2 (hB.le hle3))
  have hh32 := Lib.hid (show (hashF (tagB sh) (treeF (tagB sh) (keysF (tagB sh) seed m)) u msg).length = 32 from hs.len _)
  have HDC := Lib.hid (fun W hk => digits_c _ hh32.out D2 W hk)
  have hL67 := Lib.hid (digF_len _ hh32.out)
  have HDR := Lib.hid (fun k hk => digF_range _ hh32.out k hk)
  change Hid (∀ W, Keeps D2 W → Calls Tryd.prog 67 _ W fun e w' => e = .returned (.agg (lI (sigD sh seed m u msg))) ∧ _) at HDC
  change Hid ((sigD sh seed m u msg).length = 67) at hL67
  change Hid (∀ k, k < 67 → 0 ≤ (sigD sh seed m u msg).getD k 0 ∧ (sigD sh seed m u msg).getD k 0 ≤ 15) at HDR
  generalize hL : sigD sh seed m u msg = L at *
  have HLL := Lib.hid hL
  clear hL
  generalize hashF (tagB sh) (treeF (tagB sh) (keysF (tagB sh) seed m)) u msg = hh at *
  generalize treeF (tagB sh) (keysF (tagB sh) seed m) = tr at *
  rw [dg_darr tr hr32.out] at HTC HHC
  rw [dg_darr hh hh32.out] at HHC HDC
  refine wp_region_held_drew (S := fun W => W.cell? ⟨w.heap.size, 2, none⟩ = some (.int .i64 u)) (by kernel_rfl) (hS0d.b0.cell 2) (fun hHeld => ?_)
  refine wpAnyH_take (i := 0) (v := ?_) rfl (by kernel_rfl) (by kernel_rfl) (by kernel_rfl) (fun _ _ _ h => h) (Or.inl ⟨by rfl, ?_⟩) hHeld ?_
  rotate_left
  · (intro wz hSw; (try dsimp only at hSw); go_simp; try with_reducible rfl)
  simp only [Act.put, List.getElem_toArray, List.getElem_cons_zero, List.setIfInBounds_toArray, List.set_cons_zero, List.set_cons_succ]
  refine wpAnyH_take (i := 2) (v := ?_) rfl (by kernel_rfl) (by kernel_rfl) (by kernel_rfl) (fun _ _ _ h => h) (Or.inl ⟨by rfl, ?_⟩) hHeld ?_
  rotate_left
  · (intro wz hSw; (try dsimp only at hSw); go_simp; try with_reducible rfl)
  simp only [Act.put, List.getElem_toArray, List.getElem_cons_zero, List.getElem_cons_succ, List.setIfInBounds_toArray, List.set_cons_zero, List.set_cons_succ]
  refine wpAnyH_take (i := 3) (v := ?_) rfl (by kernel_rfl) (by kernel_rfl) (by kernel_rfl) (fun _ _ _ h => h) (Or.inl ⟨by rfl, ?_⟩) hHeld ?_
  rotate_left
  · (intro wz hSw; (try dsimp only at hSw); go_simp; try with_reducible rfl)
  simp only [Act.put, List.getElem_toArray, List.getElem_cons_zero, List.getElem_cons_succ, List.setIfInBounds_toArray, List.set_cons_zero, List.set_cons_succ]
  refine wpAnyH_take (i := 4) (v := ?_) rfl (by kernel_rfl) (by kernel_rfl) (by kernel_rfl) (fun _ _ _ h => h) (Or.inl ⟨by rfl, ?_⟩) hHeld ?_
  rotate_left
  · (intro wz hSw; (try dsimp only at hSw); go_simp; try with_reducible rfl)
  simp only [Act.put, List.getElem_toArray, List.getElem_cons_zero, List.getElem_cons_succ, List.setIfInBounds_toArray, List.set_cons_zero, List.set_cons_succ]
  refine wpAnyH_take (i := 7) (v := ?_) rfl (by kernel_rfl) (by kernel_rfl) (by kernel_rfl) (fun _ _ _ h => h) (Or.inl ⟨by rfl, ?_⟩) hHeld ?_
  rotate_left
  · (intro wz hSw; (try dsimp only at hSw); go_simp; try with_reducible rfl)
  simp only [Act.put, List.getElem_toArray, List.getElem_cons_zero, List.getElem_cons_succ, List.setIfInBounds_toArray, List.set_cons_zero, List.set_cons_succ]
  refine wpAnyH_ready (rs := [1]) (by kernel_rfl) (by simp) (AllReadyH.cons rfl (fun K' hK => ?_) AllReadyH.nil)
  go_simp
  go_wp2_with ((go_at_call 23; refine (HTC.out _ hS0d.keeps).mono ?_; rintro e w3 ⟨rfl, hb3⟩))
  have hS1 := hS0d.call hb3
  refine hK.out _ _ (hS1.b0.cell 2) (fun hHeld => ?_)
  clear hK K'
  refine wpAnyH_ready (rs := [5]) (by kernel_rfl) (by simp) (AllReadyH.cons rfl (fun K' hK => ?_) AllReadyH.nil)
  go_simp
  go_wp2_with ((go_at_call 68; refine (HHC.out _ hS1.keeps).mono ?_; rintro e w4 ⟨rfl, hb4⟩))
  have hS2 := hS1.call hb4
  refine hK.out _ _ (hS2.b0.cell 2) (fun hHeld => ?_)
  clear hK K'
  refine wpAnyH_ready (rs := [6]) (by kernel_rfl) (by simp) (AllReadyH.cons rfl (fun K' hK => ?_) AllReadyH.nil)
  go_simp
  go_wp2_with ((go_at_call 67; refine (HDC.out _ hS2.keeps).mono ?_; rintro e w5 ⟨rfl, hb5⟩))
  have hS3 := hS2.call hb5
  refine hK.out _ _ (hS3.b0.cell 2) (fun hHeld => ?_)
  clear hK K'
  refine wpAnyH_done (by kernel_rfl) ?_ _
  clear hHeld hS0 hS0d hS1 hS2 hb3 hb4 hb5 HTC HHC HDC
  go_wp2_with fail
  clear hh32 hr32
  have HIX := Lib.hid (fun (k : Nat) (hk : k < 67) (W : World) => run_index_agg (P := Tryd.prog) (t := 82) Tryd.underlying82 (by kernel_rfl) ⟨.i64, Tryd.underlying3⟩ (lI L) k hk (.int .i64 (L.getD k 0)) (lI_at L k (L.getD k 0) (by rw [List.getD_eq_getElem?_getD, List.getElem?_eq_getElem (by rw [hL67.out]; exact hk)]; rfl)) W)
  go_loopw [45] (fun y wr => ∃ (k : Nat) (Ap : Option Addr) (cp : Nat), k ≤ 67 ∧ y = .int .i64 k ∧ SgI D2 w #[.slice A n c, .int .i64 m, .int .i64 u] u #[.slice A n c, .int .i64 u] g8 Ap k cp ((partsF (tagB sh) seed u L).take k) wr) (fun y _ => 67 - (intOf y).toNat)
  case atStart => exact ⟨0, none, 0, by omega, rfl, by rw [List.take_zero]; exact hS3⟩
  case round =>
    clear hS3
    obtain ⟨k, Ap, cp, hk67, rfl, hS⟩ := hrel
    by_cases hlt : k < 67
    · have g1 : (k : Int) < 67 := by omega
      have hix := HIX.out k hlt
      have hdr := HDR.out k hlt
      have HTK := Lib.hid (partsF_take (tagB sh) seed u L k hlt)
      generalize L.getD k 0 = x at *
      have hd0 := hdr.1
      have hd15 := hdr.2
      have HVL := Lib.hid (fun W hk => value_c hs A n c seed (by omega) u k x hd0 (by omega) D2 W hk hT2 (hA.le hle3))
      have hv32 := Lib.hid (show (valF (tagB sh) seed u k x).length = 32 from adv_len hs u k 0 x _ (hs.len _))
      generalize valF (tagB sh) seed u k x = r at *
      rw [dg_darr r hv32.out] at HVL
      generalize (partsF (tagB sh) seed u L).take k = ps at *
      have hSd := hS.drew
      have q1 := hS.b2.cell 1
      have p0 := hS.b8.cell 0
      have p1 := hS.b8.cell 1
      clear hdr
      have hs32 : (darr r).size = 32 := darr_size r (by rw [hv32.out]; omega)
      have hfz := foldz r hv32.out
      go_wp2_with fail
      go_region_law (first | (go_simp; go_at_call 69; refine (HVL.out _ hSd.keeps).mono ?_; rintro e w6 ⟨rfl, hb6⟩; obtain ⟨A5, c5, w7, hrun5, hc7, hf7, hS7⟩ := (hSd.call hb6).step (by omega) r hv32.out; have q6 := (hSd.call hb6).b2.cell 1; have q7 := ((hSd.call hb6).b2.alloc (.cells (darr r) 26)).cell 1) | (refine step_append_run _ rfl _ _ 30 30 rfl _ _ rfl rfl _ _ hrun5 ?_))
      all_goals
        rw [← HTK.out] at hS7
        have HS7 := Lib.hid hS7
        clear hS7 hrun5 hc7 hf7 q6 q7 q1 p0 p1 hfz
        go_wp2_with fail
        go_roundw
        case rel => exact ⟨k + 1, A5, c5, by omega, by go_num, HS7.out⟩
        case measure => simp [intOf]; omega
    · obtain rfl : k = 67 := by omega
      have hpl := partsF_len (tagB sh) seed u L
      rw [show (partsF (tagB sh) seed u L).take 67 = partsF (tagB sh) seed u L from List.take_of_length_le (by omega)] at hS
      have hG : Grow w D wr D2 := ⟨hS.below, hS.keeps, hle3, hold3⟩
      obtain ⟨D3, hG3, hle4, hs3, hoff3⟩ := hG.pubN hS.own (Nat.le_refl _) hS.off
      have hds3 : DS D3 (.slice Ap 67 cp) (partsF (tagB sh) seed u L) := ⟨partsF_all hs seed u L, by rw [hpl]; exact hs3⟩
      have hB0 := hS.b0.le (hoff3 _ hS.b0.off (hS.b0.ne_own32 hS.own (by decide)))
      have hB1 := hS.b1.le (hoff3 _ hS.b1.off (hS.b1.ne_own32 hS.own (by decide)))
      have hB2 := hS.b2.le (hoff3 _ hS.b2.off (hS.b2.ne_own32 hS.own (by decide)))
      have hds4 := hds.le hle4
      have hpl2 := Lib.hid (show (pathF (tagB sh) (keysF (tagB sh) seed m) u).length = lenF u m by rw [pathF_len _ m _ _ (keysF_len _ _ _)])
      clear hS hs3 hoff3 hG hpl HIX
      have q2 := hB0.cell 2
      have g1 : ¬ ((67 : Int) < 67) := by omega
      rw [show ((67 : Nat) : Int) = 67 from rfl]
      go_wp2_with fail
      refine (path_ok hs A2 m c2 _ u D3 wr hG3.keeps (hT.le hG3.le) hds4 (by omega) hu).mono ?_
      rintro e w6 ⟨E6, f6, D6, rfl, hG6, hp6⟩
      rw [hpl2.out] at hp6 ⊢
      replace hB0 := hB0.grow hG6
      replace hB1 := hB1.grow hG6
      replace hB2 := hB2.grow hG6
      have hds6 := hds3.le hG6.le
      have hG7 := hG3.trans hG6
      clear q2 hds4 hds3 hG6 hG3
      have r2 := hB2.cell 2
      have f2 := hB2.frozen 2
      go_wp2_with fail
      have hG8 : Grow w D (w6.setCell ⟨w.heap.size + 1 + 1, 2, none⟩ (.slice E6 (lenF u m) f6)) D6 := hG7.setNew (p := ⟨_, 2, none⟩) (by show w.heap.size ≤ w.heap.size + 1 + 1; omega) hB2.off _
      have n0 : w.heap.size ≠ w.heap.size + 1 + 1 := by omega
      have n1 : w.heap.size + 1 ≠ w.heap.size + 1 + 1 := by omega
      have n2 : w.heap.size + 1 + 1 ≠ w.heap.size + 1 := by omega
      have n3 : w.heap.size ≠ w.heap.size + 1 := by omega
      have hB0a : Box (w6.setCell ⟨w.heap.size + 1 + 1, 2, none⟩ (.slice E6 (lenF u m) f6)) D6 w.heap.size 45 #[.slice A n c, .int .i64 m, .int .i64 u] := hB0.far2 n0
      have hB1a : Box (w6.setCell ⟨w.heap.size + 1 + 1, 2, none⟩ (.slice E6 (lenF u m) f6)) D6 (w.heap.size + 1) 45 #[.slice none 0 0, .int .i64 0, .int .i64 0] := hB1.far2 n1
      have hB2a : Box (w6.setCell ⟨w.heap.size + 1 + 1, 2, none⟩ (.slice E6 (lenF u m) f6)) D6 (w.heap.size + 1 + 1) 49 #[.int .i64 u, .slice Ap 67 cp, .slice E6 (lenF u m) f6] := hB2.set_ 2 _
      clear r2 f2 hG7 hB0 hB1 hB2
      generalize w6.setCell ⟨w.heap.size + 1 + 1, 2, none⟩ (.slice E6 (lenF u m) f6) = W6 at *
      generalize hl6 : lenF u m = l6 at *
      have HL6 := Lib.hid hl6
      clear hl6
      have hB0d := hB0a.drew
      have hB1d := hB1a.drew
      have hB2d := hB2a.drew
      have hG8d := hG8.drew
      clear hG8 hB0a hB1a hB2a
      have HCL := Lib.hid (fun W hk => clone_c A n c seed D6 W hk (hA.le hG8d.le) (by omega))
      have SH : Hid (∀ W D', Box W D' w.heap.size 45 #[.slice A n c, .int .i64 m, .int .i64 u] → Box W D' (w.heap.size + 1 + 1) 49 #[.int .i64 u, .slice Ap 67 cp, .slice E6 l6 f6] → (W.cell? ⟨w.heap.size, 0, none⟩ = some (.slice A n c) ∧ W.cell? ⟨w.heap.size, 1, none⟩ = some (.int .i64 m) ∧ W.cell? ⟨w.heap.size, 2, none⟩ = some (.int .i64 u) ∧ W.cell? ⟨w.heap.size + 1 + 1, 0, none⟩ = some (.int .i64 u) ∧ W.cell? ⟨w.heap.size + 1 + 1, 1, none⟩ = some (.slice Ap 67 cp) ∧ W.cell? ⟨w.heap.size + 1 + 1, 2, none⟩ = some (.slice E6 l6 f6))) := fun W D' a b => ⟨a.cell 0, a.cell 1, a.cell 2, b.cell 0, b.cell 1, b.cell 2⟩
      have hwr : IntKind.i64.wrap ((u : Int) + 1) = (u : Int) + 1 := by rw [IntKind.wrap_i64]; omega
      refine wp_region_held_drew (S := fun W => W.cell? ⟨w.heap.size, 0, none⟩ = some (.slice A n c) ∧ W.cell? ⟨w.heap.size, 1, none⟩ = some (.int .i64 m) ∧ W.cell? ⟨w.heap.size, 2, none⟩ = some (.int .i64 u) ∧ W.cell? ⟨w.heap.size + 1 + 1, 0, none⟩ = some (.int .i64 u) ∧ W.cell? ⟨w.heap.size + 1 + 1, 1, none⟩ = some (.slice Ap 67 cp) ∧ W.cell? ⟨w.heap.size + 1 + 1, 2, none⟩ = some (.slice E6 l6 f6)) (by kernel_rfl) (SH.out _ _ hB0d hB2d) (fun hHeld => ?_)
      refine wpAnyH_take (i := 0) (v := ?_) rfl (by kernel_rfl) (by kernel_rfl) (by kernel_rfl) (fun _ _ _ h => h) (Or.inl ⟨by rfl, ?_⟩) hHeld ?_
      rotate_left
      · (intro wz hSw; (try dsimp only at hSw); go_simp; try with_reducible rfl)
      simp only [Act.put, List.getElem_toArray, List.getElem_cons_zero, List.setIfInBounds_toArray, List.set_cons_zero, List.set_cons_succ]
      refine wpAnyH_take (i := 1) (v := ?_) rfl (by kernel_rfl) (by kernel_rfl) (by kernel_rfl) (fun _ _ _ h => h) (Or.inl ⟨by rfl, ?_⟩) hHeld ?_
      rotate_left
      · (intro wz hSw; (try dsimp only at hSw); go_simp; try with_reducible rfl)
      simp only [Act.put, List.getElem_toArray, List.getElem_cons_zero, List.getElem_cons_succ, List.setIfInBounds_toArray, List.set_cons_zero, List.set_cons_succ]
      refine wpAnyH_take (i := 3) (v := ?_) rfl (by kernel_rfl) (by kernel_rfl) (by kernel_rfl) (fun _ _ _ h => h) (Or.inl ⟨by rfl, ?_⟩) hHeld ?_
      rotate_left
      · (intro wz hSw; (try dsimp only at hSw); go_simp; try with_reducible rfl)
      simp only [Act.put, List.getElem_toArray, List.getElem_cons_zero, List.getElem_cons_succ, List.setIfInBounds_toArray, List.set_cons_zero, List.set_cons_succ]
      refine wpAnyH_take (i := 4) (v := ?_) rfl (by kernel_rfl) (by kernel_rfl) (by kernel_rfl) (fun _ _ _ h => h) (Or.inl ⟨by rfl, ?_⟩) hHeld ?_
      rotate_left
      · (intro wz hSw; (try dsimp only at hSw); go_simp; try with_reducible rfl)
      simp only [Act.put, List.getElem_toArray, List.getElem_cons_zero, List.getElem_cons_succ, List.setIfInBounds_toArray, List.set_cons_zero, List.set_cons_succ]
      refine wpAnyH_take (i := 5) (v := ?_) rfl (by kernel_rfl) (by kernel_rfl) (by kernel_rfl) (fun _ _ _ h => h) (Or.inl ⟨by rfl, ?_⟩) hHeld ?_
      rotate_left
      · (intro wz hSw; (try dsimp only at hSw); go_simp; try with_reducible rfl)
      simp only [Act.put, List.getElem_toArray, List.getElem_cons_zero, List.getElem_cons_succ, List.setIfInBounds_toArray, List.set_cons_zero, List.set_cons_succ]
      refine wpAnyH_take (i := 6) (v := ?_) rfl (by kernel_rfl) (by kernel_rfl) (by kernel_rfl) (fun _ _ _ h => h) (Or.inl ⟨by rfl, ?_⟩) hHeld ?_
      rotate_left
      · (intro wz hSw; (try dsimp only at hSw); go_simp; try with_reducible rfl)
      simp only [Act.put, List.getElem_toArray, List.getElem_cons_zero, List.getElem_cons_succ, List.setIfInBounds_toArray, List.set_cons_zero, List.set_cons_succ]
      refine wpAnyH_take (i := 7) (v := ?_) rfl (by kernel_rfl) (by kernel_rfl) (by kernel_rfl) (fun _ _ _ h => h) (Or.inl ⟨by rfl, ?_⟩) hHeld ?_
      rotate_left
      · (intro wz hSw; (try dsimp only at hSw); go_simp; try with_reducible rfl)
      simp only [Act.put, List.getElem_toArray, List.getElem_cons_zero, List.getElem_cons_succ, List.setIfInBounds_toArray, List.set_cons_zero, List.set_cons_succ]
      refine wpAnyH_take (i := 9) (v := ?_) rfl (by kernel_rfl) (by kernel_rfl) (by kernel_rfl) (fun _ _ _ h => h) (Or.inl ⟨by rfl, ?_⟩) hHeld ?_
      rotate_left
      · (intro wz hSw; (try dsimp only at hSw); go_simp; try with_reducible rfl)
      simp only [Act.put, List.getElem_toArray, List.getElem_cons_zero, List.getElem_cons_succ, List.setIfInBounds_toArray, List.set_cons_zero, List.set_cons_succ]
      refine wpAnyH_ready (rs := [2]) (by kernel_rfl) (by simp) (AllReadyH.cons rfl (fun K' hK => ?_) AllReadyH.nil)
      go_simp
      go_wp2_with ((go_at_call 70; refine (HCL.out _ hG8d.keeps).mono ?_; rintro e w7 ⟨A7, c7, D7, rfl, hG9, hb7⟩))
      have hB0e := hB0d.grow hG9
      have hB1e := hB1d.grow hG9
      have hB2e := hB2d.grow hG9
      have hGe := hG8d.trans hG9
      have hp7 := hp6.le hG9.le
      have hd7 := hds6.le hG9.le
      refine hK.out _ _ (SH.out _ _ hB0e hB2e) (fun hHeld => ?_)
      clear hK K' hB0d hB1d hB2d hG8d hG9 hds6 hp6 HCL
      refine wpAnyH_take (i := 8) (v := ?_) rfl (by kernel_rfl) (by kernel_rfl) (by kernel_rfl) (fun _ _ _ h => h) (Or.inl ⟨by rfl, ?_⟩) hHeld ?_
      rotate_left
      · (intro wz hSw; (try dsimp only at hSw); go_simp; try with_reducible rfl)
      simp only [Act.put, List.getElem_toArray, List.getElem_cons_zero, List.getElem_cons_succ, List.setIfInBounds_toArray, List.set_cons_zero, List.set_cons_succ]
      have q1 := hB1e.cell
      have f1 := hB1e.frozen
      refine wpAnyH_ready (rs := [10]) (by kernel_rfl) (by simp) (AllReadyH.cons rfl (fun K' hK => ?_) AllReadyH.nil)
      go_simp
      have hB1f : Box (((w7.setCell ⟨w.heap.size + 1, 0, none⟩ (.slice A7 n c7)).setCell ⟨w.heap.size + 1, 1, none⟩ (.int .i64 m)).setCell ⟨w.heap.size + 1, 2, none⟩ (.int .i64 ((u : Int) + 1))) D7 (w.heap.size + 1) 45 #[.slice A7 n c7, .int .i64 m, .int .i64 ((u : Int) + 1)] := ((hB1e.set_ 0 (.slice A7 n c7)).set_ 1 (.int .i64 m)).set_ 2 (.int .i64 ((u : Int) + 1))
      have hB0f : Box (((w7.setCell ⟨w.heap.size + 1, 0, none⟩ (.slice A7 n c7)).setCell ⟨w.heap.size + 1, 1, none⟩ (.int .i64 m)).setCell ⟨w.heap.size + 1, 2, none⟩ (.int .i64 ((u : Int) + 1))) D7 w.heap.size 45 #[.slice A n c, .int .i64 m, .int .i64 u] := ((hB0e.far2 n3).far2 n3).far2 n3
      have hB2f : Box (((w7.setCell ⟨w.heap.size + 1, 0, none⟩ (.slice A7 n c7)).setCell ⟨w.heap.size + 1, 1, none⟩ (.int .i64 m)).setCell ⟨w.heap.size + 1, 2, none⟩ (.int .i64 ((u : Int) + 1))) D7 (w.heap.size + 1 + 1) 49 #[.int .i64 u, .slice Ap 67 cp, .slice E6 l6 f6] := ((hB2e.far2 n2).far2 n2).far2 n2
      have m1 : w.heap.size ≤ w.heap.size + 1 := by omega
      have m2 : w.heap.size ≤ w.heap.size + 1 + 1 := by omega
      have hGf : Grow w D (((w7.setCell ⟨w.heap.size + 1, 0, none⟩ (.slice A7 n c7)).setCell ⟨w.heap.size + 1, 1, none⟩ (.int .i64 m)).setCell ⟨w.heap.size + 1, 2, none⟩ (.int .i64 ((u : Int) + 1))) D7 := ((hGe.setNew (p := ⟨_, 0, none⟩) m1 hB1e.off _).setNew (p := ⟨_, 1, none⟩) m1 hB1e.off _).setNew (p := ⟨_, 2, none⟩) m1 hB1e.off _
      clear q1 f1 hB0e hB1e hB2e hGe
      refine hK.out _ _ (SH.out _ _ hB0f hB2f) (fun hHeld => ?_)
      clear hK K'
      generalize ((w7.setCell ⟨w.heap.size + 1, 0, none⟩ (.slice A7 n c7)).setCell ⟨w.heap.size + 1, 1, none⟩ (.int .i64 m)).setCell ⟨w.heap.size + 1, 2, none⟩ (.int .i64 ((u : Int) + 1)) = W8 at *
      have q2 := hB2f.cell
      have f2 := hB2f.frozen
      refine wpAnyH_ready (rs := [11]) (by kernel_rfl) (by simp) (AllReadyH.cons rfl (fun K' hK => ?_) AllReadyH.nil)
      go_simp
      have hB2g : Box (((W8.setCell ⟨w.heap.size + 1 + 1, 0, none⟩ (.int .i64 u)).setCell ⟨w.heap.size + 1 + 1, 1, none⟩ (.slice Ap 67 cp)).setCell ⟨w.heap.size + 1 + 1, 2, none⟩ (.slice E6 l6 f6)) D7 (w.heap.size + 1 + 1) 49 #[.int .i64 u, .slice Ap 67 cp, .slice E6 l6 f6] := ((hB2f.set_ 0 _).set_ 1 _).set_ 2 _
      have hB1g : Box (((W8.setCell ⟨w.heap.size + 1 + 1, 0, none⟩ (.int .i64 u)).setCell ⟨w.heap.size + 1 + 1, 1, none⟩ (.slice Ap 67 cp)).setCell ⟨w.heap.size + 1 + 1, 2, none⟩ (.slice E6 l6 f6)) D7 (w.heap.size + 1) 45 #[.slice A7 n c7, .int .i64 m, .int .i64 ((u : Int) + 1)] := ((hB1f.far2 n1).far2 n1).far2 n1
      have hB0g : Box (((W8.setCell ⟨w.heap.size + 1 + 1, 0, none⟩ (.int .i64 u)).setCell ⟨w.heap.size + 1 + 1, 1, none⟩ (.slice Ap 67 cp)).setCell ⟨w.heap.size + 1 + 1, 2, none⟩ (.slice E6 l6 f6)) D7 w.heap.size 45 #[.slice A n c, .int .i64 m, .int .i64 u] := ((hB0f.far2 n0).far2 n0).far2 n0
      have hGg : Grow w D (((W8.setCell ⟨w.heap.size + 1 + 1, 0, none⟩ (.int .i64 u)).setCell ⟨w.heap.size + 1 + 1, 1, none⟩ (.slice Ap 67 cp)).setCell ⟨w.heap.size + 1 + 1, 2, none⟩ (.slice E6 l6 f6)) D7 := ((hGf.setNew (p := ⟨_, 0, none⟩) m2 hB2f.off _).setNew (p := ⟨_, 1, none⟩) m2 hB2f.off _).setNew (p := ⟨_, 2, none⟩) m2 hB2f.off _
      clear q2 f2 hB0f hB1f hB2f hGf
      refine hK.out _ _ (SH.out _ _ hB0g hB2g) (fun hHeld => ?_)
      clear hK K'
      generalize ((W8.setCell ⟨w.heap.size + 1 + 1, 0, none⟩ (.int .i64 u)).setCell ⟨w.heap.size + 1 + 1, 1, none⟩ (.slice Ap 67 cp)).setCell ⟨w.heap.size + 1 + 1, 2, none⟩ (.slice E6 l6 f6) = W9 at *
      refine wpAnyH_ready (rs := [12]) (by kernel_rfl) (by simp) (AllReadyH.cons rfl (fun K' hK => ?_) AllReadyH.nil)
      go_simp
      refine hK.out _ _ hHeld (fun hHeld => ?_)
      clear hK K'
      refine wpAnyH_done (by kernel_rfl) ?_ _
      have c1 := hB1g.cell
      have c2 := hB2g.cell
      clear SH hHeld hwr
      go_wp2_with fail
      obtain rfl := HLL.out
      obtain rfl := HL6.out
      exact bodyPost_ret (v := .tuple #[keyV A7 n c7 m ((u : Int) + 1), sigV u Ap 67 cp E6 (lenF u m) f6, .int .i64 0]) (by simp [results, Tryd.results33, go_sem, c1, c2]) rfl ⟨A7, c7, Ap, cp, E6, f6, D7, rfl, hGg, hb7, hd7, hp7⟩
end Go.Proofs.YtohknemfcohhfaaDoor
