/-
  What is proved here: a chain continued, and the digits that a message leads to, as SigningChains has them.
-/
import Derived.Test.YtohknemfcohhfaaDoorRows
import Derived.Test.YtohknemfcohhfaaDoorBaseC
import Derived.Test.YtohknemfcohhfaaDoorSha
import Derived.Test.YtohknemfcohhfaaDoorDigA
import Derived.Test.YtohknemfcohhfaaDoorDigC
import Derived.Test.YtohknemfcohhfaaDoorDigD
import Derived.Test.YtohknemfcohhfaaDoorDigE
import Derived.Test.YtohknemfcohhfaaDoorDigF
import Derived.Test.YtohknemfcohhfaaDoorDigG
import Derived.Test.YtohknemfcohhfaaDoorDigH
import Derived.Test.YtohknemfcohhfaaDoorDigI
import Derived.Test.YtohknemfcohhfaaDoorDigJ
import Derived.Test.YtohknemfcohhfaaDoorDigK
import Derived.Test.YtohknemfcohhfaaDoorDigL
import Derived.Test.YtohknemfcohhfaaDoorDigM
import Derived.Test.YtohknemfcohhfaaDoorDigN
import Derived.Test.YtohknemfcohhfaaDoorDigO
import Derived.Test.YtohknemfcohhfaaDoorDigP
import Derived.Test.YtohknemfcohhfaaDoorDigQ
import Derived.Test.YtohknemfcohhfaaDoorDigR
import Derived.Test.YtohknemfcohhfaaDoorDigS
import Derived.Test.YtohknemfcohhfaaDoorDigT
import Derived.Test.YtohknemfcohhfaaDoorLawTags
import Derived.Test.YtohknemfcohhfaaDoorSigA
import Derived.Test.YtohknemfcohhfaaDoorSigB
import Derived.Test.YtohknemfcohhfaaDoorSigC
import Derived.Test.YtohknemfcohhfaaDoorSigD
import Derived.Test.YtohknemfcohhfaaDoorSigE
import Derived.Test.YtohknemfcohhfaaDoorSigP
import Derived.Test.YtohknemfcohhfaaDoorSigF
import Derived.Test.YtohknemfcohhfaaDoorSigG
import Derived.Test.YtohknemfcohhfaaDoorLawVerifies
import Derived.Test.YtohknemfcohhfaaDoorTwo
import Derived.Test.YtohknemfcohhfaaDoorTree
import Derived.Test.YtohknemfcohhfaaDoorSign
import Derived.Test.YtohknemfcohhfaaDoorShelf
import Derived.Lib.ConvBytes
import Derived.StillTailTactics
import Derived.Lib.AppendZerosOnto
import Derived.Deep.RegionHeld3
import Derived.Stop.BytesEq
import Derived.Great.BuildSlice
import Derived.Deep.MidRow
import Derived.Deep.RegionLaw
import Derived.Deep.DeepCutAuto
import Derived.Deep.QuietTactic
import Derived.BigQuiet
import Derived.Laws.EntriesVeiled
namespace Go.Proofs.YtohknemfcohhfaaDoor
open Go.RowKit Go.VS
set_option maxRecDepth 100000 in
set_option maxHeartbeats 1000000 in
theorem chain_c {sh : List UInt8 → List UInt8} (hs : Sh sh) (i j a b : Int) (ha : 0 ≤ a) (ha2 : a ≤ 100) (hb1 : 0 ≤ b) (hb2 : b ≤ 100) (d : List UInt8) (hd : d.length = 32) (D : Gh) (w : World) (hk : Keeps D w) (hT : Tab D) :
    Calls Tryd.prog 47 #[.agg (d.map bv).toArray, .int .i64 i, .int .i64 j, .int .i64 a, .int .i64 b] w fun e w' => e = .returned (dg (adv (tagB sh) i j a b d)) ∧ Below w.heap.size w w' := by
  have HD := Lib.hid hd
  rw [show Value.agg (d.map bv).toArray = .agg (darr d) from dg_darr d hd]
  have hsz := sz26 d hd
  clear hd
  obtain ⟨i0, hi, hz0, hz1, hz2⟩ := info_parts info5
  have hB1 := (Box.new2 hk rfl 26 (darr d)).alloc (.cells (darr []) 26)
  have hB2 := Box.new2 (hk.alloc (.cells (darr d) 26)) (g := w.heap.size + 1) (by simp) 26 (darr [])
  have hbel0 : Below w.heap.size w ((w.alloc (.cells (darr d) 26)).alloc (.cells (darr []) 26)) := (by repeat (first | (with_reducible exact Below.refl _ _) | (with_reducible refine Below.drew ?_) | (with_reducible refine belowDrewN ?_ _) | (with_reducible refine belowAlloc ?_ _) | ((with_reducible refine belowSet2 ?_ ?_); omega) | (with_reducible assumption) | (with_reducible refine belowVia (by assumption) ?_) | (with_reducible refine belowVia (Grow.below (by assumption)) ?_)))
  go_enter Tryd.func47, Tryd.ntmps47
  go_wp2_with fail
  have HS := Lib.hid (adv_self (tagB sh) i j a a (by omega) d)
  go_loopw [11] (fun y wr => ∃ k : Int, a ≤ k ∧ (k ≤ b ∨ k = a) ∧ y = .int .i64 k ∧ Below w.heap.size w wr ∧ Box wr D w.heap.size 26 (darr (adv (tagB sh) i j a k d)) ∧ Box wr D (w.heap.size + 1) 26 (darr [])) (fun y _ => (b - intOf y).toNat)
  case atStart => exact ⟨a, by omega, .inr rfl, rfl, hbel0, by rw [HS.out]; exact hB1, hB2⟩
  case round =>
    clear hB1 hB2 hbel0
    obtain ⟨k, hak, hkb, rfl, hbr, hB1, hB2⟩ := hrel
    by_cases hlt : k < b
    · have HSU := Lib.hid (adv_succ (tagB sh) i j a k hak d)
      have HX := Lib.hid (show (adv (tagB sh) i j a k d).length = 32 from adv_len hs i j a k d HD.out)
      generalize adv (tagB sh) i j a k d = x at *
      have g0 : 0 ≤ k := by omega
      have g1 : k ≤ 100 := by omega
      have HST := Lib.hid (show (stepN i j k).map bv = [.int .u8 (i % 256), .int .u8 (j % 256), .int .u8 k] by
        simp only [stepN, List.map_cons, List.map_nil, bv_b8]
        rw [show k % 256 = k by omega])
      have hkr : Keeps D wr := hk.below hbr (Nat.le_refl _)
      have hG0 : Grow w D (wr.alloc (.cells #[.int .u8 (i % 256), .int .u8 (j % 256), .int .u8 k] 5)) D := (Grow.of_below hk hbr).alloc _
      have hB1a := hB1.alloc (.cells #[.int .u8 (i % 256), .int .u8 (j % 256), .int .u8 k] 5)
      have hB2a := hB2.alloc (.cells #[.int .u8 (i % 256), .int .u8 (j % 256), .int .u8 k] 5)
      have hbelA : Below wr.heap.size wr (wr.alloc (.cells #[.int .u8 (i % 256), .int .u8 (j % 256), .int .u8 k] 5)) := (Below.refl _ _).alloc (Nat.le_refl _) _
      have hown : (wr.alloc (.cells #[.int .u8 (i % 256), .int .u8 (j % 256), .int .u8 k] 5)).ownsRow w.heap.size 5 1 (.slice (some ⟨wr.heap.size, 0, none⟩) 3 3) 3 ((stepN i j k).map bv) := by
        rw [HST.out]
        exact ⟨rfl, .inr ⟨wr.heap.size, 3, _, rfl, hbr.size, heap_alloc_new wr _, Nat.le_refl _, by simp [maxLen], rfl, rfl⟩⟩
      obtain ⟨D3, hG3, hle3, hbs3, _⟩ := dgBox_bs hG0 hB1a HX.out (Nat.le_refl _)
      go_wp2_with (at_builtin; refine wpList_append_sl _ rfl _ _ 22 rfl w.heap.size 5 i0 (.int .u8 0) 1 Tryd.underlying22 hi hz0 hz1 hz2 rfl _ 3 _ rfl hown D3 hG3.keeps _ _ _ _ rfl hbs3 (bv_one _) ?c1 ?c2 ?c3 ?_)
      case c1 => unfold maxLen; omega
      case c2 => omega
      case c3 => exact hG0.below.size
      intro A5 cap5 w5 hown5 hg5 hb5
      have hG5 : Grow w D w5 D := hG0.row hg5 (fun g h => (hown.lt g h).1) (fun g h => hk.offNew (hown.lt g h).1)
      have n1 : some w.heap.size ≠ (Value.slice (some ⟨wr.heap.size, 0, none⟩) 3 3).ownBlock := by
        have := hB1.lt
        simp only [Value.ownBlock]
        intro e; injection e with e; omega
      have n2 : some (w.heap.size + 1) ≠ (Value.slice (some ⟨wr.heap.size, 0, none⟩) 3 3).ownBlock := by
        have := hB2.lt
        simp only [Value.ownBlock]
        intro e; injection e with e; omega
      have hB1b := hB1a.grown hg5 n1
      have hB2b := hB2a.grown hg5 n2
      obtain ⟨D6, hG6, _, hsl6, _⟩ := hG5.pub hown5 (Nat.le_refl _) (fun g h => hk.offNew (hown5.lt g h).1)
      rw [← List.map_append] at hsl6
      have hb6 : BS D6 (.slice A5 (3 + 32) cap5) (stepN i j k ++ x) := hsl6
      clear hown hown5 hg5 hb5 hsl6 hG3 hle3 hbs3 hB1a hB2a hG0 hbelA hG5 n1 n2
      have hr32 := Lib.hid (show (tagB sh chainT (stepN i j k ++ x)).length = 32 from hs.len _)
      have HTG := Lib.hid (fun W hk hT => tag_c hs chainT (by decide) A5 35 cap5 (stepN i j k ++ x) D6 W hk hb6 (by omega) hT)
      generalize hr : tagB sh chainT (stepN i j k ++ x) = r at *
      have HR := Lib.hid hr
      clear hr
      rw [dg_darr r hr32.out] at HTG
      have hsr : (darr x).size = (darr r).size := by rw [darr_size _ (by rw [HX.out]; omega), darr_size _ (by rw [hr32.out]; omega)]
      have hsr26 := sz26 r hr32.out
      go_wp2_with fail
      refine (HTG.out _ hG6.keeps (hT.le hG6.le)).mono ?_
      rintro e w3 ⟨rfl, hb3⟩
      have hB1f := hB1b.below hb3 hB1b.lt
      have hB2f := hB2b.below hb3 hB2b.lt
      have hbel6 := belowVia hb3 hG6.below
      go_wp2_with (refine wpList_store_row rfl 26 _ _ rfl w.heap.size (darr r) rfl rfl 26 (darr x) hB1f.heap hsr26 hsr (darr_one _) ?_)
      go_roundw
      case rel =>
        have hne : w.heap.size + 1 ≠ w.heap.size := by omega
        exact ⟨k + 1, by omega, by omega, by go_num, belowRow hbel6 (by omega) _, by rw [HSU.out]; exact HR.out ▸ hB1f.setRow _, hB2f.farRow hne _⟩
      case measure => simp [intOf]; omega
    · have HSF := Lib.hid (show adv (tagB sh) i j a k d = adv (tagB sh) i j a b d by
        rcases hkb with h | rfl
        · rw [show k = b by omega]
        · rw [adv_self _ _ _ _ _ (by omega), adv_self _ _ _ _ _ (by omega)])
      rw [HSF.out] at hB1
      have hr32 := Lib.hid (adv_len hs i j a b d HD.out)
      clear HSF
      generalize hr : adv (tagB sh) i j a b d = r at *
      have HR := Lib.hid hr
      clear hr
      have g1 : ¬ k < b := hlt
      have hsr : (darr []).size = (darr r).size := by rw [darr_size _ (by simp), darr_size _ (by rw [hr32.out]; omega)]
      have hsr26 := sz26 r hr32.out
      go_wp2_with (first | ((with_reducible show wpList _ _ _ ((⟨_, .load 26 _, _, _, _, _⟩ : Oper) :: _) _ _); refine wpList_load_row rfl 26 _ rfl (w.heap.size) rfl 26 _ (0, 0) _ (hB1.heap) Tryd.underlying26 rfl (hsr26) ?_) | ((with_reducible show wpList _ _ _ ((⟨_, .store 26 _ _, _, _, _, _⟩ : Oper) :: _) _ _); refine wpList_store_row rfl 26 _ _ rfl (w.heap.size + 1) (darr r) rfl rfl 26 (darr []) (hB2.heap) (hsr26) (hsr) (darr_one _) ?_))
      refine bodyPost_ret (results_cell_row rfl _ _ _ _ _ _ _ rfl (hB2.setRow _).heap Tryd.underlying26 rfl hsr26) rfl ⟨?_, belowRow hbr (by omega) _⟩
      rw [HR.out, dg_darr r hr32.out]
/-- in the midst of append(append(append([]byte{}, d[:]...), x), msg...). -/
structure Ab (w1 : World) (v : Value) (n : Nat) (xs : List UInt8) (O : Option (Nat × UInt8)) (W : World) : Prop where
  below : Below w1.heap.size w1 W
  own : W.ownsRow w1.heap.size 5 1 v n (xs.map bv)
  blk : ∀ go x, O = some (go, x) → W.heap[go]? = some (.cells #[bv x] 5 (0, 0)) ∧ w1.heap.size ≤ go ∧ v.ownBlock ≠ some go
theorem Ab.start (w1 : World) : Ab w1 (.slice none 0 0) 0 [] none w1 := ⟨Below.refl _ _, World.ownsRow_nil _ _ _ _, fun _ _ h => by cases h⟩
theorem Ab.build0 {w1 W : World} {O : Option (Nat × UInt8)} (h : Ab w1 (.slice none 0 0) 0 [] O W) : Ab w1 (.slice (some ⟨W.heap.size, 0, none⟩) 0 0) 0 [] O (W.alloc (.cells #[] 5)) :=
  ⟨h.below.alloc h.below.size _, own_empty h.below.size (heap_alloc_new W _), fun go x e => by
    obtain ⟨a, b, _⟩ := h.blk go x e
    have hl := heap_lt a
    refine ⟨(Below.heap_alloc W _ go hl).trans a, b, ?_⟩
    simp only [Value.ownBlock]
    intro e'
    injection e' with e'
    omega⟩
theorem Ab.build1 {w1 W : World} {v : Value} {n : Nat} {xs : List UInt8} (h : Ab w1 v n xs none W) (x : UInt8) : Ab w1 v n xs (some (W.heap.size, x)) (W.alloc (.cells #[bv x] 5)) :=
  ⟨h.below.alloc h.below.size _, h.own.alloc _, fun go x' e => by
    injection e with e
    injection e with e1 e2
    subst e1 e2
    refine ⟨heap_alloc_new W _, h.below.size, fun e' => ?_⟩
    have := (h.own.lt _ e').2
    omega⟩
theorem Ab.app {w1 W : World} {v : Value} {n : Nat} {xs : List UInt8} {O : Option (Nat × UInt8)} (h : Ab w1 v n xs O W) (D : Gh) (hkW : Keeps D W) (A : Option Addr) (m c : Nat) (bs : List UInt8) (hb : BS D (.slice A m c) bs) (hm : n + m ≤ 1000000) :
    ∃ A' c' W', (Builtin.append_ #[22, 22] 22 #[v, .slice A m c]).run Tryd.prog W = .ok (.slice A' (n + m) c') W' ∧ Ab w1 (.slice A' (n + m) c') (n + m) (xs ++ bs) O W' := by
  obtain ⟨i0, hi, hz0, hz1, hz2⟩ := info_parts info5
  obtain ⟨A', c', W', hrun, hown, hg, hob⟩ := run_append_sl (P := Tryd.prog) W w1.heap.size 22 22 5 i0 (.int .u8 0) 1 Tryd.underlying22 hi hz0 hz1 hz2 rfl v n _ h.own D hkW A m c _ hb (bv_one _) (by unfold maxLen; omega) (by omega) h.below.size
  refine ⟨A', c', W', hrun, h.below.grown hg h.below.size (fun g e => (h.own.lt g e).1), by rw [List.map_append]; exact hown, fun go x e => ?_⟩
  obtain ⟨a, b, cc⟩ := h.blk go x e
  have hlt := heap_lt a
  refine ⟨(hg.block go hlt (fun e' => cc e'.symm)).trans a, b, fun e' => ?_⟩
  rcases hob with h1 | h1
  · exact cc (h1.symm.trans e')
  · have := h1.symm.trans e'
    injection this with this
    omega
theorem Ab.app1 {w1 W : World} {v : Value} {n : Nat} {xs : List UInt8} {go : Nat} {x : UInt8} (h : Ab w1 v n xs (some (go, x)) W) (hn : n ≤ 1000) :
    ∃ A' c' W', (Builtin.append_ #[22, 22] 22 #[v, .slice (some ⟨go, 0, none⟩) 1 1]).run Tryd.prog W = .ok (.slice A' (n + 1) c') W' ∧ Ab w1 (.slice A' (n + 1) c') (n + 1) (xs ++ [x]) none W' := by
  obtain ⟨a, b, cc⟩ := h.blk go x rfl
  obtain ⟨D1, hk1, hs1⟩ : ∃ D1 : Gh, Keeps D1 W ∧ BS D1 (.slice (some ⟨go, 0, none⟩) 1 1) [x] := by
    refine ⟨fun b o => if b = go then #[bv x][o]? else none, fun b o v hv => ?_, some ⟨go, 0, none⟩, 1, rfl, Nat.le_refl _, by simp [maxLen], by simp, fun _ => ⟨go, 0, rfl, fun j u e => ?_⟩⟩
    · dsimp only at hv
      split at hv
      · rename_i hb; subst hb; rw [cell_of_row _ _ _ _ _ _ a]; exact hv
      · cases hv
    · rw [Nat.zero_add]; simpa using e
  obtain ⟨A', c', W', hrun, ha⟩ := h.app D1 hk1 _ 1 1 [x] hs1 (by omega)
  exact ⟨A', c', W', hrun, ha.below, ha.own, fun _ _ e => by cases e⟩
theorem Ab.pub {w1 W : World} {v : Value} {n : Nat} {xs : List UInt8} (h : Ab w1 v n xs none W) (D : Gh) (hk : Keeps D w1) : ∃ D', Grow w1 D W D' ∧ BS D' v xs := by
  have hG := Grow.of_below hk h.below
  obtain ⟨D', hG', _, hs, _⟩ := hG.pub h.own (Nat.le_refl _) (fun g e => hk.offNew (h.own.lt g e).1)
  exact ⟨D', hG', hs⟩
theorem one_bs {w : World} {D : Gh} {g : Nat} {r : List UInt8} (hB : Box w D g 26 (darr r)) (hr : r.length = 32) : ∃ D' : Gh, Keeps D' w ∧ BS D' (.slice (some ⟨g, 0, none⟩) 32 32) r := by
  refine ⟨fun b o => if b = g then (darr r)[o]? else none, fun b o v h => ?_, some ⟨g, 0, none⟩, 32, by simp [hr], by simp [hr], by simp [maxLen], by simp, fun _ => ⟨g, 0, rfl, fun j u e => ?_⟩⟩
  · dsimp only at h
    split at h
    · rename_i hb; subst hb; rw [hB.cell]; exact h
    · cases h
  · rw [Nat.zero_add]; dsimp only; rw [if_pos rfl, darr_full r hr]; simpa using e
set_option maxRecDepth 100000 in
set_option maxHeartbeats 2000000 in
theorem hashc_c {sh : List UInt8 → List UInt8} (hs : Sh sh) (p : List UInt8) (hp : p.length = 32) (g7 g10 : Nat) (u : Int) (P E : Value) (B : Option Addr) (b d : Nat) (msg : List UInt8) (hbl : b ≤ 300) (D : Gh) (w : World) (hk : Keeps D w) (hT : Tab D) (hB : BS D (.slice B b d) msg) (hB7 : Box w D g7 26 (darr p)) (hB10 : Box w D g10 49 #[.int .i64 u, P, E]) :
    Calls Tryd.prog 46 #[.slice B b d, .pointer (some ⟨g7, 0, none⟩), .pointer (some ⟨g10, 0, none⟩)] w fun e w' => ∃ g D', e = .returned (.slice (some ⟨g, 0, none⟩) 67 67) ∧ Grow w D w' D' ∧ NS D' (.slice (some ⟨g, 0, none⟩) 67 67) (digF (hashF (tagB sh) p u msg)) := by
  have hp32 := Lib.hid hp
  clear hp
  have hl := hB.len.1
  have HMB := Lib.hid hl
  clear hl
  have hh32 := Lib.hid (show (hashF (tagB sh) p u msg).length = 32 from hs.len _)
  have HTG := Lib.hid (fun A c D' W hk hT hb => tag_c hs messageT (by decide) A (32 + 1 + b) c (p ++ [b8 u] ++ msg) D' W hk hb (by omega) hT)
  rw [show tagB sh messageT (p ++ [b8 u] ++ msg) = hashF (tagB sh) p u msg by unfold hashF; rw [List.append_assoc]] at HTG
  have HDG := Lib.hid (fun W hk => Digits_c _ hh32.out D W hk)
  generalize hashF (tagB sh) p u msg = hh at *
  rw [dg_darr hh hh32.out] at HTG HDG
  have hw8 : IntKind.u8.wrap u = u % 256 := by simp [IntKind.wrap, IntKind.bits, IntKind.signed]
  go_enter Tryd.func46, Tryd.ntmps46
  go_wp2_with fail
  replace hB7 := hB7.drew
  replace hB10 := hB10.drew
  replace hk := hk.drew
  refine wp_region_held_drew (S := fun W => W.cell? ⟨g10, 0, none⟩ = some (.int .i64 u)) (by kernel_rfl) (hB10.cell 0) (fun hHeld => ?_)
  have HB0 := Lib.hid (fun W (hb : Below w.drew.heap.size w.drew W) => (show Below w.heap.size w W from ⟨hb.os, hb.tape, hb.output, hb.size, hb.block⟩))
  have HZ0 := Lib.hid (show w.heap.size = w.drew.heap.size from rfl)
  generalize w.drew = X0 at *
  have hap := Ab.start X0
  have SH : Hid (∀ W, Below X0.heap.size X0 W → W.cell? ⟨g10, 0, none⟩ = some (.int .i64 u)) := fun W hb => (hB10.below hb hB10.lt).cell 0
  refine wpAnyH_take (i := 1) (v := ?_) rfl (by kernel_rfl) (by kernel_rfl) (by kernel_rfl) (fun _ _ _ h => h) (Or.inl ⟨by rfl, ?_⟩) hHeld ?_
  rotate_left
  · (intro wz hSw; (try dsimp only at hSw); go_simp; try with_reducible rfl)
  simp only [Act.put, List.getElem_toArray, List.getElem_cons_zero, List.getElem_cons_succ, List.setIfInBounds_toArray, List.set_cons_zero, List.set_cons_succ]
  refine wpAnyH_take (i := 3) (v := ?_) rfl (by kernel_rfl) (by kernel_rfl) (by kernel_rfl) (fun _ _ _ h => h) (Or.inl ⟨by rfl, ?_⟩) hHeld ?_
  rotate_left
  · (intro wz hSw; (try dsimp only at hSw); go_simp; try with_reducible rfl)
  simp only [Act.put, List.getElem_toArray, List.getElem_cons_zero, List.getElem_cons_succ, List.setIfInBounds_toArray, List.set_cons_zero, List.set_cons_succ]
  refine wpAnyH_take (i := 4) (v := ?_) rfl (by kernel_rfl) (by kernel_rfl) (by kernel_rfl) (fun _ _ _ h => h) (Or.inl ⟨by rfl, ?_⟩) hHeld ?_
  rotate_left
  · (intro wz hSw; (try dsimp only at hSw); go_simp; try with_reducible rfl)
  simp only [Act.put, List.getElem_toArray, List.getElem_cons_zero, List.getElem_cons_succ, List.setIfInBounds_toArray, List.set_cons_zero, List.set_cons_succ]
  refine wpAnyH_take (i := 5) (v := ?_) rfl (by kernel_rfl) (by kernel_rfl) (by kernel_rfl) (fun _ _ _ h => h) (Or.inl ⟨by rfl, ?_⟩) hHeld ?_
  rotate_left
  · (intro wz hSw; (try dsimp only at hSw); go_simp; try with_reducible rfl)
  simp only [Act.put, List.getElem_toArray, List.getElem_cons_zero, List.getElem_cons_succ, List.setIfInBounds_toArray, List.set_cons_zero, List.set_cons_succ]
  refine wpAnyH_take (i := 8) (v := ?_) rfl (by kernel_rfl) (by kernel_rfl) (by kernel_rfl) (fun _ _ _ h => h) (Or.inl ⟨by rfl, ?_⟩) hHeld ?_
  rotate_left
  · (intro wz hSw; (try dsimp only at hSw); go_simp; try with_reducible rfl)
  simp only [Act.put, List.getElem_toArray, List.getElem_cons_zero, List.getElem_cons_succ, List.setIfInBounds_toArray, List.set_cons_zero, List.set_cons_succ]
  refine wpAnyH_ready (rs := [0, 6]) (by kernel_rfl) (by simp) (AllReadyH.cons rfl (fun K' hK => ?_) (AllReadyH.cons rfl (fun K' hK => ?_) AllReadyH.nil))
  · go_simp
    replace hap := hap.build0
    refine hK.out _ _ (SH.out _ hap.below) (fun hHeld => ?_)
    clear hK K'
    generalize X0.alloc (.cells #[] 5) = X1 at *
    refine wpAnyH_ready (rs := [2, 6]) (by kernel_rfl) (by simp) (AllReadyH.cons rfl (fun K' hK => ?_) (AllReadyH.cons rfl (fun K' hK => ?_) AllReadyH.nil))
    · obtain ⟨D2, hk2, hb2⟩ := one_bs (hB7.below hap.below hB7.lt) hp32.out
      obtain ⟨A1, c1, X2, hrun, hapn⟩ := hap.app D2 hk2 _ 32 32 p hb2 (by omega)
      rw [Nat.zero_add, List.nil_append] at hapn
      rw [Nat.zero_add] at hrun
      refine step_append_run _ rfl _ _ 22 22 rfl _ _ rfl rfl _ _ hrun ?_
      refine hK.out _ _ (SH.out _ hapn.below) (fun hHeld => ?_)
      clear hK K' hrun hap
      have hap := hapn
      clear hapn
      clear hk2 hb2
      refine wpAnyH_ready (rs := [6]) (by kernel_rfl) (by simp) (AllReadyH.cons rfl (fun K' hK => ?_) AllReadyH.nil)
      go_simp
      replace hap := hap.build1 (b8 u)
      rw [bv_b8] at hap
      refine hK.out _ _ (SH.out _ hap.below) (fun hHeld => ?_)
      clear hK K'
      generalize X2.alloc (.cells #[.int .u8 (u % 256)] 5) = X3 at *
      refine wpAnyH_ready (rs := [7]) (by kernel_rfl) (by simp) (AllReadyH.cons rfl (fun K' hK => ?_) AllReadyH.nil)
      obtain ⟨A2, c2, X4, hrun, hapn⟩ := hap.app1 (go := X2.heap.size) (by omega)
      refine step_append_run _ rfl _ _ 22 22 rfl _ _ rfl rfl _ _ hrun ?_
      refine hK.out _ _ (SH.out _ hapn.below) (fun hHeld => ?_)
      clear hK K' hrun hap
      have hap := hapn
      clear hapn
      refine wpAnyH_ready (rs := [9]) (by kernel_rfl) (by simp) (AllReadyH.cons rfl (fun K' hK => ?_) AllReadyH.nil)
      obtain ⟨A3, c3, X5, hrun, hapn⟩ := hap.app D (hk.below hap.below (Nat.le_refl _)) B b d msg hB (by omega)
      refine step_append_run _ rfl _ _ 22 22 rfl _ _ rfl rfl _ _ hrun ?_
      refine hK.out _ _ (SH.out _ hapn.below) (fun hHeld => ?_)
      clear hK K' hrun hap
      have hap := hapn
      clear hapn
      refine wpAnyH_ready (rs := [10]) (by kernel_rfl) (by simp) (AllReadyH.cons rfl (fun K' hK => ?_) AllReadyH.nil)
      obtain ⟨D9, hG9, hbs9⟩ := hap.pub D hk
      have HTX := Lib.hid (HTG.out A3 c3 D9 X5 hG9.keeps (hT.le hG9.le) hbs9)
      go_simp
      go_wp2_with ((go_at_call 20; refine HTX.out.mono ?_; rintro e X6 ⟨rfl, hb20⟩))
      have hbX := hap.below.trans (hb20.mono hap.below.size)
      refine hK.out _ _ (SH.out _ hbX) (fun hHeld => ?_)
      clear hK K' HTX hb20 hG9 hbs9 hap
      refine wpAnyH_ready (rs := [11]) (by kernel_rfl) (by simp) (AllReadyH.cons rfl (fun K' hK => ?_) AllReadyH.nil)
      go_simp
      go_wp2_with ((go_at_call 39; refine (HDG.out _ (hk.below hbX (Nat.le_refl _))).mono ?_; rintro e X7 ⟨gx, D11, rfl, hG11, hns⟩))
      have hbY := hbX.trans (hG11.below.mono hbX.size)
      refine hK.out _ _ (SH.out _ hbY) (fun hHeld => ?_)
      clear hK K'
      refine wpAnyH_ready (rs := [12]) (by kernel_rfl) (by simp) (AllReadyH.cons rfl (fun K' hK => ?_) AllReadyH.nil)
      go_simp
      refine hK.out _ _ hHeld (fun hHeld => ?_)
      clear hK K'
      refine wpAnyH_done (by kernel_rfl) ?_ _
      go_wp2_with fail
      go_ret
      exact ⟨gx, D11, rfl, ⟨HB0.out _ hbY, hG11.keeps, hG11.le, fun b hb o => hG11.old b (Nat.lt_of_lt_of_le (HZ0.out ▸ hb) hbX.size) o⟩, hns⟩
    · go_simp
      replace hap := hap.build1 (b8 u)
      rw [bv_b8] at hap
      refine hK.out _ _ (SH.out _ hap.below) (fun hHeld => ?_)
      clear hK K'
      generalize X1.alloc (.cells #[.int .u8 (u % 256)] 5) = X2 at *
      refine wpAnyH_ready (rs := [2]) (by kernel_rfl) (by simp) (AllReadyH.cons rfl (fun K' hK => ?_) AllReadyH.nil)
      obtain ⟨D2, hk2, hb2⟩ := one_bs (hB7.below hap.below hB7.lt) hp32.out
      obtain ⟨A1, c1, X3, hrun, hapn⟩ := hap.app D2 hk2 _ 32 32 p hb2 (by omega)
      rw [Nat.zero_add, List.nil_append] at hapn
      rw [Nat.zero_add] at hrun
      refine step_append_run _ rfl _ _ 22 22 rfl _ _ rfl rfl _ _ hrun ?_
      refine hK.out _ _ (SH.out _ hapn.below) (fun hHeld => ?_)
      clear hK K' hrun hap
      have hap := hapn
      clear hapn
      clear hk2 hb2
      refine wpAnyH_ready (rs := [7]) (by kernel_rfl) (by simp) (AllReadyH.cons rfl (fun K' hK => ?_) AllReadyH.nil)
      obtain ⟨A2, c2, X4, hrun, hapn⟩ := hap.app1 (go := X1.heap.size) (by omega)
      refine step_append_run _ rfl _ _ 22 22 rfl _ _ rfl rfl _ _ hrun ?_
      refine hK.out _ _ (SH.out _ hapn.below) (fun hHeld => ?_)
      clear hK K' hrun hap
      have hap := hapn
      clear hapn
      refine wpAnyH_ready (rs := [9]) (by kernel_rfl) (by simp) (AllReadyH.cons rfl (fun K' hK => ?_) AllReadyH.nil)
      obtain ⟨A3, c3, X5, hrun, hapn⟩ := hap.app D (hk.below hap.below (Nat.le_refl _)) B b d msg hB (by omega)
      refine step_append_run _ rfl _ _ 22 22 rfl _ _ rfl rfl _ _ hrun ?_
      refine hK.out _ _ (SH.out _ hapn.below) (fun hHeld => ?_)
      clear hK K' hrun hap
      have hap := hapn
      clear hapn
      refine wpAnyH_ready (rs := [10]) (by kernel_rfl) (by simp) (AllReadyH.cons rfl (fun K' hK => ?_) AllReadyH.nil)
      obtain ⟨D9, hG9, hbs9⟩ := hap.pub D hk
      have HTX := Lib.hid (HTG.out A3 c3 D9 X5 hG9.keeps (hT.le hG9.le) hbs9)
      go_simp
      go_wp2_with ((go_at_call 20; refine HTX.out.mono ?_; rintro e X6 ⟨rfl, hb20⟩))
      have hbX := hap.below.trans (hb20.mono hap.below.size)
      refine hK.out _ _ (SH.out _ hbX) (fun hHeld => ?_)
      clear hK K' HTX hb20 hG9 hbs9 hap
      refine wpAnyH_ready (rs := [11]) (by kernel_rfl) (by simp) (AllReadyH.cons rfl (fun K' hK => ?_) AllReadyH.nil)
      go_simp
      go_wp2_with ((go_at_call 39; refine (HDG.out _ (hk.below hbX (Nat.le_refl _))).mono ?_; rintro e X7 ⟨gx, D11, rfl, hG11, hns⟩))
      have hbY := hbX.trans (hG11.below.mono hbX.size)
      refine hK.out _ _ (SH.out _ hbY) (fun hHeld => ?_)
      clear hK K'
      refine wpAnyH_ready (rs := [12]) (by kernel_rfl) (by simp) (AllReadyH.cons rfl (fun K' hK => ?_) AllReadyH.nil)
      go_simp
      refine hK.out _ _ hHeld (fun hHeld => ?_)
      clear hK K'
      refine wpAnyH_done (by kernel_rfl) ?_ _
      go_wp2_with fail
      go_ret
      exact ⟨gx, D11, rfl, ⟨HB0.out _ hbY, hG11.keeps, hG11.le, fun b hb o => hG11.old b (Nat.lt_of_lt_of_le (HZ0.out ▸ hb) hbX.size) o⟩, hns⟩
  · go_simp
    replace hap := hap.build1 (b8 u)
    rw [bv_b8] at hap
    refine hK.out _ _ (SH.out _ hap.below) (fun hHeld => ?_)
    clear hK K'
    generalize X0.alloc (.cells #[.int .u8 (u % 256)] 5) = X1 at *
    refine wpAnyH_ready (rs := [0]) (by kernel_rfl) (by simp) (AllReadyH.cons rfl (fun K' hK => ?_) AllReadyH.nil)
    go_simp
    replace hap := hap.build0
    refine hK.out _ _ (SH.out _ hap.below) (fun hHeld => ?_)
    clear hK K'
    generalize X1.alloc (.cells #[] 5) = X2 at *
    refine wpAnyH_ready (rs := [2]) (by kernel_rfl) (by simp) (AllReadyH.cons rfl (fun K' hK => ?_) AllReadyH.nil)
    obtain ⟨D2, hk2, hb2⟩ := one_bs (hB7.below hap.below hB7.lt) hp32.out
    obtain ⟨A1, c1, X3, hrun, hapn⟩ := hap.app D2 hk2 _ 32 32 p hb2 (by omega)
    rw [Nat.zero_add, List.nil_append] at hapn
    rw [Nat.zero_add] at hrun
    refine step_append_run _ rfl _ _ 22 22 rfl _ _ rfl rfl _ _ hrun ?_
    refine hK.out _ _ (SH.out _ hapn.below) (fun hHeld => ?_)
    clear hK K' hrun hap
    have hap := hapn
    clear hapn
    clear hk2 hb2
    refine wpAnyH_ready (rs := [7]) (by kernel_rfl) (by simp) (AllReadyH.cons rfl (fun K' hK => ?_) AllReadyH.nil)
    obtain ⟨A2, c2, X4, hrun, hapn⟩ := hap.app1 (go := X0.heap.size) (by omega)
    refine step_append_run _ rfl _ _ 22 22 rfl _ _ rfl rfl _ _ hrun ?_
    refine hK.out _ _ (SH.out _ hapn.below) (fun hHeld => ?_)
    clear hK K' hrun hap
    have hap := hapn
    clear hapn
    refine wpAnyH_ready (rs := [9]) (by kernel_rfl) (by simp) (AllReadyH.cons rfl (fun K' hK => ?_) AllReadyH.nil)
    obtain ⟨A3, c3, X5, hrun, hapn⟩ := hap.app D (hk.below hap.below (Nat.le_refl _)) B b d msg hB (by omega)
    refine step_append_run _ rfl _ _ 22 22 rfl _ _ rfl rfl _ _ hrun ?_
    refine hK.out _ _ (SH.out _ hapn.below) (fun hHeld => ?_)
    clear hK K' hrun hap
    have hap := hapn
    clear hapn
    refine wpAnyH_ready (rs := [10]) (by kernel_rfl) (by simp) (AllReadyH.cons rfl (fun K' hK => ?_) AllReadyH.nil)
    obtain ⟨D9, hG9, hbs9⟩ := hap.pub D hk
    have HTX := Lib.hid (HTG.out A3 c3 D9 X5 hG9.keeps (hT.le hG9.le) hbs9)
    go_simp
    go_wp2_with ((go_at_call 20; refine HTX.out.mono ?_; rintro e X6 ⟨rfl, hb20⟩))
    have hbX := hap.below.trans (hb20.mono hap.below.size)
    refine hK.out _ _ (SH.out _ hbX) (fun hHeld => ?_)
    clear hK K' HTX hb20 hG9 hbs9 hap
    refine wpAnyH_ready (rs := [11]) (by kernel_rfl) (by simp) (AllReadyH.cons rfl (fun K' hK => ?_) AllReadyH.nil)
    go_simp
    go_wp2_with ((go_at_call 39; refine (HDG.out _ (hk.below hbX (Nat.le_refl _))).mono ?_; rintro e X7 ⟨gx, D11, rfl, hG11, hns⟩))
    have hbY := hbX.trans (hG11.below.mono hbX.size)
    refine hK.out _ _ (SH.out _ hbY) (fun hHeld => ?_)
    clear hK K'
    refine wpAnyH_ready (rs := [12]) (by kernel_rfl) (by simp) (AllReadyH.cons rfl (fun K' hK => ?_) AllReadyH.nil)
    go_simp
    refine hK.out _ _ hHeld (fun hHeld => ?_)
    clear hK K'
    refine wpAnyH_done (by kernel_rfl) ?_ _
    go_wp2_with fail
    go_ret
    exact ⟨gx, D11, rfl, ⟨HB0.out _ hbY, hG11.keeps, hG11.le, fun b hb o => hG11.old b (Nat.lt_of_lt_of_le (HZ0.out ▸ hb) hbX.size) o⟩, hns⟩
end Go.Proofs.YtohknemfcohhfaaDoor
