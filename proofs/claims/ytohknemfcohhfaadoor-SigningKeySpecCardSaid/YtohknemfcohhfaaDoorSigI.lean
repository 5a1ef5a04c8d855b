/-
  What is proved here: start, climb, one, hash and Digits of the signing reference
-/
import Derived.Test.YtohknemfcohhfaaDoorRows
import Derived.Test.YtohknemfcohhfaaDoorBaseC
import Derived.Test.YtohknemfcohhfaaDoorSha
import Derived.Test.YtohknemfcohhfaaDoorTree
import Derived.Test.YtohknemfcohhfaaDoorSign
import Derived.Test.YtohknemfcohhfaaDoorShelf
import Derived.Test.YtohknemfcohhfaaDoorDigA
import Derived.Test.YtohknemfcohhfaaDoorDigC
import Derived.Test.YtohknemfcohhfaaDoorDigD
import Derived.Test.YtohknemfcohhfaaDoorDigE
import Derived.Test.YtohknemfcohhfaaDoorDigF
import Derived.Test.YtohknemfcohhfaaDoorDigG
import Derived.Test.YtohknemfcohhfaaDoorDigH
import Derived.Test.YtohknemfcohhfaaDoorDigI
import Derived.Test.YtohknemfcohhfaaDoorDigJ
import Derived.Test.YtohknemfcohhfaaDoorDigK
import Derived.Test.YtohknemfcohhfaaDoorDigL
import Derived.Test.YtohknemfcohhfaaDoorDigM
import Derived.Test.YtohknemfcohhfaaDoorDigN
import Derived.Test.YtohknemfcohhfaaDoorDigO
import Derived.Test.YtohknemfcohhfaaDoorDigP
import Derived.Test.YtohknemfcohhfaaDoorDigQ
import Derived.Test.YtohknemfcohhfaaDoorDigR
import Derived.Test.YtohknemfcohhfaaDoorDigS
import Derived.Test.YtohknemfcohhfaaDoorDigT
import Derived.Test.YtohknemfcohhfaaDoorLawHalves
import Derived.Test.YtohknemfcohhfaaDoorDigU
import Derived.Test.YtohknemfcohhfaaDoorDigW
import Derived.Test.YtohknemfcohhfaaDoorDigX
import Derived.Test.YtohknemfcohhfaaDoorDigY
import Derived.Test.YtohknemfcohhfaaDoorSigA
import Derived.Test.YtohknemfcohhfaaDoorSigB
import Derived.Test.YtohknemfcohhfaaDoorSigC
import Derived.Test.YtohknemfcohhfaaDoorSigD
import Derived.Test.YtohknemfcohhfaaDoorSigE
import Derived.Test.YtohknemfcohhfaaDoorSigP
import Derived.Test.YtohknemfcohhfaaDoorSigF
import Derived.Test.YtohknemfcohhfaaDoorSigG
import Derived.Lib.ConvBytes
import Derived.StillTailTactics
import Derived.Lib.AppendZerosOnto
import Derived.Deep.RegionHeld3
import Derived.Stop.BytesEq
import Derived.Great.BuildSlice
import Derived.Deep.MidRow
import Derived.Deep.RegionLaw
import Derived.Deep.DeepCutAuto
import Derived.Deep.QuietTactic
import Derived.BigQuiet
import Derived.Laws.EntriesVeiled
namespace Go.Proofs.YtohknemfcohhfaaDoor
open Go.RowKit Go.VS
/-- a variable that is only read: known from now on. -/
theorem _root_.Go.VS.Box.pub {w : World} {D : Gh} (hk : Keeps D w) (t : TypeId) (cs : Array Value) : ∃ D', Grow w D (w.alloc (.cells cs t)) D' ∧ ∀ o u, cs[o]? = some u → D' w.heap.size o = some u :=
  let ⟨D', h1, _, h3, _⟩ := ((Grow.refl hk).alloc (.cells cs t)).pubBox (Box.new2 hk rfl t cs) (Nat.le_refl _)
  ⟨D', h1, h3⟩
set_option maxRecDepth 100000 in
set_option maxHeartbeats 1000000 in
theorem rstart_c {sh : List UInt8 → List UInt8} (hs : Sh sh) (A : Option Addr) (n c : Nat) (seed : List UInt8) (hn : n ≤ 1000) (m u i j : Int) (D : Gh) (w : World) (hk : Keeps D w) (hb : BS D (.slice A n c) seed) :
    Calls Tryd.prog 74 #[keyV A n c m u, .int .i64 i, .int .i64 j] w fun e w' => e = .returned (dg (startF (tagB sh) seed i j)) ∧ Below w.heap.size w w' := by
  obtain ⟨i0, hi, hz0, hz1, hz2⟩ := info_parts info5
  obtain ⟨hn1, hn2, hn3⟩ := hb.len
  have HN := Lib.hid hn1
  clear hn1
  have hk0 := hk.alloc (.cells #[.slice A n c, .int .i64 m, .int .i64 u] 45)
  have hB1 := (Box.new2 hk rfl 45 #[.slice A n c, .int .i64 m, .int .i64 u])
  have hB2 := Box.new2 hk0 (g := w.heap.size + 1) (by simp) 26 (darr [])
  have c0 := (hB1.alloc (.cells (darr []) 26)).cell 0
  have hG0 : Grow w D ((w.alloc (.cells #[.slice A n c, .int .i64 m, .int .i64 u] 45)).alloc (.cells (darr []) 26)) D := ((Grow.refl hk).alloc _).alloc _
  have hsz : ((w.alloc (.cells #[.slice A n c, .int .i64 m, .int .i64 u] 45)).alloc (.cells (darr []) 26)).heap.size = w.heap.size + 1 + 1 := by simp
  have hown0 := own_e0 (s := 1) (Nat.le_refl _) (heap_alloc_new ((w.alloc (.cells #[.slice A n c, .int .i64 m, .int .i64 u] 45)).alloc (.cells (darr []) 26)) (.cells #[] 5))
  rw [hsz] at hown0
  have cc := (hB1.alloc (.cells (darr []) 26)).alloc (.cells #[] 5)
  have c0 := cc.cell 0
  have hbB := hb.le hG0.le
  clear hB1 cc
  go_enter Tryd.func74, Tryd.ntmps74
  go_wp2_with (at_builtin; refine wpList_append_sl _ rfl _ _ 22 rfl (w.heap.size + 1 + 1) 5 i0 (.int .u8 0) 1 Tryd.underlying22 hi hz0 hz1 hz2 rfl _ 0 [] rfl hown0 D (hG0.keeps.alloc _) _ _ _ _ rfl hbB (bv_one _) ?c1 ?c2 ?c3 ?_)
  case c1 => unfold maxLen; omega
  case c2 => omega
  case c3 => first | (simp; done) | (simp; omega)
  intro A1 cap1 w1 hown1 hg1 hb1
  have hG1 : Grow w D w1 D := (hG0.alloc _).row hg1 (by simp only [Value.ownBlock]; rintro k ⟨rfl⟩; omega) (by simp only [Value.ownBlock]; rintro k ⟨rfl⟩; exact hG0.keeps.offNew (by omega))
  have hB2a : Box w1 D (w.heap.size + 1) 26 (darr []) := (hB2.alloc (.cells #[] 5)).grown hg1 (by simp [Value.ownBlock])
  clear hg1 hb1 hown0 c0 hsz hB2
  obtain ⟨D2, hG2, hb2⟩ := bs_new2 hG1.keeps i j (g := w1.heap.size) rfl
  go_wp2_with (at_builtin; refine wpList_append_sl _ rfl _ _ 22 rfl (w.heap.size + 1 + 1) 5 i0 (.int .u8 0) 1 Tryd.underlying22 hi hz0 hz1 hz2 rfl _ _ _ rfl (own_alloc hown1 _) D2 hG2.keeps _ _ _ _ rfl hb2 (bv_one _) ?c1 ?c2 ?c3 ?_)
  case c1 => unfold maxLen; omega
  case c2 => omega
  case c3 => have := hG1.below.size; have := (hB2a.lt); simp; omega
  intro A6 cap6 w6 hown6 hg6 hb6
  have hoff1 : ∀ g, Value.ownBlock (.slice A1 n cap1) = some g → w.heap.size ≤ g ∧ D.off g := fun g h => ⟨by have := (hown1.lt g h).1; omega, hk.offNew (by have := (hown1.lt g h).1; omega)⟩
  have hG6 : Grow w D w6 D := (hG1.alloc _).row hg6 (fun k h => (hoff1 k h).1) (fun k h => (hoff1 k h).2)
  have hB2b : Box w6 D (w.heap.size + 1) 26 (darr []) := (hB2a.alloc _).grown hg6 (fun h => by have := (hown1.lt _ h.symm).1; omega)
  obtain ⟨D7, hG7, hle7, hsl7, hoff7⟩ := hG6.pub hown6 (by omega) (fun g h => hk.offNew (by have := (hown6.lt g h).1; omega))
  have hb7 : BS D7 (.slice A6 (n + 2) cap6) (seed ++ [b8 i, b8 j]) := by
    unfold BS; rw [List.map_append]; simpa using hsl7
  have hB2c := hB2b.le (hoff7 _ hB2b.off (fun h => by have := (hown6.lt _ h).1; omega))
  clear hown1 hown6 hg6 hb6 hG6 hsl7 hoff7 hle7 hB2a hB2b hG2 hb2 hoff1 hG1
  go_wp2_with fail
  refine (rtag_c hs secretT (by decide) _ _ _ (seed ++ [b8 i, b8 j]) D7 _ hG7.keeps hb7 (by omega)).mono ?_
  rintro e w9 ⟨rfl, hb9⟩
  have hB4z := hB2c.below hb9 hB2c.lt
  have hbel6 := belowVia hb9 hG7.below
  have hr32 := Lib.hid (show (tagB sh secretT (seed ++ [b8 i, b8 j])).length = 32 from hs.len _)
  have HST := Lib.hid (show startF (tagB sh) seed i j = tagB sh secretT (seed ++ [b8 i, b8 j]) from rfl)
  generalize hr : tagB sh secretT (seed ++ [b8 i, b8 j]) = r at hr32 HST ⊢
  clear hr
  rw [dg_darr r hr32.out]
  have hsr : (darr []).size = (darr r).size := by rw [darr_size _ (by simp), darr_size _ (by rw [hr32.out]; omega)]
  have hsr26 := sz26 r hr32.out
  go_wp2_with (refine wpList_store_row rfl 26 _ _ rfl (w.heap.size + 1) (darr r) rfl rfl 26 (darr []) hB4z.heap hsr26 hsr (darr_one _) ?_)
  refine bodyPost_ret (results_cell_row rfl _ _ _ _ _ _ _ rfl (hB4z.setRow _).heap Tryd.underlying26 rfl hsr26) rfl ⟨?_, belowRow hbel6 (by omega) _⟩
  rw [HST.out, dg_darr r hr32.out]
theorem bs_new3 {w : World} {D : Gh} (hk : Keeps D w) (x y z : Int) {g : Nat} (hg : g = w.heap.size) : ∃ D', Grow w D (w.alloc (.cells #[.int .u8 (x % 256), .int .u8 (y % 256), .int .u8 (z % 256)] 5)) D' ∧ BS D' (.slice (some ⟨g, 0, none⟩) 3 3) [b8 x, b8 y, b8 z] := by
  subst hg
  have h := BS.new hk [b8 x, b8 y, b8 z] 5 (by simp [maxLen]) (w' := w.alloc (.cells #[.int .u8 (x % 256), .int .u8 (y % 256), .int .u8 (z % 256)] 5)) (by simp only [List.map_cons, List.map_nil, bv_b8]; exact heap_alloc_new w _) ((Below.refl _ _).alloc (Nat.le_refl _) _)
  exact h
set_option maxRecDepth 100000 in
set_option maxHeartbeats 1000000 in
theorem rclimb32_c {sh : List UInt8 → List UInt8} (hs : Sh sh) (i j a b : Int) (ha : 0 ≤ a) (ha2 : a ≤ 100) (hb1 : 0 ≤ b) (hb2 : b ≤ 100) (d : List UInt8) (hd : d.length = 32) (D : Gh) (w : World) (hk : Keeps D w) :
    Calls Tryd.prog 73 #[dg d, .int .i64 i, .int .i64 j, .int .i64 a, .int .i64 b] w fun e w' => e = .returned (dg (adv (tagB sh) i j a b d)) ∧ Below w.heap.size w w' := by
  obtain ⟨i0, hi, hz0, hz1, hz2⟩ := info_parts info5
  have HD := Lib.hid hd
  rw [dg_darr d hd]
  have hsz := sz26 d hd
  clear hd
  have hB1 := (Box.new2 hk rfl 26 (darr d)).alloc (.cells (darr []) 26)
  have hB2 := Box.new2 (hk.alloc (.cells (darr d) 26)) (g := w.heap.size + 1) (by simp) 26 (darr [])
  have hbel0 : Below w.heap.size w ((w.alloc (.cells (darr d) 26)).alloc (.cells (darr []) 26)) := (by repeat (first | (with_reducible exact Below.refl _ _) | (with_reducible refine Below.drew ?_) | (with_reducible refine belowDrewN ?_ _) | (with_reducible refine belowAlloc ?_ _) | ((with_reducible refine belowSet2 ?_ ?_); omega) | (with_reducible assumption) | (with_reducible refine belowVia (by assumption) ?_) | (with_reducible refine belowVia (Grow.below (by assumption)) ?_)))
  go_enter Tryd.func73, Tryd.ntmps73
  go_wp2_with fail
  have HS := Lib.hid (adv_self (tagB sh) i j a a (by omega) d)
  go_loopw [11] (fun y wr => ∃ k : Int, a ≤ k ∧ (k ≤ b ∨ k = a) ∧ y = .int .i64 k ∧ Below w.heap.size w wr ∧ Box wr D w.heap.size 26 (darr (adv (tagB sh) i j a k d)) ∧ Box wr D (w.heap.size + 1) 26 (darr [])) (fun y _ => (b - intOf y).toNat)
  case atStart => exact ⟨a, by omega, .inr rfl, rfl, hbel0, by rw [HS.out]; exact hB1, hB2⟩
  case round =>
    clear hB1 hB2 hbel0
    obtain ⟨k, hak, hkb, rfl, hbr, hB1, hB2⟩ := hrel
    by_cases hlt : k < b
    · have HSU := Lib.hid (adv_succ (tagB sh) i j a k hak d)
      have HX := Lib.hid (show (adv (tagB sh) i j a k d).length = 32 from adv_len hs i j a k d HD.out)
      generalize adv (tagB sh) i j a k d = x at *
      have g0 : 0 ≤ k := by omega
      have g1 : k ≤ 100 := by omega
      have hk256 : k % 256 = k := by omega
      have hkr : Keeps D wr := hk.below hbr (Nat.le_refl _)
      obtain ⟨D1, hG1, hbs1⟩ := bs_new3 hkr i j k (g := wr.heap.size) rfl
      rw [hk256] at hG1
      have hG2 := (Grow.of_below hk hbr).trans hG1
      obtain ⟨D2, hG3, hle3, hbs3, _⟩ := dgBox_bs hG2 (hB1.grow hG1) HX.out (Nat.le_refl _)
      have hB1' := hB1.alloc (.cells #[.int .u8 (i % 256), .int .u8 (j % 256), .int .u8 k] 5)
      have hB2' := hB2.alloc (.cells #[.int .u8 (i % 256), .int .u8 (j % 256), .int .u8 k] 5)
      have hbs1' := hbs1.le hle3
      obtain ⟨A4, c4, w4, hrun4, D4, hG4, hb4⟩ := run_append_full (P := Tryd.prog) (wr.alloc (.cells #[.int .u8 (i % 256), .int .u8 (j % 256), .int .u8 k] 5)) 22 22 5 i0 (.int .u8 0) 1 Tryd.underlying22 hi hz0 hz1 hz2 rfl D2 hG3.keeps _ 3 _ hbs1' (by omega) _ 32 32 _ hbs3 (by unfold maxLen; omega) (by omega)
      have hb4' : BS D4 (.slice A4 (3 + 32) c4) ([b8 i, b8 j, b8 k] ++ x) := by unfold BS; rw [List.map_append]; exact hb4
      have hG5 := hG3.trans hG4
      have hB1e := hB1'.below hG4.below hB1'.lt
      have hB2e := hB2'.below hG4.below hB2'.lt
      clear hB1 hB2 hB1' hB2' hbs1 hbs1' hle3 hG3 hG2 hG1 hkr hbr hbs3 hb4 hG4
      go_wp2_with (at_builtin; refine Lib.wpList_append_run _ rfl _ _ 22 22 rfl _ _ rfl rfl _ _ hrun4 ?_)
      refine (rtag_c hs chainT (by decide) _ _ _ ([b8 i, b8 j, b8 k] ++ x) D4 _ hG5.keeps hb4' (by omega)).mono ?_
      rintro e w3 ⟨rfl, hb3⟩
      have hB1f := hB1e.below hb3 hB1e.lt
      have hB2f := hB2e.below hb3 hB2e.lt
      have hbel6 := belowVia hb3 hG5.below
      have hr32 := Lib.hid (show (tagB sh chainT ([b8 i, b8 j, b8 k] ++ x)).length = 32 from hs.len _)
      generalize hr : tagB sh chainT ([b8 i, b8 j, b8 k] ++ x) = r at hr32 HSU ⊢
      clear hr hB1e hB2e hb3 hb4' hG5 hrun4
      rw [dg_darr r hr32.out]
      have hsr : (darr x).size = (darr r).size := by rw [darr_size _ (by rw [HX.out]; omega), darr_size _ (by rw [hr32.out]; omega)]
      have hsr26 := sz26 r hr32.out
      go_wp2_with (refine wpList_store_row rfl 26 _ _ rfl w.heap.size (darr r) rfl rfl 26 (darr x) hB1f.heap hsr26 hsr (darr_one _) ?_)
      have hne : w.heap.size + 1 ≠ w.heap.size := by omega
      go_roundw
      case rel =>
        exact ⟨k + 1, by omega, by omega, by go_num, belowRow hbel6 (by omega) _, by rw [HSU.out]; exact hB1f.setRow _, hB2f.farRow hne _⟩
      case measure => simp [intOf]; omega
    · have HSF := Lib.hid (show adv (tagB sh) i j a k d = adv (tagB sh) i j a b d by
        rcases hkb with h | rfl
        · rw [show k = b by omega]
        · rw [adv_self _ _ _ _ _ (by omega), adv_self _ _ _ _ _ (by omega)])
      rw [HSF.out] at hB1
      have hr32 := Lib.hid (adv_len hs i j a b d HD.out)
      clear HSF
      generalize hr : adv (tagB sh) i j a b d = r at *
      have HR := Lib.hid hr
      clear hr
      have g1 : ¬ k < b := hlt
      have hsr : (darr []).size = (darr r).size := by rw [darr_size _ (by simp), darr_size _ (by rw [hr32.out]; omega)]
      have hsr26 := sz26 r hr32.out
      go_wp2_with (first | ((with_reducible show wpList _ _ _ ((⟨_, .load 26 _, _, _, _, _⟩ : Oper) :: _) _ _); refine wpList_load_row rfl 26 _ rfl (w.heap.size) rfl 26 _ (0, 0) _ (hB1.heap) Tryd.underlying26 rfl (hsr26) ?_) | ((with_reducible show wpList _ _ _ ((⟨_, .store 26 _ _, _, _, _, _⟩ : Oper) :: _) _ _); refine wpList_store_row rfl 26 _ _ rfl (w.heap.size + 1) (darr r) rfl rfl 26 (darr []) (hB2.heap) (hsr26) (hsr) (darr_one _) ?_))
      exact bodyPost_ret (results_cell_row rfl _ _ _ _ _ _ _ rfl (hB2.setRow _).heap Tryd.underlying26 rfl hsr26) rfl ⟨by rw [HR.out, dg_darr r hr32.out], belowRow hbr (by omega) _⟩
set_option maxRecDepth 100000 in
set_option maxHeartbeats 1000000 in
theorem rone_c {sh : List UInt8 → List UInt8} (hs : Sh sh) (A : Option Addr) (n c : Nat) (ends : List (List UInt8)) (hn : n ≤ 1000) (D : Gh) (w : World) (hk : Keeps D w) (hd : DS D (.slice A n c) ends) :
    Calls Tryd.prog 77 #[.slice A n c] w fun e w' => e = .returned (dg (oneF (tagB sh) ends)) ∧ Below w.heap.size w w' := by
  obtain ⟨i0, hi, hz0, hz1, hz2⟩ := info_parts info5
  obtain ⟨hnl, hnc, hcm⟩ := hd.len
  unfold maxLen at hcm
  have HN := Lib.hid hnl
  clear hnl
  have hB2 := Box.new2 hk rfl 26 (darr [])
  have hG0 := (Grow.refl hk).alloc (.cells (darr []) 26)
  have hown0 := Lib.hid (show ((w.alloc (.cells (darr []) 26)).alloc (.cells #[] 5)).ownsRow (w.heap.size + 1) 5 1 (.slice (some ⟨w.heap.size + 1, 0, none⟩) (32 * 0) 0) (32 * 0) ((ends.take 0).flatten.map bv) from by
    have h := own_e0 (s := 1) (Nat.le_refl _) (heap_alloc_new (w.alloc (.cells (darr []) 26)) (.cells #[] 5))
    rw [show (w.alloc (.cells (darr []) 26)).heap.size = w.heap.size + 1 by simp] at h
    exact h)
  go_enter Tryd.func77, Tryd.ntmps77
  go_wp2_with fail
  go_loopw [3, 4] (fun x y wr => ∃ (k : Nat) (A1 : Option Addr) (c1 : Nat), k ≤ n ∧ x = .slice A1 (32 * k) c1 ∧ y = .int .i64 k ∧ wr.ownsRow (w.heap.size + 1) 5 1 (.slice A1 (32 * k) c1) (32 * k) ((ends.take k).flatten.map bv) ∧ Grow w D wr D ∧ Box wr D w.heap.size 26 (darr [])) (fun _ y _ => n - (intOf y).toNat)
  case atStart => exact ⟨0, _, _, by omega, rfl, rfl, hown0.out, hG0.alloc _, hB2.alloc _⟩
  case round =>
    clear hown0 hG0 hB2
    obtain ⟨k, A1, c1, hkn, rfl, rfl, hown, hG, hB2⟩ := hrel
    by_cases hlt : k < n
    · have g1 : (k : Int) < (n : Int) := by omega
      have g0 : (0 : Int) ≤ (k : Int) := by omega
      obtain ⟨b, o, rfl, h32, hrange⟩ := ds_range hd hG.keeps (k := k) (by rw [← HN.out]; exact hlt)
      have hbs := ds_bs hd (k := k) (by rw [← HN.out]; exact hlt)
      have hft := flatten_take_succ ends k (ends[k]'(by rw [← HN.out]; exact hlt)) (List.getElem?_eq_getElem _)
      rw [Nat.mul_comm 32 k] at hbs
      generalize ends[k]'(by rw [← HN.out]; exact hlt) = x at *
      have HFT := Lib.hid hft
      clear hrange h32 hft
      generalize (ends.take k).flatten = F at *
      go_wp2_with (at_builtin; refine wpList_append_sl _ rfl _ _ 22 rfl (w.heap.size + 1) 5 i0 (.int .u8 0) 1 Tryd.underlying22 hi hz0 hz1 hz2 rfl _ _ _ rfl hown D hG.keeps _ _ _ _ rfl hbs (bv_one _) ?c1 ?c2 ?c3 ?_)
      case c1 => unfold maxLen; omega
      case c2 => omega
      case c3 => exact hB2.lt
      intro A5 c5 w5 hown5 hg5 hb5
      have hoff : ∀ g, Value.ownBlock (.slice A1 (32 * k) c1) = some g → w.heap.size < g := fun g h => (hown.lt g h).1
      have hG5 : Grow w D w5 D := hG.row hg5 (fun g h => Nat.le_of_lt (hoff g h)) (fun g h => hk.offNew (Nat.le_of_lt (hoff g h)))
      have hB5 : Box w5 D w.heap.size 26 (darr []) := hB2.grown hg5 (fun h => by have := hoff _ h.symm; omega)
      have hown6 : w5.ownsRow (w.heap.size + 1) 5 1 (.slice A5 (32 * (k + 1)) c5) (32 * (k + 1)) ((ends.take (k + 1)).flatten.map bv) := by
        rw [HFT.out, List.map_append]; exact hown5
      clear hown hown5 hG hB2 hg5 hb5 hoff hbs
      go_wp2_with fail
      exact ⟨⟨k + 1, A5, c5, by omega, by first | rfl | (congr 1; omega), by first | rfl | (congr 1; omega), hown6, hG5, hB5⟩, by simp only [intOf]; omega⟩
    · obtain rfl : k = n := by omega
      have g1 : ¬ ((k : Int) < (k : Int)) := by omega
      have hfull : ends.take k = ends := List.take_of_length_le (by rw [HN.out]; exact Nat.le_refl _)
      rw [hfull] at hown
      obtain ⟨D2, hG2, hle2, hsl2, hoff2⟩ := hG.pub hown (by omega) (fun g h => hk.offNew (by have := (hown.lt g h).1; omega))
      have hbs : BS D2 (.slice A1 (32 * k) c1) ends.flatten := hsl2
      have hB3 := hB2.le (hoff2 _ hB2.off (fun h => by have := (hown.lt _ h).1; omega))
      clear hown hG hB2 hsl2 hoff2 hfull hle2
      have HON := Lib.hid (show oneF (tagB sh) ends = tagB sh oneT ends.flatten from rfl)
      go_wp2_with fail
      refine (rtag_c hs oneT (by decide) _ _ _ ends.flatten D2 _ hG2.keeps hbs (by omega)).mono ?_
      rintro e w9 ⟨rfl, hb9⟩
      have hB4z := hB3.below hb9 hB3.lt
      have hbel6 := belowVia hb9 hG2.below
      have hr32 := Lib.hid (show (tagB sh oneT ends.flatten).length = 32 from hs.len _)
      generalize tagB sh oneT ends.flatten = r at hr32 HON ⊢
      rw [dg_darr r hr32.out]
      have hsr : (darr []).size = (darr r).size := by rw [darr_size _ (by simp), darr_size _ (by rw [hr32.out]; omega)]
      have hsr26 := sz26 r hr32.out
      go_wp2_with (refine wpList_store_row rfl 26 _ _ rfl w.heap.size (darr r) rfl rfl 26 (darr []) hB4z.heap hsr26 hsr (darr_one _) ?_)
      refine bodyPost_ret (results_cell_row rfl _ _ _ _ _ _ _ rfl (hB4z.setRow _).heap Tryd.underlying26 rfl hsr26) rfl ⟨?_, belowRow hbel6 (by omega) _⟩
      rw [HON.out, dg_darr r hr32.out]
theorem sl_new {w : World} {D : Gh} (hk : Keeps D w) (vs : List Value) (t : TypeId) (hl : vs.length ≤ maxLen) {g : Nat} (hg : g = w.heap.size) :
    ∃ D', Grow w D (w.alloc (.cells vs.toArray t)) D' ∧ Sl D' (.slice (some ⟨g, 0, none⟩) vs.length vs.length) vs := by
  subst hg
  exact pub_row (e := t) (v := .slice (some ⟨w.heap.size, 0, none⟩) vs.length vs.length) (n := vs.length) (vs := vs) hk ((Below.refl _ _).alloc (Nat.le_refl _) _) (Nat.le_refl _) ⟨by simp, .inr ⟨w.heap.size, _, _, rfl, Nat.le_refl _, heap_alloc_new w _, Nat.le_refl _, hl, by simp, by simp⟩⟩
theorem info3 : (Tryd.prog.info? 3).map (fun i => (i.zero, i.size, i.bytes)) = some (some (.int .i64 0), 1, 8) := by kernel_rfl
theorem iv_one (l : List Int) : ∀ u ∈ l.map (Value.int .i64), u.oneCell' = true := by
  intro u hu
  obtain ⟨x, _, rfl⟩ := List.mem_map.1 hu
  rfl
theorem hex_take (d : List UInt8) (i : Nat) (c : UInt8) (h : d[i]? = some c) : (d.take (i + 1)).flatMap hex2 = (d.take i).flatMap hex2 ++ [(c.toNat : Int) / 16, (c.toNat : Int) % 16] := by
  rw [List.take_add_one, h]
  simp [hex2]
set_option maxRecDepth 100000 in
set_option maxHeartbeats 1000000 in
theorem rhash_c {sh : List UInt8 → List UInt8} (hs : Sh sh) (p : List UInt8) (hp : p.length = 32) (u : Int) (A : Option Addr) (n c : Nat) (msg : List UInt8) (hn : n ≤ 65536) (D : Gh) (w : World) (hk : Keeps D w) (hb : BS D (.slice A n c) msg) :
    Calls Tryd.prog 72 #[dg p, .int .i64 u, .slice A n c] w fun e w' => e = .returned (dg (hashF (tagB sh) p u msg)) ∧ Below w.heap.size w w' := by
  obtain ⟨i0, hi, hz0, hz1, hz2⟩ := info_parts info5
  obtain ⟨hn1, hn2, hn3⟩ := hb.len
  have HN := Lib.hid hn1
  have HP := Lib.hid hp
  rw [dg_darr p hp]
  clear hn1 hp
  have hB1 := Box.new2 hk rfl 26 (darr p)
  obtain ⟨D1, hG1, hle1, hbs1, hoff1⟩ := dgBox_bs ((Grow.refl hk).alloc (.cells (darr p) 26)) hB1 HP.out (Nat.le_refl _)
  have hB2 := Box.new2 hG1.keeps (g := w.heap.size + 1) (by simp) 26 (darr [])
  have hG0 := hG1.alloc (.cells (darr []) 26)
  have hsz : ((w.alloc (.cells (darr p) 26)).alloc (.cells (darr []) 26)).heap.size = w.heap.size + 1 + 1 := by simp
  have hown0 := own_e0 (s := 1) (Nat.le_refl _) (heap_alloc_new ((w.alloc (.cells (darr p) 26)).alloc (.cells (darr []) 26)) (.cells #[] 5))
  rw [hsz] at hown0
  have hbB := hb.le hG1.le
  clear hB1 hle1 hoff1 hG1
  go_enter Tryd.func72, Tryd.ntmps72
  go_wp2_with (at_builtin; refine wpList_append_sl _ rfl _ _ 22 rfl (w.heap.size + 1 + 1) 5 i0 (.int .u8 0) 1 Tryd.underlying22 hi hz0 hz1 hz2 rfl _ 0 [] rfl hown0 D1 (hG0.keeps.alloc _) _ _ _ _ rfl hbs1 (bv_one _) ?c1 ?c2 ?c3 ?_)
  case c1 => unfold maxLen; omega
  case c2 => omega
  case c3 => first | (simp; done) | (simp; omega)
  intro A1 cap1 w1 hown1 hg1 hb1
  have hG1 : Grow w D w1 D1 := (hG0.alloc _).row hg1 (by simp only [Value.ownBlock]; rintro k ⟨rfl⟩; omega) (by simp only [Value.ownBlock]; rintro k ⟨rfl⟩; exact hG0.keeps.offNew (by omega))
  have hB2a : Box w1 D1 (w.heap.size + 1) 26 (darr []) := (hB2.alloc (.cells #[] 5)).grown hg1 (by simp [Value.ownBlock])
  have hbig : ∀ k, D1.off k ∨ k < w.heap.size + 1 + 1 := fun k => by
    rcases Nat.lt_or_ge k (w.heap.size + 1 + 1) with h | h
    · exact .inr h
    · exact .inl (hG0.keeps.offNew (by omega))
  have HBIG := Lib.hid hbig
  clear hg1 hb1 hown0 hsz hB2 hG0 hbig
  obtain ⟨D2, hG2, hb2⟩ := bs_new1 hG1.keeps u (g := w1.heap.size) rfl
  go_wp2_with (at_builtin; refine wpList_append_sl _ rfl _ _ 22 rfl (w.heap.size + 1 + 1) 5 i0 (.int .u8 0) 1 Tryd.underlying22 hi hz0 hz1 hz2 rfl _ _ _ rfl (own_alloc hown1 _) D2 hG2.keeps _ _ _ _ rfl hb2 (bv_one _) ?c1 ?c2 ?c3 ?_)
  case c1 => unfold maxLen; omega
  case c2 => omega
  case c3 => have := hB2a.lt; simp; omega
  intro A6 cap6 w6 hown6 hg6 hb6
  have hoff1 : ∀ g, Value.ownBlock (.slice A1 32 cap1) = some g → w.heap.size + 1 + 1 ≤ g ∧ D1.off g := fun g h => ⟨(hown1.lt g h).1, (HBIG.out g).elim id fun h' => by have := (hown1.lt g h).1; omega⟩
  have hG6 : Grow w D w6 D1 := (hG1.alloc _).row hg6 (fun k h => by have := (hoff1 k h).1; omega) (fun k h => (hoff1 k h).2)
  have hB2b : Box w6 D1 (w.heap.size + 1) 26 (darr []) := (hB2a.alloc _).grown hg6 (fun h => by have := (hown1.lt _ h.symm).1; omega)
  clear hown1 hg6 hb6 hG1 hG2 hb2 hB2a hoff1
  go_wp2_with (at_builtin; refine wpList_append_sl _ rfl _ _ 22 rfl (w.heap.size + 1 + 1) 5 i0 (.int .u8 0) 1 Tryd.underlying22 hi hz0 hz1 hz2 rfl _ _ _ rfl hown6 D1 hG6.keeps _ _ _ _ rfl hbB (bv_one _) ?c1 ?c2 ?c3 ?_)
  case c1 => unfold maxLen; omega
  case c2 => omega
  case c3 => have := hB2b.lt; omega
  intro A7 cap7 w7 hown7 hg7 hb7
  have hoff1 : ∀ g, Value.ownBlock (.slice A6 (32 + 1) cap6) = some g → w.heap.size + 1 + 1 ≤ g ∧ D1.off g := fun g h => ⟨(hown6.lt g h).1, (HBIG.out g).elim id fun h' => by have := (hown6.lt g h).1; omega⟩
  have hG7 : Grow w D w7 D1 := hG6.row hg7 (fun k h => by have := (hoff1 k h).1; omega) (fun k h => (hoff1 k h).2)
  have hB2c : Box w7 D1 (w.heap.size + 1) 26 (darr []) := hB2b.grown hg7 (fun h => by have := (hown6.lt _ h.symm).1; omega)
  obtain ⟨D8, hG8, hle8, hsl8, hoff8⟩ := hG7.pub hown7 (by omega) (fun g h => (HBIG.out g).elim id fun h' => by have := (hown7.lt g h).1; omega)
  have hb8 : BS D8 (.slice A7 (32 + 1 + n) cap7) (p ++ ([b8 u] ++ msg)) := by
    unfold BS; rw [List.map_append, List.map_append]; simpa using hsl8
  have hB2d := hB2c.le (hoff8 _ hB2c.off (fun h => by have := (hown7.lt _ h).1; omega))
  clear hown6 hown7 hg7 hb7 hG6 hG7 hsl8 hoff8 hle8 hB2b hB2c hoff1
  go_wp2_with fail
  refine (rtag_c hs messageT (by decide) _ _ _ (p ++ ([b8 u] ++ msg)) D8 _ hG8.keeps hb8 (by omega)).mono ?_
  rintro e w9 ⟨rfl, hb9⟩
  have hB4z := hB2d.below hb9 hB2d.lt
  have hbel6 := belowVia hb9 hG8.below
  have hr32 := Lib.hid (show (tagB sh messageT (p ++ ([b8 u] ++ msg))).length = 32 from hs.len _)
  have HST := Lib.hid (show hashF (tagB sh) p u msg = tagB sh messageT (p ++ ([b8 u] ++ msg)) from rfl)
  generalize hr : tagB sh messageT (p ++ ([b8 u] ++ msg)) = r at hr32 HST ⊢
  clear hr
  rw [dg_darr r hr32.out]
  have hsr : (darr []).size = (darr r).size := by rw [darr_size _ (by simp), darr_size _ (by rw [hr32.out]; omega)]
  have hsr26 := sz26 r hr32.out
  go_wp2_with (refine wpList_store_row rfl 26 _ _ rfl (w.heap.size + 1) (darr r) rfl rfl 26 (darr []) hB4z.heap hsr26 hsr (darr_one _) ?_)
  refine bodyPost_ret (results_cell_row rfl _ _ _ _ _ _ _ rfl (hB4z.setRow _).heap Tryd.underlying26 rfl hsr26) rfl ⟨?_, belowRow hbel6 (by omega) _⟩
  rw [HST.out, dg_darr r hr32.out]
set_option maxRecDepth 100000 in
set_option maxHeartbeats 1000000 in
theorem rDigits_c (d : List UInt8) (hd : d.length = 32) (D : Gh) (w : World) (hk : Keeps D w) :
    Calls Tryd.prog 43 #[dg d] w fun e w' => ∃ A' c' D', e = .returned (.slice A' 67 c') ∧ Grow w D w' D' ∧ NS D' (.slice A' 67 c') (digF d) := by
  obtain ⟨i0, hi, hz0, hz1, hz2⟩ := info_parts info3
  have HD := Lib.hid hd
  rw [dg_darr d hd]
  clear hd
  have hB1 := Box.new2 hk rfl 26 (darr d)
  have hG1 := (Grow.refl hk).alloc (.cells (darr d) 26)
  have hown0 := Lib.hid (show ((w.alloc (.cells (darr d) 26)).alloc (.cells #[] 3)).ownsRow (w.heap.size + 1) 3 1 (.slice (some ⟨w.heap.size + 1, 0, none⟩) (2 * 0) 0) (2 * 0) (((d.take 0).flatMap hex2).map (Value.int .i64)) from by
    have h := own_e0 (s := 1) (e := 3) (Nat.le_refl _) (heap_alloc_new (w.alloc (.cells (darr d) 26)) (.cells #[] 3))
    rw [show (w.alloc (.cells (darr d) 26)).heap.size = w.heap.size + 1 by simp] at h
    exact h)
  go_enter Tryd.func43, Tryd.ntmps43
  go_wp2_with fail
  go_loopw [3, 4, 5] (fun x s y wr => ∃ (k : Nat) (A1 : Option Addr) (c1 : Nat), k ≤ 32 ∧ x = .slice A1 (2 * k) c1 ∧ s = .int .i64 (dsum (d.take k)) ∧ y = .int .i64 k ∧ wr.ownsRow (w.heap.size + 1) 3 1 (.slice A1 (2 * k) c1) (2 * k) (((d.take k).flatMap hex2).map (Value.int .i64)) ∧ Grow w D wr D ∧ Box wr D w.heap.size 26 (darr d)) (fun _ _ y _ => 32 - (intOf y).toNat)
  case atStart => exact ⟨0, _, _, by omega, rfl, rfl, rfl, hown0.out, hG1.alloc _, hB1.alloc _⟩
  case round =>
    clear hown0 hG1 hB1
    obtain ⟨k, A1, c1, hkn, rfl, rfl, rfl, hown, hG, hB⟩ := hrel
    have hsl := dsum_le (d.take k)
    have htl : (d.take k).length = k := by rw [List.length_take, HD.out]; omega
    rw [htl] at hsl
    by_cases hlt : k < 32
    · have g1 : (k : Int) < 32 := by omega
      have g0 : (0 : Int) ≤ (k : Int) := by omega
      obtain ⟨x, hx⟩ : ∃ x, d[k]? = some x := ⟨_, List.getElem?_eq_getElem (by rw [HD.out]; exact hlt)⟩
      have hc : wr.cell? ⟨w.heap.size, k, none⟩ = some (.int .u8 (x.toNat : Int)) := (hB.cell k).trans (show (darr d)[k]? = some (bv x) by rw [darr_full d HD.out]; simp [hx])
      have HHT := Lib.hid (hex_take d k x hx)
      have HSU := Lib.hid (dsum_succ d k x hx)
      generalize (d.take k).flatMap hex2 = F at *
      generalize dsum (d.take k) = sm at *
      have hxb : (x.toNat : Int) < 256 := by have := x.toNat_lt; omega
      have hx0 : (0 : Int) ≤ (x.toNat : Int) := by omega
      have q1 : (x.toNat : Int).tdiv 16 = (x.toNat : Int) / 16 := Int.tdiv_eq_ediv_of_nonneg hx0
      have q2 : (x.toNat : Int).tmod 16 = (x.toNat : Int) % 16 := Int.tmod_eq_emod_of_nonneg hx0
      obtain ⟨a, ha⟩ : ∃ a : Int, (x.toNat : Int) / 16 = a := ⟨_, rfl⟩
      obtain ⟨b, hb⟩ : ∃ b : Int, (x.toNat : Int) % 16 = b := ⟨_, rfl⟩
      have ra : 0 ≤ a ∧ a < 16 := by omega
      have rb : 0 ≤ b ∧ b < 16 := by omega
      obtain ⟨ra1, ra2⟩ := ra
      obtain ⟨rb1, rb2⟩ := rb
      rw [ha, hb] at HHT HSU
      obtain ⟨D2, hG2, hsl2⟩ := sl_new hG.keeps [.int .i64 a, .int .i64 b] 3 (by simp [maxLen]) (g := wr.heap.size) rfl
      have hsl2' : Sl D2 (.slice (some ⟨wr.heap.size, 0, none⟩) 2 2) [.int .i64 a, .int .i64 b] := hsl2
      clear hsl2 hx
      obtain ⟨hsl_1, hsl_2⟩ := hsl
      go_wp2_with (at_builtin; refine wpList_append_sl _ rfl _ _ 33 rfl (w.heap.size + 1) 3 i0 (.int .i64 0) 8 Tryd.underlying33 hi hz0 hz1 hz2 rfl _ _ _ rfl (own_alloc hown _) D2 hG2.keeps _ _ _ _ rfl hsl2' (iv_one [a, b]) ?c1 ?c2 ?c3 ?_)
      case c1 => unfold maxLen; omega
      case c2 => omega
      case c3 => have := hB.lt; simp; omega
      intro A5 c5 w5 hown5 hg5 hb5
      have hoff : ∀ g, Value.ownBlock (.slice A1 (2 * k) c1) = some g → w.heap.size < g := fun g h => (hown.lt g h).1
      have hG5 : Grow w D w5 D := (hG.alloc _).row hg5 (fun g h => Nat.le_of_lt (hoff g h)) (fun g h => hk.offNew (Nat.le_of_lt (hoff g h)))
      have hB5 : Box w5 D w.heap.size 26 (darr d) := (hB.alloc _).grown hg5 (fun h => by have := hoff _ h.symm; omega)
      have hown6 : w5.ownsRow (w.heap.size + 1) 3 1 (.slice A5 (2 * (k + 1)) c5) (2 * (k + 1)) (((d.take (k + 1)).flatMap hex2).map (Value.int .i64)) := by
        rw [HHT.out, List.map_append]; exact hown5
      clear hown hown5 hG hB hg5 hb5 hoff hG2 hsl2' hc
      have hw1 : IntKind.i64.wrap (sm + 15) = sm + 15 := by rw [IntKind.wrap_i64]; omega
      have hw2 : IntKind.i64.wrap (sm + 15 - a) = sm + 15 - a := by rw [IntKind.wrap_i64]; omega
      have hw3 : IntKind.i64.wrap (sm + 15 - a + 15) = sm + 15 - a + 15 := by rw [IntKind.wrap_i64]; omega
      have hw4 : IntKind.i64.wrap (sm + 15 - a + 15 - b) = sm + 15 - a + 15 - b := by rw [IntKind.wrap_i64]; omega
      go_wp2_with fail
      go_roundw
      case rel => exact ⟨k + 1, A5, c5, by omega, by first | rfl | (congr 1; omega), by rw [HSU.out]; first | rfl | (congr 1; omega), by go_num, hown6, hG5, hB5⟩
      case measure => simp [intOf]; omega
    · obtain rfl : k = 32 := by omega
      have hfull : d.take 32 = d := List.take_of_length_le (by rw [HD.out]; exact Nat.le_refl _)
      rw [hfull] at hown ⊢
      rw [hfull] at hsl
      rw [show 2 * 32 = 64 from rfl] at hown ⊢
      have HDG := Lib.hid (show digF d = d.flatMap hex2 ++ [dsum d / 256, dsum d / 16 % 16, dsum d % 16] from rfl)
      generalize d.flatMap hex2 = F at *
      generalize dsum d = sm at *
      obtain ⟨hsl_1, hsl_2⟩ := hsl
      have q1 : sm.tdiv 256 = sm / 256 := Int.tdiv_eq_ediv_of_nonneg hsl_1
      have q2 : sm.tmod 16 = sm % 16 := Int.tmod_eq_emod_of_nonneg hsl_1
      have q3 : sm.tdiv 16 = sm / 16 := Int.tdiv_eq_ediv_of_nonneg hsl_1
      have q4 : (sm / 16).tmod 16 = sm / 16 % 16 := Int.tmod_eq_emod_of_nonneg (by omega)
      obtain ⟨D2, hG2, hsl2⟩ := sl_new hG.keeps [.int .i64 (sm / 256), .int .i64 (sm / 16 % 16), .int .i64 (sm % 16)] 3 (by simp [maxLen]) (g := wr.heap.size) rfl
      have hsl2' : Sl D2 (.slice (some ⟨wr.heap.size, 0, none⟩) 3 3) [.int .i64 (sm / 256), .int .i64 (sm / 16 % 16), .int .i64 (sm % 16)] := hsl2
      clear hsl2 hfull htl
      go_wp2_with (at_builtin; refine wpList_append_sl _ rfl _ _ 33 rfl (w.heap.size + 1) 3 i0 (.int .i64 0) 8 Tryd.underlying33 hi hz0 hz1 hz2 rfl _ _ _ rfl (own_alloc hown _) D2 hG2.keeps _ _ _ _ rfl hsl2' (iv_one [sm / 256, sm / 16 % 16, sm % 16]) ?c1 ?c2 ?c3 ?_)
      case c1 => unfold maxLen; omega
      case c2 => omega
      case c3 => have := hB.lt; simp; omega
      intro A5 c5 w5 hown5 hg5 hb5
      have hoff : ∀ g, Value.ownBlock (.slice A1 64 c1) = some g → w.heap.size < g := fun g h => (hown.lt g h).1
      have hG5 : Grow w D w5 D := (hG.alloc _).row hg5 (fun g h => Nat.le_of_lt (hoff g h)) (fun g h => hk.offNew (Nat.le_of_lt (hoff g h)))
      obtain ⟨D6, hG6, _, hsl6, _⟩ := hG5.pub hown5 (by omega) (fun g h => hk.offNew (by have := (hown5.lt g h).1; omega))
      have hns : NS D6 (.slice A5 67 c5) (digF d) := by
        unfold NS
        rw [HDG.out, List.map_append]
        exact hsl6
      have HNS := Lib.hid hns
      clear hown hown5 hg5 hb5 hoff hG2 hsl2' hG5 hsl6 hns
      go_wp2_with fail
      go_ret
      exact ⟨A5, c5, D6, rfl, hG6, HNS.out⟩
end Go.Proofs.YtohknemfcohhfaaDoor
