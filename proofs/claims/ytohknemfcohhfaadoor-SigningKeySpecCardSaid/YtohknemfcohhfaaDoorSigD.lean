/-
  What is proved here: chains of a one-time key, their ends, one-time public keys.
-/
import Derived.Test.YtohknemfcohhfaaDoorRows
import Derived.Test.YtohknemfcohhfaaDoorBaseC
import Derived.Test.YtohknemfcohhfaaDoorSha
import Derived.Test.YtohknemfcohhfaaDoorDigA
import Derived.Test.YtohknemfcohhfaaDoorDigC
import Derived.Test.YtohknemfcohhfaaDoorDigD
import Derived.Test.YtohknemfcohhfaaDoorDigE
import Derived.Test.YtohknemfcohhfaaDoorDigF
import Derived.Test.YtohknemfcohhfaaDoorDigG
import Derived.Test.YtohknemfcohhfaaDoorDigH
import Derived.Test.YtohknemfcohhfaaDoorDigI
import Derived.Test.YtohknemfcohhfaaDoorTree
import Derived.Test.YtohknemfcohhfaaDoorSign
import Derived.Test.YtohknemfcohhfaaDoorShelf
import Derived.Lib.ConvBytes
import Derived.StillTailTactics
import Derived.Lib.AppendZerosOnto
import Derived.Deep.RegionHeld3
import Derived.Stop.BytesEq
import Derived.Great.BuildSlice
import Derived.Deep.MidRow
import Derived.Deep.RegionLaw
import Derived.Deep.DeepCutAuto
import Derived.Deep.QuietTactic
import Derived.BigQuiet
import Derived.Laws.EntriesVeiled
namespace Go.Proofs.YtohknemfcohhfaaDoor
open Go.RowKit Go.VS
theorem bv_b8 (x : Int) : bv (b8 x) = .int .u8 (x % 256) := by
  unfold bv
  rw [b8_val]
/-- the name of a step of a chain. -/
def stepN (i j n : Int) : List UInt8 := [b8 i, b8 j, b8 n]
theorem advF_len {sh : List UInt8 → List UInt8} (hs : Sh sh) (i j : Int) : ∀ (k : Nat) (n : Int) (d : List UInt8), d.length = 32 → (advF (tagB sh) i j k n d).length = 32
  | 0, _, _, h => h
  | k + 1, n, _, _ => advF_len hs i j k (n + 1) _ (hs.len _)
theorem adv_len {sh : List UInt8 → List UInt8} (hs : Sh sh) (i j a b : Int) (d : List UInt8) (h : d.length = 32) : (adv (tagB sh) i j a b d).length = 32 := advF_len hs i j _ a d h
set_option maxRecDepth 100000 in
set_option maxHeartbeats 1000000 in
theorem adv_c {sh : List UInt8 → List UInt8} (hs : Sh sh) (i j a b : Int) (ha : 0 ≤ a) (ha2 : a ≤ 100) (hb1 : 0 ≤ b) (hb2 : b ≤ 100) (d : List UInt8) (hd : d.length = 32) (D : Gh) (w : World) (hk : Keeps D w) (hT : Tab D) :
    Calls Tryd.prog 84 #[.int .i64 i, .int .i64 j, .int .i64 a, .int .i64 b, dg d] w fun e w' => e = .returned (dg (adv (tagB sh) i j a b d)) ∧ Below w.heap.size w w' := by
  have HD := Lib.hid hd
  rw [dg_darr d hd]
  have hsz := sz26 d hd
  clear hd
  have hB1 := (Box.new2 hk rfl 26 (darr d)).alloc (.cells (darr []) 26)
  have hB2 := Box.new2 (hk.alloc (.cells (darr d) 26)) (g := w.heap.size + 1) (by simp) 26 (darr [])
  have hbel0 : Below w.heap.size w ((w.alloc (.cells (darr d) 26)).alloc (.cells (darr []) 26)) := (by repeat (first | (with_reducible exact Below.refl _ _) | (with_reducible refine Below.drew ?_) | (with_reducible refine belowDrewN ?_ _) | (with_reducible refine belowAlloc ?_ _) | ((with_reducible refine belowSet2 ?_ ?_); omega) | (with_reducible assumption) | (with_reducible refine belowVia (by assumption) ?_) | (with_reducible refine belowVia (Grow.below (by assumption)) ?_)))
  go_enter Tryd.func84, Tryd.ntmps84
  go_wp2_with fail
  have HS := Lib.hid (adv_self (tagB sh) i j a a (by omega) d)
  go_loopw [11] (fun y wr => ∃ k : Int, a ≤ k ∧ (k ≤ b ∨ k = a) ∧ y = .int .i64 k ∧ Below w.heap.size w wr ∧ Box wr D w.heap.size 26 (darr (adv (tagB sh) i j a k d)) ∧ Box wr D (w.heap.size + 1) 26 (darr [])) (fun y _ => (b - intOf y).toNat)
  case atStart => exact ⟨a, by omega, .inr rfl, rfl, hbel0, by rw [HS.out]; exact hB1, hB2⟩
  case round =>
    clear hB1 hB2 hbel0
    obtain ⟨k, hak, hkb, rfl, hbr, hB1, hB2⟩ := hrel
    by_cases hlt : k < b
    · have HSU := Lib.hid (adv_succ (tagB sh) i j a k hak d)
      have HX := Lib.hid (show (adv (tagB sh) i j a k d).length = 32 from adv_len hs i j a k d HD.out)
      generalize adv (tagB sh) i j a k d = x at *
      have g0 : 0 ≤ k := by omega
      have g1 : k ≤ 100 := by omega
      have HST := Lib.hid (show (stepN i j k).map bv = [.int .u8 (i % 256), .int .u8 (j % 256), .int .u8 k] by
        simp only [stepN, List.map_cons, List.map_nil, bv_b8]
        rw [show k % 256 = k by omega])
      have hkr : Keeps D wr := hk.below hbr (Nat.le_refl _)
      have hbelA : Below wr.heap.size wr (wr.alloc (.cells #[.int .u8 (i % 256), .int .u8 (j % 256), .int .u8 k] 102)) := (Below.refl _ _).alloc (Nat.le_refl _) _
      obtain ⟨D1, hG1, hbs1⟩ := BS.new hkr (stepN i j k) 102 (by simp [stepN, maxLen]) (w' := wr.alloc (.cells #[.int .u8 (i % 256), .int .u8 (j % 256), .int .u8 k] 102)) (by rw [HST.out]; exact heap_alloc_new wr _) hbelA
      have hG2 := (Grow.of_below hk hbr).trans hG1
      obtain ⟨D2, hG3, hle3, hbs3, _⟩ := dgBox_bs hG2 (hB1.grow hG1) HX.out (Nat.le_refl _)
      have hB1' := hB1.alloc (.cells #[.int .u8 (i % 256), .int .u8 (j % 256), .int .u8 k] 102)
      have hB2' := hB2.alloc (.cells #[.int .u8 (i % 256), .int .u8 (j % 256), .int .u8 k] 102)
      have hbs1' := hbs1.le hle3
      have hb1 : Below w.heap.size w (wr.alloc (.cells #[.int .u8 (i % 256), .int .u8 (j % 256), .int .u8 k] 102)).drew := (belowVia hbelA hbr).drew
      have hG3d := hG3.drew
      have hB1d := hB1'.drew
      have hB2d := hB2'.drew
      obtain ⟨W, hW⟩ : ∃ W, W = (wr.alloc (.cells #[.int .u8 (i % 256), .int .u8 (j % 256), .int .u8 k] 102)).drew := ⟨_, rfl⟩
      rw [← hW] at hG3d hB1d hB2d hb1
      clear hB1 hB2 hB1' hB2' hbs1 hle3 hG3 hG2 hG1 hbelA hkr hbr
      have hl3 : (stepN i j k).length = 3 := rfl
      rw [hl3] at hbs1'
      clear hl3
      obtain ⟨D4, hG4, hss⟩ := ss_lit2 hG3d.keeps hbs1' hbs3
      go_wp2_with fail
      go_still_tail 2, (by kernel_rfl)
      change wpList _ _ _ _ _ (World.drew (wr.alloc (.cells #[.int .u8 (i % 256), .int .u8 (j % 256), .int .u8 k] 102)))
      rw [← hW]
      clear hW hbs1' hbs3
      go_wp2_with fail
      refine (concat_c _ _ _ [stepN i j k, x] D4 _ hG4.keeps hss (by have := HX.out; simp [stepN]; omega) (by omega)).mono ?_
      rintro e w8 ⟨A8, c8, D8, rfl, hG8, hb8⟩
      have hfl : [stepN i j k, x].flatten = stepN i j k ++ x := by simp
      have hfll : [stepN i j k, x].flatten.length = 35 := by rw [hfl, List.length_append, HX.out]; rfl
      rw [hfll] at hb8 ⊢
      rw [hfl] at hb8
      clear hfl hfll
      have hG9 := (hG3d.trans hG4).trans hG8
      have hblw : Below W.heap.size W w8 := (hG4.trans hG8).below
      have hB1e := hB1d.below hblw hB1d.lt
      have hB2e := hB2d.below hblw hB2d.lt
      clear hG3d hG4 hss hG8 hb1 hblw hB1d hB2d
      go_wp2_with fail
      refine (tag_c hs chainT (by decide) _ 35 _ (stepN i j k ++ x) D8 _ hG9.keeps hb8 (by omega) (hT.le hG9.le)).mono ?_
      rintro e w3 ⟨rfl, hb3⟩
      have hB1f := hB1e.below hb3 hB1e.lt
      have hB2f := hB2e.below hb3 hB2e.lt
      have hbel6 := belowVia hb3 hG9.below
      have hr32 := Lib.hid (show (tagB sh chainT (stepN i j k ++ x)).length = 32 from hs.len _)
      generalize hr : tagB sh chainT (stepN i j k ++ x) = r at hr32 ⊢
      have HR := Lib.hid hr
      clear hr hB1e hB2e hb3 hb8 hG9
      rw [dg_darr r hr32.out]
      have hsr : (darr x).size = (darr r).size := by rw [darr_size _ (by rw [HX.out]; omega), darr_size _ (by rw [hr32.out]; omega)]
      have hsr26 := sz26 r hr32.out
      go_wp2_with (refine wpList_store_row rfl 26 _ _ rfl w.heap.size (darr r) rfl rfl 26 (darr x) hB1f.heap hsr26 hsr (darr_one _) ?_)
      go_roundw
      case rel =>
        have hne : w.heap.size + 1 ≠ w.heap.size := by omega
        first
          | exact ⟨k + 1, by omega, by omega, by go_num, belowRow hbel6 (by omega) _, by rw [HSU.out]; exact HR.out ▸ hB1f.setRow _, hB2f.farRow hne _⟩
      case measure => simp [intOf]; omega
    · have HSF := Lib.hid (show adv (tagB sh) i j a k d = adv (tagB sh) i j a b d by
        rcases hkb with h | rfl
        · rw [show k = b by omega]
        · rw [adv_self _ _ _ _ _ (by omega), adv_self _ _ _ _ _ (by omega)])
      rw [HSF.out] at hB1
      have hr32 := Lib.hid (adv_len hs i j a b d HD.out)
      clear HSF
      generalize hr : adv (tagB sh) i j a b d = r at *
      have HR := Lib.hid hr
      clear hr
      have g1 : ¬ k < b := hlt
      have hsr : (darr []).size = (darr r).size := by rw [darr_size _ (by simp), darr_size _ (by rw [hr32.out]; omega)]
      have hsr26 := sz26 r hr32.out
      go_wp2_with (first | ((with_reducible show wpList _ _ _ ((⟨_, .load 26 _, _, _, _, _⟩ : Oper) :: _) _ _); refine wpList_load_row rfl 26 _ rfl (w.heap.size) rfl 26 _ (0, 0) _ (hB1.heap) Tryd.underlying26 rfl (hsr26) ?_) | ((with_reducible show wpList _ _ _ ((⟨_, .store 26 _ _, _, _, _, _⟩ : Oper) :: _) _ _); refine wpList_store_row rfl 26 _ _ rfl (w.heap.size + 1) (darr r) rfl rfl 26 (darr []) (hB2.heap) (hsr26) (hsr) (darr_one _) ?_))
      exact bodyPost_ret (results_cell_row rfl _ _ _ _ _ _ _ rfl (hB2.setRow _).heap Tryd.underlying26 rfl hsr26) rfl ⟨by rw [HR.out, dg_darr r hr32.out], belowRow hbr (by omega) _⟩
theorem bs_new2 {w : World} {D : Gh} (hk : Keeps D w) (x y : Int) {g : Nat} (hg : g = w.heap.size) : ∃ D', Grow w D (w.alloc (.cells #[.int .u8 (x % 256), .int .u8 (y % 256)] 5)) D' ∧ BS D' (.slice (some ⟨g, 0, none⟩) 2 2) [b8 x, b8 y] := by
  subst hg
  have h := BS.new hk [b8 x, b8 y] 5 (by simp [maxLen]) (w' := w.alloc (.cells #[.int .u8 (x % 256), .int .u8 (y % 256)] 5)) (by simp only [List.map_cons, List.map_nil, bv_b8]; exact heap_alloc_new w _) ((Below.refl _ _).alloc (Nat.le_refl _) _)
  exact h
theorem ss_new2 {w : World} {D : Gh} (hk : Keeps D w) {u v : Value} {x y : List UInt8} (hu : BS D u x) (hv : BS D v y) {g : Nat} (hg : g = w.heap.size) : ∃ D', Grow w D (w.alloc (.cells #[u, v] 22)) D' ∧ SS D' (.slice (some ⟨g, 0, none⟩) 2 2) [x, y] := by
  subst hg
  exact ss_lit2 hk hu hv
set_option maxRecDepth 100000 in
set_option maxHeartbeats 1000000 in
theorem value_c {sh : List UInt8 → List UInt8} (hs : Sh sh) (A : Option Addr) (n c : Nat) (seed : List UInt8) (hn : n ≤ 1000) (u j m : Int) (hm0 : 0 ≤ m) (hm : m ≤ 100) (D : Gh) (w : World) (hk : Keeps D w) (hT : Tab D) (hb : BS D (.slice A n c) seed) :
    Calls Tryd.prog 69 #[.agg #[.slice A n c, .int .i64 u], .int .i64 j, .int .i64 m] w fun e w' => e = .returned (dg (valF (tagB sh) seed u j m)) ∧ Below w.heap.size w w' := by
  obtain ⟨hn1, hn2, hn3⟩ := hb.len
  have HN := Lib.hid hn1
  clear hn1
  have hB1 := (Box.new2 hk rfl 81 #[.slice A n c, .int .i64 u]).alloc (.cells (darr []) 26)
  have hB2 := Box.new2 (hk.alloc (.cells #[.slice A n c, .int .i64 u] 81)) (g := w.heap.size + 1) (by simp) 26 (darr [])
  have hG0 : Grow w D ((w.alloc (.cells #[.slice A n c, .int .i64 u] 81)).alloc (.cells (darr []) 26)) D := ((Grow.refl hk).alloc _).alloc _
  obtain ⟨D1, hG1, hb1⟩ := bs_new2 hG0.keeps u j (g := w.heap.size + 1 + 1) (by simp)
  obtain ⟨D2, hG2, hs2⟩ := ss_new2 hG1.keeps (hb.le hG1.le) hb1 (g := w.heap.size + 1 + 1 + 1) (by simp)
  have hB1' := (hB1.grow hG1).grow hG2
  have hB2' := (hB2.grow hG1).grow hG2
  have hG3 := (hG0.trans hG1).trans hG2
  have HL := Lib.hid (show [seed, [b8 u, b8 j]].flatten = seed ++ [b8 u, b8 j] by simp)
  have HLL := Lib.hid (show [seed, [b8 u, b8 j]].flatten.length = n + 2 by rw [HL.out, List.length_append, HN.out]; rfl)
  clear hB1 hB2 hG0 hG1 hG2 hb1
  go_enter Tryd.func69, Tryd.ntmps69
  go_wp2_with fail
  refine (concat_c _ _ _ [seed, [b8 u, b8 j]] D2 _ hG3.keeps hs2 (by rw [HLL.out]; omega) (by omega)).mono ?_
  rintro e w3 ⟨A3, c3, D3, rfl, hG4, hb3⟩
  rw [HLL.out] at hb3 ⊢
  rw [HL.out] at hb3
  have hB1 := hB1'.grow hG4
  have hB2 := hB2'.grow hG4
  have hG5 := hG3.trans hG4
  clear hG3 hs2 hB1' hB2' hG4 HL HLL
  go_wp2_with fail
  refine (tag_c hs secretT (by decide) _ _ _ (seed ++ [b8 u, b8 j]) D3 _ hG5.keeps hb3 (by omega) (hT.le hG5.le)).mono ?_
  rintro e w4 ⟨rfl, hb4⟩
  have hB1e := (hB1.below hb4 hB1.lt).alloc (.cells (darr (tagB sh secretT (seed ++ [b8 u, b8 j]))) 26)
  have hB2e := (hB2.below hb4 hB2.lt).alloc (.cells (darr (tagB sh secretT (seed ++ [b8 u, b8 j]))) 26)
  have hk4 := hG5.keeps.below hb4 (Nat.le_refl _)
  have hB3 := Box.new2 hk4 rfl 26 (darr (tagB sh secretT (seed ++ [b8 u, b8 j])))
  have hbel4 : Below w.heap.size w (w4.alloc (.cells (darr (tagB sh secretT (seed ++ [b8 u, b8 j]))) 26)) := belowAlloc (belowVia hb4 hG5.below) _
  have hr32 := Lib.hid (show (tagB sh secretT (seed ++ [b8 u, b8 j])).length = 32 from hs.len _)
  have HV := Lib.hid (show valF (tagB sh) seed u j m = adv (tagB sh) u j 0 m (tagB sh secretT (seed ++ [b8 u, b8 j])) from rfl)
  have hk5 := hk4.alloc (.cells (darr (tagB sh secretT (seed ++ [b8 u, b8 j]))) 26)
  have hle := hG5.le
  clear hB1 hB2 hG5 hb3 hb4 hk4
  generalize tagB sh secretT (seed ++ [b8 u, b8 j]) = r at *
  rw [dg_darr r hr32.out]
  have hsr : (darr []).size = (darr r).size := by rw [darr_size _ (by simp), darr_size _ (by rw [hr32.out]; omega)]
  have hsr26 := sz26 r hr32.out
  have q1 := hB1e.cell 1
  have HS := Lib.hid (fun W hk => adv_c hs u j 0 m (by omega) (by omega) hm0 hm r hr32.out D3 W hk (hT.le hle))
  rw [dg_darr r hr32.out] at HS
  go_wp2_with (first | (((with_reducible show wpList _ _ _ ((⟨_, .store 26 _ _, _, _, _, _⟩ : Oper) :: _) _ _); refine wpList_store_row rfl 26 _ _ rfl (w4.heap.size) (darr r) rfl rfl 26 (darr []) (heap_alloc_new w4 _) (hsr26) (hsr) (darr_one _) ?_); rw [World.setRow_alloc_new]) | ((with_reducible show wpList _ _ _ ((⟨_, .load 26 _, _, _, _, _⟩ : Oper) :: _) _ _); refine wpList_load_row rfl 26 _ rfl (w4.heap.size) rfl 26 _ (0, 0) _ (hB3.heap) Tryd.underlying26 rfl (hsr26) ?_))
  refine (HS.out _ hk5).mono ?_
  rintro e w6 ⟨rfl, hb6⟩
  have hB2f := hB2e.below hb6 hB2e.lt
  have hbel6 := belowVia hb6 hbel4
  rw [← HV.out]
  have ht32 := Lib.hid (show (valF (tagB sh) seed u j m).length = 32 by rw [HV.out]; exact adv_len hs u j 0 m r hr32.out)
  clear HV HS q1 hsr hsr26 hB1e hB2e hB3 hk5 hbel4
  generalize hr : valF (tagB sh) seed u j m = t at *
  have HR := Lib.hid hr
  clear hr
  rw [dg_darr t ht32.out]
  have hst : (darr []).size = (darr t).size := by rw [darr_size _ (by simp), darr_size _ (by rw [ht32.out]; omega)]
  have hst26 := sz26 t ht32.out
  go_wp2_with (first | ((with_reducible show wpList _ _ _ ((⟨_, .store 26 _ _, _, _, _, _⟩ : Oper) :: _) _ _); refine wpList_store_row rfl 26 _ _ rfl (w.heap.size + 1) (darr t) rfl rfl 26 (darr []) (hB2f.heap) (hst26) (hst) (darr_one _) ?_))
  refine bodyPost_ret (results_cell_row rfl _ _ _ _ _ _ _ rfl (hB2f.setRow _).heap Tryd.underlying26 rfl hst26) rfl ⟨?_, belowRow hbel6 (by omega) _⟩
  rw [HR.out, dg_darr t ht32.out]
set_option maxRecDepth 100000 in
set_option maxHeartbeats 1000000 in
theorem end_c {sh : List UInt8 → List UInt8} (hs : Sh sh) (A : Option Addr) (n c : Nat) (seed : List UInt8) (hn : n ≤ 1000) (u j : Int) (D : Gh) (w : World) (hk : Keeps D w) (hT : Tab D) (hb : BS D (.slice A n c) seed) :
    Calls Tryd.prog 83 #[.agg #[.slice A n c, .int .i64 u], .int .i64 j] w fun e w' => e = .returned (dg (valF (tagB sh) seed u j 15)) ∧ Below w.heap.size w w' := by
  have hB1 := (Box.new2 hk rfl 81 #[.slice A n c, .int .i64 u]).alloc (.cells (darr []) 26)
  have hB2 := Box.new2 (hk.alloc (.cells #[.slice A n c, .int .i64 u] 81)) (g := w.heap.size + 1) (by simp) 26 (darr [])
  have hbel0 : Below w.heap.size w ((w.alloc (.cells #[.slice A n c, .int .i64 u] 81)).alloc (.cells (darr []) 26)) := (by repeat (first | (with_reducible exact Below.refl _ _) | (with_reducible refine Below.drew ?_) | (with_reducible refine belowDrewN ?_ _) | (with_reducible refine belowAlloc ?_ _) | ((with_reducible refine belowSet2 ?_ ?_); omega) | (with_reducible assumption) | (with_reducible refine belowVia (by assumption) ?_) | (with_reducible refine belowVia (Grow.below (by assumption)) ?_)))
  have hk0 : Keeps D ((w.alloc (.cells #[.slice A n c, .int .i64 u] 81)).alloc (.cells (darr []) 26)) := (by repeat (with_reducible first | assumption | refine Keeps.drew ?_ | refine Keeps.drewN ?_ _ | refine Keeps.alloc ?_ _ | exact Grow.keeps (by assumption)))
  have q0 := hB1.cell 0
  have q1 := hB1.cell 1
  have HC := Lib.hid (fun W hk => value_c hs A n c seed hn u j 15 (by omega) (by omega) D W hk hT hb)
  have hr32 := Lib.hid (show (valF (tagB sh) seed u j 15).length = 32 from adv_len hs u j 0 15 _ (hs.len _))
  generalize hr : valF (tagB sh) seed u j 15 = r at *
  clear hr
  rw [dg_darr r hr32.out] at *
  have hst : (darr []).size = (darr r).size := by rw [darr_size _ (by simp), darr_size _ (by rw [hr32.out]; omega)]
  have hst26 := sz26 r hr32.out
  go_enter Tryd.func83, Tryd.ntmps83
  go_wp2_with fail
  refine (HC.out _ hk0).mono ?_
  rintro e w6 ⟨rfl, hb6⟩
  have hB2f := hB2.below hb6 hB2.lt
  have hbel6 := belowVia hb6 hbel0
  go_wp2_with (first | ((with_reducible show wpList _ _ _ ((⟨_, .store 26 _ _, _, _, _, _⟩ : Oper) :: _) _ _); refine wpList_store_row rfl 26 _ _ rfl (w.heap.size + 1) (darr r) rfl rfl 26 (darr []) (hB2f.heap) (hst26) (hst) (darr_one _) ?_))
  exact bodyPost_ret (results_cell_row rfl _ _ _ _ _ _ _ rfl (hB2f.setRow _).heap Tryd.underlying26 rfl hst26) rfl ⟨rfl, belowRow hbel6 (by omega) _⟩
/-- a function of chains, with its receiver. -/
abbrev endV (fn : Nat) (recv : Value) : Value := .func (.func fn) #[recv] #[]
set_option maxRecDepth 100000 in
set_option maxHeartbeats 1000000 in
theorem one83_c {sh : List UInt8 → List UInt8} (hs : Sh sh) (recv : Value) (ends : List (List UInt8)) (h67 : ends.length = 67) (hF : ∀ j, j < 67 → (ends.getD j []).length = 32) (D : Gh) (w : World) (hk : Keeps D w) (hT : Tab D)
    (hC : ∀ (j : Nat) (W : World), j < 67 → Keeps D W → Calls Tryd.prog 83 #[recv, .int .i64 j] W fun e w' => e = .returned (dg (ends.getD j [])) ∧ Below W.heap.size W w') :
    Calls Tryd.prog 75 #[endV 83 recv] w fun e w' => e = .returned (dg (oneF (tagB sh) ends)) ∧ Below w.heap.size w w' := by
  obtain ⟨i0, hi, hz0, hz1, hz2⟩ := info_parts info5
  have hmk : ∀ W, (Instr.makeSlice 22 (.int .i64 0) (.int .i64 2144)).run Tryd.prog W = .ok (.slice (some ⟨W.heap.size, 0, none⟩) 0 2144) (W.alloc (.cells (madeCells #[.int .u8 0] 2144) 5)) := fun W => by
    have := run_make (P := Tryd.prog) W 22 5 i0 (.int .u8 0) Tryd.underlying22 hi hz0 .i64 .i64 0 2144 (by omega) (by omega) (by rw [hz2]; omega) (by omega)
    have e1 : (2144 : Int).toNat = 2144 := rfl
    rw [this, e1, hz1, Nat.mul_one]
    rfl
  have hB0 := (Box.new2 hk rfl 26 (darr [])).alloc (.cells (madeCells #[.int .u8 0] 2144) 5)
  have hbel0 : Below w.heap.size w ((w.alloc (.cells (darr []) 26)).alloc (.cells (madeCells #[.int .u8 0] 2144) 5)) := (by repeat (first | (with_reducible exact Below.refl _ _) | (with_reducible refine Below.drew ?_) | (with_reducible refine belowDrewN ?_ _) | (with_reducible refine belowAlloc ?_ _) | ((with_reducible refine belowSet2 ?_ ?_); omega) | (with_reducible assumption) | (with_reducible refine belowVia (by assumption) ?_) | (with_reducible refine belowVia (Grow.below (by assumption)) ?_)))
  have hown0 : ((w.alloc (.cells (darr []) 26)).alloc (.cells (madeCells #[.int .u8 0] 2144) 5)).ownsRow w.heap.size 5 1 (.slice (some ⟨(w.alloc (.cells (darr []) 26)).heap.size, 0, none⟩) 0 2144) 0 [] := World.ownsRow_made _ _ 2144 (by simp) (by simp [maxLen]) (by rw [size_madeCells])
  rw [show (w.alloc (.cells (darr []) 26)).heap.size = w.heap.size + 1 by simp] at hown0
  have HC := Lib.hid hC
  have HFL := Lib.hid hF
  have H67 := Lib.hid h67
  clear hC hF h67
  go_enter Tryd.func75, Tryd.ntmps75
  go_wp2_with fail
  clear hmk
  go_loopw [3, 7] (fun p y wr => ∃ (k : Nat) (Ak : Option Addr) (ck : Nat), k ≤ 67 ∧ p = .slice Ak (32 * k) ck ∧ y = .int .i64 k ∧ wr.ownsRow w.heap.size 5 1 (.slice Ak (32 * k) ck) (32 * k) ((ends.take k).flatten.map bv) ∧ Below w.heap.size w wr ∧ Box wr D w.heap.size 26 (darr []) ∧ (∀ g, (Value.slice Ak (32 * k) ck).ownBlock = some g → g ≠ w.heap.size)) (fun _ y _ => 67 - (intOf y).toNat)
  case atStart => exact ⟨0, _, _, by omega, rfl, rfl, hown0, hbel0, hB0, by simp only [Value.ownBlock]; rintro g ⟨rfl⟩; omega⟩
  case round =>
    clear hown0 hbel0 hB0
    obtain ⟨k, Ak, ck, hk67, rfl, rfl, hown, hbr, hB, hnb⟩ := hrel
    by_cases hlt : k < 67
    · have g1 : (k : Int) < 67 := by omega
      have hkr := hk.below hbr (Nat.le_refl _)
      have HX := Lib.hid (HFL.out k hlt)
      have HCk := Lib.hid (HC.out k wr hlt hkr)
      have HFK := Lib.hid (show (ends.take (k + 1)).flatten = (ends.take k).flatten ++ ends.getD k [] from flatten_take_succ _ k _ (by rw [List.getD_eq_getElem?_getD, List.getElem?_eq_getElem (by rw [H67.out]; exact hlt)]; rfl))
      generalize ends.getD k [] = r at HX HCk HFK
      rw [dg_darr r HX.out] at HCk
      have hsr : (darr []).size = (darr r).size := by rw [darr_size _ (by simp), darr_size _ (by rw [HX.out]; omega)]
      have hsr26 := sz26 r HX.out
      go_wp2_with fail
      refine HCk.out.mono ?_
      rintro e w1 ⟨rfl, hb1⟩
      have hk1 := hkr.below hb1 (Nat.le_refl _)
      have hB1 := hB.below hb1 hB.lt
      have hown1 := own_alloc (own_below hown hb1) (.cells (darr r) 26)
      have hbel1 : Below w.heap.size w (w1.alloc (.cells (darr r) 26)) := belowAlloc (belowVia hb1 hbr) _
      have hG1 : Grow w D (w1.alloc (.cells (darr r) 26)) D := Grow.of_below hk hbel1
      obtain ⟨D1, hG2, hle2, hbs2, hoff2⟩ := dgBox_bs hG1 (Box.new2 hk1 rfl 26 (darr r)) HX.out (belowVia hb1 hbr).size
      have hB2 := (hB1.alloc (.cells (darr r) 26))
      have hlt0 := Nat.lt_of_lt_of_le hB.lt hb1.size
      clear hB1 hb1 hk1 hbr hB hown HCk
      go_wp2_with (first | (((with_reducible show wpList _ _ _ ((⟨_, .store 26 _ _, _, _, _, _⟩ : Oper) :: _) _ _); refine wpList_store_row rfl 26 _ _ rfl (w1.heap.size) (darr r) rfl rfl 26 (darr []) (heap_alloc_new w1 _) (hsr26) (hsr) (darr_one _) ?_); rw [World.setRow_alloc_new]) | (at_builtin; refine wpList_append_sl _ rfl _ _ 22 rfl w.heap.size 5 i0 (.int .u8 0) 1 Tryd.underlying22 hi hz0 hz1 hz2 rfl _ (32 * k) _ rfl hown1 D1 hG2.keeps _ _ _ _ rfl hbs2 (bv_one _) ?c1 ?c2 ?c3 ?_))
      case c1 => unfold maxLen; omega
      case c2 => omega
      case c3 => exact hbel1.size
      intro A5 cap5 w5 hown5 hg5 hb5
      have hG5 : Grow w D w5 D := hG1.row hg5 (fun g h => (hown1.lt g h).1) (fun g h => hk.offNew (hown1.lt g h).1)
      have hB5 := hB2.grown hg5 (fun h => hnb _ h.symm rfl)
      have hown6 : w5.ownsRow w.heap.size 5 1 (.slice A5 (32 * (k + 1)) cap5) (32 * (k + 1)) ((ends.take (k + 1)).flatten.map bv) := by
        rw [HFK.out, List.map_append, show 32 * (k + 1) = 32 * k + 32 by omega]
        rw [← List.map_take, ← List.map_flatten] at hown5
        exact hown5
      have hnb6 : ∀ g, (Value.slice A5 (32 * (k + 1)) cap5).ownBlock = some g → g ≠ w.heap.size := by
        intro g hg
        rw [show 32 * (k + 1) = 32 * k + 32 by omega] at hg
        rcases hb5 with h | h
        · exact hnb g (h.symm.trans hg)
        · have h3 := hg.symm.trans h
          injection h3 with h3
          have hq := hlt0
          omega
      clear hown5 hg5 hb5 hown1 hG1 hB2 hbs2 hoff2 hle2 hG2 hnb HFK
      go_wp2_with fail
      go_roundw
      case rel =>
        have hbel5 := hG5.below
        first
          | exact ⟨k + 1, A5, cap5, by omega, rfl, by go_num, hown6, hbel5, hB5, hnb6⟩
          | ((repeat apply Exists.intro); exact ⟨⟨k + 1, A5, cap5, by omega, rfl, by go_num, hown6, hbel5, hB5, hnb6⟩, rfl⟩)
      case measure => simp [intOf]; omega
    · obtain rfl : k = 67 := by omega
      have HL := Lib.hid (show ends.take 67 = ends from List.take_of_length_le (by rw [H67.out]; exact Nat.le_refl _))
      rw [HL.out] at hown
      have hkr := hk.below hbr (Nat.le_refl _)
      have hG := Grow.of_below hk hbr
      obtain ⟨D', hG', _, hsl, hoff⟩ := hG.pub hown (Nat.le_refl _) (fun g h => hk.offNew (hown.lt g h).1)
      have HV := Lib.hid (show oneF (tagB sh) ends = tagB sh oneT ends.flatten from rfl)
      generalize ends.flatten = fl at *
      clear HL hown hG
      have hsl' : BS D' (.slice Ak (32 * 67) ck) fl := hsl
      have HS := Lib.hid (fun W hk hT => tag_c hs oneT (by decide) Ak (32 * 67) ck fl D' W hk hsl' (by omega) hT)
      have hr32 := Lib.hid (show (tagB sh oneT fl).length = 32 from hs.len _)
      generalize hr : tagB sh oneT fl = r at *
      have HR := Lib.hid hr
      clear hr
      rw [dg_darr r hr32.out] at HS
      have hsr : (darr []).size = (darr r).size := by rw [darr_size _ (by simp), darr_size _ (by rw [hr32.out]; omega)]
      have hsr26 := sz26 r hr32.out
      go_wp2_with fail
      refine (HS.out _ hG'.keeps (hT.le hG'.le)).mono ?_
      rintro e w6 ⟨rfl, hb6⟩
      have hB2f := hB.below hb6 hB.lt
      have hbel6 := belowVia hb6 hbr
      go_wp2_with (first | ((with_reducible show wpList _ _ _ ((⟨_, .store 26 _ _, _, _, _, _⟩ : Oper) :: _) _ _); refine wpList_store_row rfl 26 _ _ rfl (w.heap.size) (darr r) rfl rfl 26 (darr []) (hB2f.heap) (hsr26) (hsr) (darr_one _) ?_))
      refine bodyPost_ret (results_cell_row rfl _ _ _ _ _ _ _ rfl (hB2f.setRow _).heap Tryd.underlying26 rfl hsr26) rfl ⟨?_, belowRow hbel6 (by omega) _⟩
      rw [HV.out, dg_darr r hr32.out]
set_option maxRecDepth 100000 in
set_option maxHeartbeats 1000000 in
theorem one76_c {sh : List UInt8 → List UInt8} (hs : Sh sh) (recv : Value) (ends : List (List UInt8)) (h67 : ends.length = 67) (hF : ∀ j, j < 67 → (ends.getD j []).length = 32) (D : Gh) (w : World) (hk : Keeps D w) (hT : Tab D)
    (hC : ∀ (j : Nat) (W : World), j < 67 → Keeps D W → Calls Tryd.prog 76 #[recv, .int .i64 j] W fun e w' => e = .returned (dg (ends.getD j [])) ∧ Below W.heap.size W w') :
    Calls Tryd.prog 75 #[endV 76 recv] w fun e w' => e = .returned (dg (oneF (tagB sh) ends)) ∧ Below w.heap.size w w' := by
  obtain ⟨i0, hi, hz0, hz1, hz2⟩ := info_parts info5
  have hmk : ∀ W, (Instr.makeSlice 22 (.int .i64 0) (.int .i64 2144)).run Tryd.prog W = .ok (.slice (some ⟨W.heap.size, 0, none⟩) 0 2144) (W.alloc (.cells (madeCells #[.int .u8 0] 2144) 5)) := fun W => by
    have := run_make (P := Tryd.prog) W 22 5 i0 (.int .u8 0) Tryd.underlying22 hi hz0 .i64 .i64 0 2144 (by omega) (by omega) (by rw [hz2]; omega) (by omega)
    have e1 : (2144 : Int).toNat = 2144 := rfl
    rw [this, e1, hz1, Nat.mul_one]
    rfl
  have hB0 := (Box.new2 hk rfl 26 (darr [])).alloc (.cells (madeCells #[.int .u8 0] 2144) 5)
  have hbel0 : Below w.heap.size w ((w.alloc (.cells (darr []) 26)).alloc (.cells (madeCells #[.int .u8 0] 2144) 5)) := (by repeat (first | (with_reducible exact Below.refl _ _) | (with_reducible refine Below.drew ?_) | (with_reducible refine belowDrewN ?_ _) | (with_reducible refine belowAlloc ?_ _) | ((with_reducible refine belowSet2 ?_ ?_); omega) | (with_reducible assumption) | (with_reducible refine belowVia (by assumption) ?_) | (with_reducible refine belowVia (Grow.below (by assumption)) ?_)))
  have hown0 : ((w.alloc (.cells (darr []) 26)).alloc (.cells (madeCells #[.int .u8 0] 2144) 5)).ownsRow w.heap.size 5 1 (.slice (some ⟨(w.alloc (.cells (darr []) 26)).heap.size, 0, none⟩) 0 2144) 0 [] := World.ownsRow_made _ _ 2144 (by simp) (by simp [maxLen]) (by rw [size_madeCells])
  rw [show (w.alloc (.cells (darr []) 26)).heap.size = w.heap.size + 1 by simp] at hown0
  have HC := Lib.hid hC
  have HFL := Lib.hid hF
  have H67 := Lib.hid h67
  clear hC hF h67
  go_enter Tryd.func75, Tryd.ntmps75
  go_wp2_with fail
  clear hmk
  go_loopw [3, 7] (fun p y wr => ∃ (k : Nat) (Ak : Option Addr) (ck : Nat), k ≤ 67 ∧ p = .slice Ak (32 * k) ck ∧ y = .int .i64 k ∧ wr.ownsRow w.heap.size 5 1 (.slice Ak (32 * k) ck) (32 * k) ((ends.take k).flatten.map bv) ∧ Below w.heap.size w wr ∧ Box wr D w.heap.size 26 (darr []) ∧ (∀ g, (Value.slice Ak (32 * k) ck).ownBlock = some g → g ≠ w.heap.size)) (fun _ y _ => 67 - (intOf y).toNat)
  case atStart => exact ⟨0, _, _, by omega, rfl, rfl, hown0, hbel0, hB0, by simp only [Value.ownBlock]; rintro g ⟨rfl⟩; omega⟩
  case round =>
    clear hown0 hbel0 hB0
    obtain ⟨k, Ak, ck, hk67, rfl, rfl, hown, hbr, hB, hnb⟩ := hrel
    by_cases hlt : k < 67
    · have g1 : (k : Int) < 67 := by omega
      have hkr := hk.below hbr (Nat.le_refl _)
      have HX := Lib.hid (HFL.out k hlt)
      have HCk := Lib.hid (HC.out k wr hlt hkr)
      have HFK := Lib.hid (show (ends.take (k + 1)).flatten = (ends.take k).flatten ++ ends.getD k [] from flatten_take_succ _ k _ (by rw [List.getD_eq_getElem?_getD, List.getElem?_eq_getElem (by rw [H67.out]; exact hlt)]; rfl))
      generalize ends.getD k [] = r at HX HCk HFK
      rw [dg_darr r HX.out] at HCk
      have hsr : (darr []).size = (darr r).size := by rw [darr_size _ (by simp), darr_size _ (by rw [HX.out]; omega)]
      have hsr26 := sz26 r HX.out
      go_wp2_with fail
      refine HCk.out.mono ?_
      rintro e w1 ⟨rfl, hb1⟩
      have hk1 := hkr.below hb1 (Nat.le_refl _)
      have hB1 := hB.below hb1 hB.lt
      have hown1 := own_alloc (own_below hown hb1) (.cells (darr r) 26)
      have hbel1 : Below w.heap.size w (w1.alloc (.cells (darr r) 26)) := belowAlloc (belowVia hb1 hbr) _
      have hG1 : Grow w D (w1.alloc (.cells (darr r) 26)) D := Grow.of_below hk hbel1
      obtain ⟨D1, hG2, hle2, hbs2, hoff2⟩ := dgBox_bs hG1 (Box.new2 hk1 rfl 26 (darr r)) HX.out (belowVia hb1 hbr).size
      have hB2 := (hB1.alloc (.cells (darr r) 26))
      have hlt0 := Nat.lt_of_lt_of_le hB.lt hb1.size
      clear hB1 hb1 hk1 hbr hB hown HCk
      go_wp2_with (first | (((with_reducible show wpList _ _ _ ((⟨_, .store 26 _ _, _, _, _, _⟩ : Oper) :: _) _ _); refine wpList_store_row rfl 26 _ _ rfl (w1.heap.size) (darr r) rfl rfl 26 (darr []) (heap_alloc_new w1 _) (hsr26) (hsr) (darr_one _) ?_); rw [World.setRow_alloc_new]) | (at_builtin; refine wpList_append_sl _ rfl _ _ 22 rfl w.heap.size 5 i0 (.int .u8 0) 1 Tryd.underlying22 hi hz0 hz1 hz2 rfl _ (32 * k) _ rfl hown1 D1 hG2.keeps _ _ _ _ rfl hbs2 (bv_one _) ?c1 ?c2 ?c3 ?_))
      case c1 => unfold maxLen; omega
      case c2 => omega
      case c3 => exact hbel1.size
      intro A5 cap5 w5 hown5 hg5 hb5
      have hG5 : Grow w D w5 D := hG1.row hg5 (fun g h => (hown1.lt g h).1) (fun g h => hk.offNew (hown1.lt g h).1)
      have hB5 := hB2.grown hg5 (fun h => hnb _ h.symm rfl)
      have hown6 : w5.ownsRow w.heap.size 5 1 (.slice A5 (32 * (k + 1)) cap5) (32 * (k + 1)) ((ends.take (k + 1)).flatten.map bv) := by
        rw [HFK.out, List.map_append, show 32 * (k + 1) = 32 * k + 32 by omega]
        rw [← List.map_take, ← List.map_flatten] at hown5
        exact hown5
      have hnb6 : ∀ g, (Value.slice A5 (32 * (k + 1)) cap5).ownBlock = some g → g ≠ w.heap.size := by
        intro g hg
        rw [show 32 * (k + 1) = 32 * k + 32 by omega] at hg
        rcases hb5 with h | h
        · exact hnb g (h.symm.trans hg)
        · have h3 := hg.symm.trans h
          injection h3 with h3
          have hq := hlt0
          omega
      clear hown5 hg5 hb5 hown1 hG1 hB2 hbs2 hoff2 hle2 hG2 hnb HFK
      go_wp2_with fail
      go_roundw
      case rel =>
        have hbel5 := hG5.below
        first
          | exact ⟨k + 1, A5, cap5, by omega, rfl, by go_num, hown6, hbel5, hB5, hnb6⟩
          | ((repeat apply Exists.intro); exact ⟨⟨k + 1, A5, cap5, by omega, rfl, by go_num, hown6, hbel5, hB5, hnb6⟩, rfl⟩)
      case measure => simp [intOf]; omega
    · obtain rfl : k = 67 := by omega
      have HL := Lib.hid (show ends.take 67 = ends from List.take_of_length_le (by rw [H67.out]; exact Nat.le_refl _))
      rw [HL.out] at hown
      have hkr := hk.below hbr (Nat.le_refl _)
      have hG := Grow.of_below hk hbr
      obtain ⟨D', hG', _, hsl, hoff⟩ := hG.pub hown (Nat.le_refl _) (fun g h => hk.offNew (hown.lt g h).1)
      have HV := Lib.hid (show oneF (tagB sh) ends = tagB sh oneT ends.flatten from rfl)
      generalize ends.flatten = fl at *
      clear HL hown hG
      have hsl' : BS D' (.slice Ak (32 * 67) ck) fl := hsl
      have HS := Lib.hid (fun W hk hT => tag_c hs oneT (by decide) Ak (32 * 67) ck fl D' W hk hsl' (by omega) hT)
      have hr32 := Lib.hid (show (tagB sh oneT fl).length = 32 from hs.len _)
      generalize hr : tagB sh oneT fl = r at *
      have HR := Lib.hid hr
      clear hr
      rw [dg_darr r hr32.out] at HS
      have hsr : (darr []).size = (darr r).size := by rw [darr_size _ (by simp), darr_size _ (by rw [hr32.out]; omega)]
      have hsr26 := sz26 r hr32.out
      go_wp2_with fail
      refine (HS.out _ hG'.keeps (hT.le hG'.le)).mono ?_
      rintro e w6 ⟨rfl, hb6⟩
      have hB2f := hB.below hb6 hB.lt
      have hbel6 := belowVia hb6 hbr
      go_wp2_with (first | ((with_reducible show wpList _ _ _ ((⟨_, .store 26 _ _, _, _, _, _⟩ : Oper) :: _) _ _); refine wpList_store_row rfl 26 _ _ rfl (w.heap.size) (darr r) rfl rfl 26 (darr []) (hB2f.heap) (hsr26) (hsr) (darr_one _) ?_))
      refine bodyPost_ret (results_cell_row rfl _ _ _ _ _ _ _ rfl (hB2f.setRow _).heap Tryd.underlying26 rfl hsr26) rfl ⟨?_, belowRow hbel6 (by omega) _⟩
      rw [HV.out, dg_darr r hr32.out]
end Go.Proofs.YtohknemfcohhfaaDoor
