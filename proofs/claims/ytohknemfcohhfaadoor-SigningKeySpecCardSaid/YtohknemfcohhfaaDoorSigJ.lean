/-
  What is proved here: keys of the signing reference; what it refuses
-/
import Derived.Test.YtohknemfcohhfaaDoorRows
import Derived.Test.YtohknemfcohhfaaDoorBaseC
import Derived.Test.YtohknemfcohhfaaDoorSha
import Derived.Test.YtohknemfcohhfaaDoorTree
import Derived.Test.YtohknemfcohhfaaDoorSign
import Derived.Test.YtohknemfcohhfaaDoorShelf
import Derived.Test.YtohknemfcohhfaaDoorDigA
import Derived.Test.YtohknemfcohhfaaDoorDigC
import Derived.Test.YtohknemfcohhfaaDoorDigD
import Derived.Test.YtohknemfcohhfaaDoorDigE
import Derived.Test.YtohknemfcohhfaaDoorDigF
import Derived.Test.YtohknemfcohhfaaDoorDigG
import Derived.Test.YtohknemfcohhfaaDoorDigH
import Derived.Test.YtohknemfcohhfaaDoorDigI
import Derived.Test.YtohknemfcohhfaaDoorDigJ
import Derived.Test.YtohknemfcohhfaaDoorDigK
import Derived.Test.YtohknemfcohhfaaDoorDigL
import Derived.Test.YtohknemfcohhfaaDoorDigM
import Derived.Test.YtohknemfcohhfaaDoorDigN
import Derived.Test.YtohknemfcohhfaaDoorDigO
import Derived.Test.YtohknemfcohhfaaDoorDigP
import Derived.Test.YtohknemfcohhfaaDoorDigQ
import Derived.Test.YtohknemfcohhfaaDoorDigR
import Derived.Test.YtohknemfcohhfaaDoorDigS
import Derived.Test.YtohknemfcohhfaaDoorDigT
import Derived.Test.YtohknemfcohhfaaDoorLawHalves
import Derived.Test.YtohknemfcohhfaaDoorDigU
import Derived.Test.YtohknemfcohhfaaDoorDigW
import Derived.Test.YtohknemfcohhfaaDoorDigX
import Derived.Test.YtohknemfcohhfaaDoorDigY
import Derived.Test.YtohknemfcohhfaaDoorSigA
import Derived.Test.YtohknemfcohhfaaDoorSigB
import Derived.Test.YtohknemfcohhfaaDoorSigC
import Derived.Test.YtohknemfcohhfaaDoorSigD
import Derived.Test.YtohknemfcohhfaaDoorSigE
import Derived.Test.YtohknemfcohhfaaDoorSigP
import Derived.Test.YtohknemfcohhfaaDoorSigF
import Derived.Test.YtohknemfcohhfaaDoorSigG
import Derived.Test.YtohknemfcohhfaaDoorSigI
import Derived.Lib.ConvBytes
import Derived.StillTailTactics
import Derived.Lib.AppendZerosOnto
import Derived.Deep.RegionHeld3
import Derived.Stop.BytesEq
import Derived.Great.BuildSlice
import Derived.Deep.MidRow
import Derived.Deep.RegionLaw
import Derived.Deep.DeepCutAuto
import Derived.Deep.QuietTactic
import Derived.BigQuiet
import Derived.Laws.EntriesVeiled
namespace Go.Proofs.YtohknemfcohhfaaDoor
open Go.RowKit Go.VS
set_option maxRecDepth 100000 in
set_option maxHeartbeats 1000000 in
theorem rvalid_c (A : Option Addr) (n c : Nat) (hn : n ≤ maxLen) (m u : Int) (w : World) :
    Calls Tryd.prog 32 #[keyV A n c m u] w fun e w' => e = .returned (.bool (validF n m u)) ∧ Below w.heap.size w w' := by
  have hbel : Below w.heap.size w (w.alloc (.cells #[.slice A n c, .int .i64 m, .int .i64 u] 45)) := (by repeat (first | (with_reducible exact Below.refl _ _) | (with_reducible refine Below.drew ?_) | (with_reducible refine belowDrewN ?_ _) | (with_reducible refine belowAlloc ?_ _) | ((with_reducible refine belowSet2 ?_ ?_); omega) | (with_reducible assumption) | (with_reducible refine belowVia (by assumption) ?_) | (with_reducible refine belowVia (Grow.below (by assumption)) ?_)))
  unfold maxLen at hn
  go_enter Tryd.func32, Tryd.ntmps32
  go_wp2
  all_goals
    go_ret
    exact ⟨by first | (simp [validF]; omega) | exact congrArg (fun b => Ending.returned (Value.bool b)) (decide_eq_decide.2 (by omega)), hbel⟩

set_option maxRecDepth 100000 in
set_option maxHeartbeats 1000000 in
/-- Verify refuses what is out of shape. -/
theorem rverify_bad (p : List UInt8) (m : Int) (A : Option Addr) (n c : Nat) (hn : n ≤ maxLen) (i : Int) (B : Option Addr) (b d : Nat) (hb : b ≤ maxLen) (E : Option Addr) (e f : Nat) (w : World)
    (h : m < 1 ∨ 256 < m ∨ i < 0 ∨ m ≤ i ∨ b ≠ 67 ∨ 65536 < n) :
    Calls Tryd.prog 38 #[.agg (darr p), .int .i64 m, .slice A n c, sigV i B b d E e f] w fun x w' => x = .returned (.bool false) ∧ Below w.heap.size w w' := by
  have hbel : Below w.heap.size w ((w.alloc (.cells (darr p) 26)).alloc (.cells #[.int .i64 i, .slice B b d, .slice E e f] 49)) := (by repeat (first | (with_reducible exact Below.refl _ _) | (with_reducible refine Below.drew ?_) | (with_reducible refine belowDrewN ?_ _) | (with_reducible refine belowAlloc ?_ _) | ((with_reducible refine belowSet2 ?_ ?_); omega) | (with_reducible assumption) | (with_reducible refine belowVia (by assumption) ?_) | (with_reducible refine belowVia (Grow.below (by assumption)) ?_)))
  unfold maxLen at hn hb
  go_enter Tryd.func38, Tryd.ntmps38
  by_cases h1 : m < 1
  · go_wp2
    all_goals
      go_ret
      exact ⟨rfl, hbel⟩
  by_cases h2 : 256 < m
  · go_wp2
    all_goals
      go_ret
      exact ⟨rfl, hbel⟩
  by_cases h3 : i < 0
  · go_wp2
    all_goals
      go_ret
      exact ⟨rfl, hbel⟩
  by_cases h4 : m ≤ i
  · go_wp2
    all_goals
      go_ret
      exact ⟨rfl, hbel⟩
  by_cases h5 : b = 67
  · have h6 : (65536 : Int) < (n : Int) := by omega
    subst h5
    clear h
    go_wp2
    all_goals
      go_ret
      exact ⟨rfl, hbel⟩
  · have h6 : ¬ ((b : Int) = 67) := by omega
    clear h
    go_wp2
    all_goals
      go_ret
      exact ⟨rfl, hbel⟩

set_option maxRecDepth 100000 in
set_option maxHeartbeats 1000000 in
/-- Sign refuses an invalid key. -/
theorem rsign_bad (A : Option Addr) (n c : Nat) (hn : n ≤ maxLen) (m u : Int) (B : Option Addr) (b d : Nat) (hb : b ≤ maxLen) (w : World) (D : Gh) (hk : Keeps D w) (E : Int)
    (h : (validF n m u = false ∧ E = 320) ∨ (validF n m u = true ∧ 65536 < b ∧ E = 2) ∨ (validF n m u = true ∧ b ≤ 65536 ∧ u = m ∧ E = 320)) :
    Calls Tryd.prog 34 #[keyV A n c m u, .slice B b d] w fun x w' => x = .returned (.tuple #[key0, sig0, .int .i64 E]) ∧ Below w.heap.size w w' := by
  have hB0 := ((Box.new2 hk rfl 45 #[.slice A n c, .int .i64 m, .int .i64 u]).alloc (.cells #[.slice none 0 0, .int .i64 0, .int .i64 0] 45)).alloc (.cells #[.int .i64 0, .slice none 0 0, .slice none 0 0] 49)
  have hB1 := (Box.new2 (hk.alloc (.cells #[.slice A n c, .int .i64 m, .int .i64 u] 45)) (g := w.heap.size + 1) (by simp) 45 #[.slice none 0 0, .int .i64 0, .int .i64 0]).alloc (.cells #[.int .i64 0, .slice none 0 0, .slice none 0 0] 49)
  have hB2 := Box.new2 ((hk.alloc (.cells #[.slice A n c, .int .i64 m, .int .i64 u] 45)).alloc (.cells #[.slice none 0 0, .int .i64 0, .int .i64 0] 45)) (g := w.heap.size + 1 + 1) (by simp) 49 #[.int .i64 0, .slice none 0 0, .slice none 0 0]
  have hbel : Below w.heap.size w (((w.alloc (.cells #[.slice A n c, .int .i64 m, .int .i64 u] 45)).alloc (.cells #[.slice none 0 0, .int .i64 0, .int .i64 0] 45)).alloc (.cells #[.int .i64 0, .slice none 0 0, .slice none 0 0] 49)) := (by repeat (first | (with_reducible exact Below.refl _ _) | (with_reducible refine Below.drew ?_) | (with_reducible refine belowDrewN ?_ _) | (with_reducible refine belowAlloc ?_ _) | ((with_reducible refine belowSet2 ?_ ?_); omega) | (with_reducible assumption) | (with_reducible refine belowVia (by assumption) ?_) | (with_reducible refine belowVia (Grow.below (by assumption)) ?_)))
  have HVC := Lib.hid (fun W => rvalid_c A n c hn m u W)
  unfold maxLen at hn hb
  go_enter Tryd.func34, Tryd.ntmps34
  go_wp2_with fail
  generalize ((w.alloc (.cells #[.slice A n c, .int .i64 m, .int .i64 u] 45)).alloc (.cells #[.slice none 0 0, .int .i64 0, .int .i64 0] 45)).alloc (.cells #[.int .i64 0, .slice none 0 0, .slice none 0 0] 49) = W at *
  refine (HVC.out _).mono ?_
  rintro e w1 ⟨rfl, hb1⟩
  have hB0' := hB0.below hb1 hB0.lt
  have hB1' := hB1.below hb1 hB1.lt
  have hB2' := hB2.below hb1 hB2.lt
  have hbel1 := belowVia hb1 hbel
  clear hB0 hB1 hB2 hb1 hbel HVC
  have q0 := hB0'.cell 0
  have q1 := hB0'.cell 1
  have q2 := hB0'.cell 2
  have r0 := hB1'.cell 0
  have r1 := hB1'.cell 1
  have r2 := hB1'.cell 2
  have s0 := hB2'.cell 0
  have s1 := hB2'.cell 1
  have s2 := hB2'.cell 2
  have fr := hB1'.frozen
  have fs := hB2'.frozen
  rcases h with ⟨hv, rfl⟩ | ⟨hv, h2, rfl⟩ | ⟨hv, h2, rfl, rfl⟩
  · rw [hv]
    clear hv
    go_wp2
    exact bodyPost_ret (v := .tuple #[key0, sig0, .int .i64 320]) (by simp [results, Tryd.results34, go_sem, r0, r1, r2, s0, s1, s2]) rfl ⟨rfl, (by repeat (first | (with_reducible exact Below.refl _ _) | (with_reducible refine Below.drew ?_) | (with_reducible refine belowDrewN ?_ _) | (with_reducible refine belowAlloc ?_ _) | ((with_reducible refine belowSet2 ?_ ?_); omega) | (with_reducible assumption) | (with_reducible refine belowVia (by assumption) ?_) | (with_reducible refine belowVia (Grow.below (by assumption)) ?_)))⟩
  · rw [hv]
    clear hv
    have g2 : (65536 : Int) < (b : Int) := by omega
    go_wp2
    exact bodyPost_ret (v := .tuple #[key0, sig0, .int .i64 2]) (by simp [results, Tryd.results34, go_sem, r0, r1, r2, s0, s1, s2]) rfl ⟨rfl, (by repeat (first | (with_reducible exact Below.refl _ _) | (with_reducible refine Below.drew ?_) | (with_reducible refine belowDrewN ?_ _) | (with_reducible refine belowAlloc ?_ _) | ((with_reducible refine belowSet2 ?_ ?_); omega) | (with_reducible assumption) | (with_reducible refine belowVia (by assumption) ?_) | (with_reducible refine belowVia (Grow.below (by assumption)) ?_)))⟩
  · rw [hv]
    clear hv
    have g2 : ¬ ((65536 : Int) < (b : Int)) := by omega
    go_wp2
    exact bodyPost_ret (v := .tuple #[key0, sig0, .int .i64 320]) (by simp [results, Tryd.results34, go_sem, r0, r1, r2, s0, s1, s2]) rfl ⟨rfl, (by repeat (first | (with_reducible exact Below.refl _ _) | (with_reducible refine Below.drew ?_) | (with_reducible refine belowDrewN ?_ _) | (with_reducible refine belowAlloc ?_ _) | ((with_reducible refine belowSet2 ?_ ?_); omega) | (with_reducible assumption) | (with_reducible refine belowVia (by assumption) ?_) | (with_reducible refine belowVia (Grow.below (by assumption)) ?_)))⟩

set_option maxRecDepth 100000 in
set_option maxHeartbeats 1000000 in
theorem rpublic_bad (A : Option Addr) (n c : Nat) (hn : n ≤ maxLen) (m u : Int) (D : Gh) (w : World) (hk : Keeps D w) (hv : validF n m u = false) :
    Calls Tryd.prog 45 #[keyV A n c m u] w fun e w' => e = .returned (.tuple #[dg zeros32, .int .i64 320]) ∧ Below w.heap.size w w' := by
  have HV := Lib.hid hv
  clear hv
  have hB0 := (Box.new2 hk rfl 45 #[.slice A n c, .int .i64 m, .int .i64 u]).alloc (.cells (darr []) 26)
  have hB2 := Box.new2 (hk.alloc (.cells #[.slice A n c, .int .i64 m, .int .i64 u] 45)) (g := w.heap.size + 1) (by simp) 26 (darr [])
  have hG0 : Grow w D ((w.alloc (.cells #[.slice A n c, .int .i64 m, .int .i64 u] 45)).alloc (.cells (darr []) 26)) D := ((Grow.refl hk).alloc _).alloc _
  have q0 := hB0.cell 0
  have q1 := hB0.cell 1
  have q2 := hB0.cell 2
  have HVC := Lib.hid (fun W => rvalid_c A n c hn m u W)
  go_enter Tryd.func45, Tryd.ntmps45
  go_wp2_with fail
  refine (HVC.out _).mono ?_
  rintro e w1 ⟨rfl, hb1⟩
  rw [HV.out]
  have hB2f := hB2.below hb1 hB2.lt
  have hbel3 := belowVia hb1 hG0.below
  have hz26 := sz26 zeros32 rfl
  rw [← darr_zero] at hz26
  go_wp2_with (refine wpList_store_row rfl 26 _ _ rfl (w.heap.size + 1) (darr []) rfl rfl 26 (darr []) hB2f.heap hz26 rfl (darr_one _) ?_)
  refine bodyPost_ret (results_cell_tmp rfl _ _ _ _ _ _ _ _ rfl rfl (hB2f.setRow _).heap Tryd.underlying26 rfl hz26) rfl ⟨?_, belowRow hbel3 (by omega) _⟩
  rw [dg_darr zeros32 rfl, ← darr_zero]
  rfl

set_option maxRecDepth 100000 in
set_option maxHeartbeats 2000000 in
theorem rkeys_c {sh : List UInt8 → List UInt8} (hs : Sh sh) (A : Option Addr) (n c : Nat) (seed : List UInt8) (hn : n ≤ 1000) (m : Nat) (hm : m ≤ 1000) (u : Int) (D : Gh) (w : World) (hk : Keeps D w) (hb : BS D (.slice A n c) seed) :
    Calls Tryd.prog 71 #[keyV A n c m u] w fun e w' => ∃ A' c' D', e = .returned (.slice A' m c') ∧ Grow w D w' D' ∧ DS D' (.slice A' m c') (keysF (tagB sh) seed m) := by
  obtain ⟨D1, hG1, hkv⟩ := Box.pub hk 45 #[.slice A n c, .int .i64 m, .int .i64 u]
  have hk1 := hG1.keeps
  have hb1 := hb.le hG1.le
  have hown0 := Lib.hid (show ((w.alloc (.cells #[.slice A n c, .int .i64 m, .int .i64 u] 45)).alloc (.cells #[] 26)).ownsRow (w.heap.size + 1) 26 32 (.slice (some ⟨w.heap.size + 1, 0, none⟩) 0 0) 0 (flat ((keysF (tagB sh) seed m).take 0)) from by
    have h := own_e0 (s := 32) (Nat.le_refl _) (heap_alloc_new (w.alloc (.cells #[.slice A n c, .int .i64 m, .int .i64 u] 45)) (.cells #[] 26))
    rw [show (w.alloc (.cells #[.slice A n c, .int .i64 m, .int .i64 u] 45)).heap.size = w.heap.size + 1 by simp] at h
    exact h)
  have kv0 := hkv 0 _ rfl
  have kv1 := hkv 1 _ rfl
  have kv2 := hkv 2 _ rfl
  clear hkv
  have hsz : (w.alloc (.cells #[.slice A n c, .int .i64 m, .int .i64 u] 45)).heap.size = w.heap.size + 1 := by simp
  go_enter Tryd.func71, Tryd.ntmps71
  go_wp2_with fail
  generalize w.alloc (.cells #[.slice A n c, .int .i64 m, .int .i64 u] 45) = w0 at *
  go_loopw [3, 4] (fun p y wr => ∃ (k : Nat) (Ak : Option Addr) (ck : Nat), k ≤ m ∧ p = .slice Ak k ck ∧ y = .int .i64 k ∧ wr.ownsRow w0.heap.size 26 32 (.slice Ak k ck) k (flat ((keysF (tagB sh) seed m).take k)) ∧ Grow w0 D1 wr D1) (fun _ y _ => m - (intOf y).toNat)
  case atStart => exact ⟨0, _, _, by omega, rfl, rfl, by rw [hsz]; exact hown0.out, (Grow.refl hk1).alloc _⟩
  case round =>
    clear hown0
    obtain ⟨k, Ak, ck, hkm, rfl, rfl, hown, hG⟩ := hrel
    have q1 := hG.keeps _ _ _ kv1
    by_cases hlt : k < m
    · have g1 : (k : Int) < (m : Int) := by omega
      have hkr := hG.keeps
      have HTK := Lib.hid (keysF_take (tagB sh) seed m k hlt)
      have HKF := Lib.hid (show oneF (tagB sh) (endsF (tagB sh) seed k) = keyF (tagB sh) seed k from rfl)
      have hK32 := Lib.hid (show (keyF (tagB sh) seed k).length = 32 from hs.len _)
      have hE67 := Lib.hid (endsF_len (tagB sh) seed k)
      have hEat := Lib.hid (fun j hj => endsF_at (tagB sh) seed k j hj)
      have hEall : ∀ d ∈ endsF (tagB sh) seed k, d.length = 32 := fun d hd => by
        obtain ⟨j, hj, rfl⟩ := List.getElem_of_mem hd
        have hj67 : j < 67 := by rw [hE67.out] at hj; exact hj
        have e := endsF_at (tagB sh) seed k j hj67
        rw [List.getD_eq_getElem?_getD, List.getElem?_eq_getElem hj] at e
        simp only [Option.getD_some] at e
        rw [e]
        exact adv_len hs _ _ _ _ _ (hs.len _)
      have HEA := Lib.hid hEall
      have hown1 := Lib.hid (show (wr.alloc (.cells #[] 26)).ownsRow wr.heap.size 26 32 (.slice (some ⟨wr.heap.size, 0, none⟩) 0 0) 0 (flat ((endsF (tagB sh) seed k).take 0)) from own_e0 (s := 32) (Nat.le_refl _) (heap_alloc_new wr (.cells #[] 26)))
      clear hEall
      generalize keyF (tagB sh) seed k = r at *
      generalize endsF (tagB sh) seed k = E at *
      obtain ⟨w2, hw2⟩ : ∃ w2, w2 = wr := ⟨_, rfl⟩
      go_wp2_with fail
      rw [← hw2] at hown1 hG hkr hown ⊢
      clear hw2 q1
      go_loopw [5, 6] (fun p y wx => ∃ (j : Nat) (Aj : Option Addr) (cj : Nat), j ≤ 67 ∧ p = .slice Aj j cj ∧ y = .int .i64 j ∧ wx.ownsRow w2.heap.size 26 32 (.slice Aj j cj) j (flat (E.take j)) ∧ Grow w2 D1 wx D1) (fun _ y _ => 67 - (intOf y).toNat)
      case atStart => exact ⟨0, _, _, by omega, rfl, rfl, hown1.out, (Grow.refl hkr).alloc _⟩
      case round =>
        clear hown1
        obtain ⟨j, Aj, cj, hj67, rfl, rfl, hownE, hGE⟩ := hrel
        by_cases hlt2 : j < 67
        · have g2 : (j : Int) < 67 := by omega
          have hkE := hGE.keeps
          have q0 := hkE _ _ _ kv0
          have q1 := hkE _ _ _ kv1
          have q2 := hkE _ _ _ kv2
          have HV := Lib.hid (show E.getD j [] = adv (tagB sh) k j 0 15 (startF (tagB sh) seed k j) from hEat.out j hlt2)
          have HEJ := Lib.hid (show E.take (j + 1) = E.take j ++ [E.getD j []] by
            rw [List.take_add_one, List.getElem?_eq_getElem (by rw [hE67.out]; exact hlt2)]
            simp [List.getD, List.getElem?_eq_getElem (show j < E.length by rw [hE67.out]; exact hlt2)])
          have hs32 := hs.len (sh secretT ++ (seed ++ [b8 k, b8 j]))
          have hst32 : (startF (tagB sh) seed k j).length = 32 := hs.len _
          have HCL := Lib.hid (fun W hk => rclimb32_c hs k j 0 15 (by omega) (by omega) (by omega) (by omega) (startF (tagB sh) seed k j) hst32 D1 W hk)
          have hx32 := Lib.hid (adv_len hs k j 0 15 _ hst32)
          rw [← HV.out] at HCL hx32
          have HST := Lib.hid (fun W hk => rstart_c hs A n c seed hn m u k j D1 W hk hb1)
          clear hs32 hst32
          generalize E.getD j [] = x at *
          generalize startF (tagB sh) seed k j = st at *
          rw [dg_darr x hx32.out] at HCL
          unfold dg at HCL HST
          have hxs : (darr x).size = 32 := darr_size x (by rw [hx32.out]; omega)
          have hfz := foldz x hx32.out
          go_wp2_with fail
          refine (HST.out _ hkE).mono ?_
          rintro e y1 ⟨rfl, hy1⟩
          have hky1 := hkE.below hy1 (Nat.le_refl _)
          go_wp2_with fail
          refine (HCL.out _ hky1).mono ?_
          rintro e y2 ⟨rfl, hy2⟩
          have hy3 := belowVia hy2 hy1
          obtain ⟨A5, c5, w5, hrun5, hown5, hG5⟩ := app_step x hx32.out hkr hownE hGE hy3 (by omega)
          rw [← HEJ.out] at hown5
          have HOWN5 := Lib.hid hown5
          have HG5 := Lib.hid hG5
          clear hownE hGE hown5 hG5 q0 q1 q2 hkE
          go_wp2_with (at_builtin; refine Lib.wpList_append_run _ rfl _ _ 30 30 rfl _ _ rfl rfl _ _ hrun5 ?_)
          go_roundw
          case rel => exact ⟨j + 1, A5, c5, by omega, rfl, by go_num, HOWN5.out, HG5.out⟩
          case measure => simp [intOf]; omega
        · obtain rfl : j = 67 := by omega
          have hfull : E.take 67 = E := List.take_of_length_le (by rw [hE67.out]; exact Nat.le_refl _)
          rw [hfull] at hownE
          obtain ⟨D2, hG2, _, hs2, _⟩ := hGE.pubN hownE (Nat.le_refl _) (fun g h => hkr.offNew (hownE.lt g h).1)
          have hdsE : DS D2 (.slice Aj 67 cj) E := ⟨HEA.out, by rw [hE67.out]; exact hs2⟩
          have HONE := Lib.hid (fun W hk => rone_c hs Aj 67 cj E (by omega) D2 W hk hdsE)
          rw [HKF.out, dg_darr r hK32.out] at HONE
          have hkE := hG2.keeps
          have hbE := hG2.below
          have hs32 : (darr r).size = 32 := darr_size r (by rw [hK32.out]; omega)
          have hfz := foldz r hK32.out
          clear hownE hGE hs2 hG2 hfull
          go_wp2_with fail
          refine (HONE.out _ hkE).mono ?_
          rintro e y1 ⟨rfl, hy1⟩
          obtain ⟨A5, c5, w5, hrun5, hown5, hG5⟩ := app_step r hK32.out hk1 hown hG (belowVia hy1 hbE) (by omega)
          rw [← HTK.out] at hown5
          have HOWN5 := Lib.hid hown5
          have HG5 := Lib.hid hG5
          clear hown hG hown5 hG5 HTK HONE
          go_wp2_with (at_builtin; refine Lib.wpList_append_run _ rfl _ _ 30 30 rfl _ _ rfl rfl _ _ hrun5 ?_)
          go_roundw
          case rel => exact ⟨k + 1, A5, c5, by omega, rfl, by go_num, HOWN5.out, HG5.out⟩
          case measure => simp [intOf]; omega
    · obtain rfl : k = m := by omega
      have hl := keysF_len (tagB sh) seed k
      rw [show (keysF (tagB sh) seed k).take k = keysF (tagB sh) seed k from List.take_of_length_le (by omega)] at hown
      obtain ⟨D2, hG2, _, hs2, _⟩ := hG.pubN hown (Nat.le_refl _) (fun g h => hk1.offNew (hown.lt g h).1)
      have HP := Lib.hid (show ∃ A' c' D', Value.slice Ak k ck = .slice A' k c' ∧ Grow w D wr D' ∧ DS D' (.slice A' k c') (keysF (tagB sh) seed k) from ⟨Ak, ck, D2, rfl, hG1.trans hG2, keysF_all hs seed k, by rw [hl]; exact hs2⟩)
      clear hown hl hG hG2 hs2
      have g1 : ¬ ((k : Int) < (k : Int)) := by omega
      go_wp2
      go_ret
      obtain ⟨A', c', D', e, h2⟩ := HP.out
      exact ⟨A', c', congrArg Ending.returned e, D', h2⟩
end Go.Proofs.YtohknemfcohhfaaDoor
