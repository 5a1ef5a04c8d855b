/-
  What is proved here: the walk of SigningOrder: a key of two one-time keys signs twice, and no third time.
-/
import Derived.Test.YtohknemfcohhfaaDoorRows
import Derived.Test.YtohknemfcohhfaaDoorBaseC
import Derived.Test.YtohknemfcohhfaaDoorSha
import Derived.Test.YtohknemfcohhfaaDoorDigA
import Derived.Test.YtohknemfcohhfaaDoorDigC
import Derived.Test.YtohknemfcohhfaaDoorDigD
import Derived.Test.YtohknemfcohhfaaDoorDigE
import Derived.Test.YtohknemfcohhfaaDoorDigF
import Derived.Test.YtohknemfcohhfaaDoorDigG
import Derived.Test.YtohknemfcohhfaaDoorDigH
import Derived.Test.YtohknemfcohhfaaDoorDigI
import Derived.Test.YtohknemfcohhfaaDoorDigJ
import Derived.Test.YtohknemfcohhfaaDoorDigK
import Derived.Test.YtohknemfcohhfaaDoorDigL
import Derived.Test.YtohknemfcohhfaaDoorDigM
import Derived.Test.YtohknemfcohhfaaDoorDigN
import Derived.Test.YtohknemfcohhfaaDoorDigO
import Derived.Test.YtohknemfcohhfaaDoorDigP
import Derived.Test.YtohknemfcohhfaaDoorDigQ
import Derived.Test.YtohknemfcohhfaaDoorDigR
import Derived.Test.YtohknemfcohhfaaDoorDigS
import Derived.Test.YtohknemfcohhfaaDoorDigT
import Derived.Test.YtohknemfcohhfaaDoorLawTags
import Derived.Test.YtohknemfcohhfaaDoorSigA
import Derived.Test.YtohknemfcohhfaaDoorSigB
import Derived.Test.YtohknemfcohhfaaDoorSigC
import Derived.Test.YtohknemfcohhfaaDoorSigD
import Derived.Test.YtohknemfcohhfaaDoorSigE
import Derived.Test.YtohknemfcohhfaaDoorSigP
import Derived.Test.YtohknemfcohhfaaDoorSigF
import Derived.Test.YtohknemfcohhfaaDoorSigG
import Derived.Test.YtohknemfcohhfaaDoorLawVerifies
import Derived.Test.YtohknemfcohhfaaDoorTree
import Derived.Test.YtohknemfcohhfaaDoorSign
import Derived.Test.YtohknemfcohhfaaDoorShelf
import Derived.Lib.ConvBytes
import Derived.StillTailTactics
import Derived.Lib.AppendZerosOnto
import Derived.Deep.RegionHeld3
import Derived.Stop.BytesEq
import Derived.Great.BuildSlice
import Derived.Deep.MidRow
import Derived.Deep.RegionLaw
import Derived.Deep.DeepCutAuto
import Derived.Deep.QuietTactic
import Derived.BigQuiet
import Derived.Laws.EntriesVeiled
namespace Go.Proofs.YtohknemfcohhfaaDoor
open Go.RowKit Go.VS
set_option maxRecDepth 100000 in
set_option maxHeartbeats 1000000 in
theorem clone_cg (A : Option Addr) (n c : Nat) (bs : List UInt8) (D : Gh) (w : World) (hk : Keeps D w) (hb : BS D (.slice A n c) bs) (hn : n ≤ 140737488355328) :
    Calls Tryd.prog 70 #[.slice A n c] w fun e w' => ∃ A' c' D', e = .returned (.slice A' n c') ∧ Grow w D w' D' ∧ BS D' (.slice A' n c') bs := by
  obtain ⟨i0, hi, hz0, hz1, hz2⟩ := info_parts info5
  have hnil := fun w a n c => Lib.run_eql_slice_nil (P := Tryd.prog) w 22 5 a n c 0 0 Tryd.underlying22
  obtain ⟨hm, hnc, hcm, hc⟩ := Sl.cells hk hb
  rcases A with _ | ad
  · have h0 : n = 0 := by
      rcases Nat.eq_zero_or_pos n with h0 | h0
      · exact h0
      · obtain ⟨b, o, h, _⟩ := hc h0; cases h
    subst h0
    obtain rfl : bs = [] := List.eq_nil_of_length_eq_zero (by rw [List.length_map] at hm; exact hm.symm)
    clear hm hnc hcm hc
    go_enter Tryd.func70, Tryd.ntmps70
    go_wp2
    go_ret
    exact ⟨none, 0, D, rfl, Grow.refl hk, BS.nil D⟩
  · clear hm hnc hcm hc
    go_enter Tryd.func70, Tryd.ntmps70
    go_wp2_with (at_builtin; refine wpList_append_sl _ rfl _ _ 22 rfl w.heap.size 5 i0 (.int .u8 0) 1 Tryd.underlying22 hi hz0 hz1 hz2 rfl _ 0 [] rfl (own_empty (Nat.le_refl _) (heap_alloc_new _ _)) D (hk.alloc _) _ _ _ _ rfl hb (bv_one _) ?c1 ?c2 ?c3 ?_)
    case c1 => unfold maxLen; omega
    case c2 => omega
    case c3 => simp
    intro A' c' w1 hown hgr hob
    have hbel : Below w.heap.size w w1 := ((Below.refl _ _).alloc (Nat.le_refl _) _).grown hgr (by simp) (by simp [Value.ownBlock])
    obtain ⟨D', hG, hsl⟩ := pub_row hk hbel (Nat.le_refl _) hown
    go_wp2
    go_ret
    exact ⟨A', c', D', rfl, hG, hsl⟩
set_option maxRecDepth 100000 in
set_option maxHeartbeats 1000000 in
theorem new_badg (A : Option Addr) (n c : Nat) (bs : List UInt8) (m : Int) (D : Gh) (w : World) (hk : Keeps D w) (hb : BS D (.slice A n c) bs) (hn : n ≤ 140737488355328) (hv : validF n m 0 = false) :
    Calls Tryd.prog 40 #[.slice A n c, .int .i64 m] w fun e w' => e = .returned (.tuple #[key0, .int .i64 320]) ∧ Below w.heap.size w w' := by
  have HCL := Lib.hid (fun W hk => clone_cg A n c bs D W hk hb hn)
  have hB0 := Box.new hk 45 #[.slice none 0 0, .int .i64 0, .int .i64 0]
  have HV := Lib.hid hv
  clear hv
  go_enter Tryd.func40, Tryd.ntmps40
  go_wp2_with fail
  refine (HCL.out _ (hk.alloc _)).mono ?_
  rintro e w1 ⟨A', c', D', rfl, hG, hb'⟩
  have hB1 := hB0.grow hG
  have hbel1 : Below w.heap.size w w1 := belowVia hG.below (by repeat (first | (with_reducible exact Below.refl _ _) | (with_reducible refine Below.drew ?_) | (with_reducible refine belowDrewN ?_ _) | (with_reducible refine belowAlloc ?_ _) | ((with_reducible refine belowSet2 ?_ ?_); omega) | (with_reducible assumption) | (with_reducible refine belowVia (by assumption) ?_) | (with_reducible refine belowVia (Grow.below (by assumption)) ?_)))
  have q := hB1.cell
  have f := hB1.frozen
  have q1 := q 1
  have q2 := q 2
  have q0 := q 0
  go_wp2_with fail
  have hB2 := ((hB1.set_ 0 (.slice A' n c')).set_ 1 (.int .i64 m)).set_ 2 (.int .i64 0)
  have hbel2 : Below w.heap.size w (((w1.setCell ⟨w.heap.size, 0, none⟩ (.slice A' n c')).setCell ⟨w.heap.size, 1, none⟩ (.int .i64 m)).setCell ⟨w.heap.size, 2, none⟩ (.int .i64 0)) := (by repeat (first | (with_reducible exact Below.refl _ _) | (with_reducible refine Below.drew ?_) | (with_reducible refine belowDrewN ?_ _) | (with_reducible refine belowAlloc ?_ _) | ((with_reducible refine belowSet2 ?_ ?_); omega) | (with_reducible assumption) | (with_reducible refine belowVia (by assumption) ?_) | (with_reducible refine belowVia (Grow.below (by assumption)) ?_)))
  clear q f q0 q1 q2 hB0 hB1 hbel1
  generalize ((w1.setCell ⟨w.heap.size, 0, none⟩ (.slice A' n c')).setCell ⟨w.heap.size, 1, none⟩ (.int .i64 m)).setCell ⟨w.heap.size, 2, none⟩ (.int .i64 0) = W at *
  refine (valid_c A' n c' (by unfold maxLen; omega) m 0 W).mono ?_
  rintro e w2 ⟨rfl, hb2⟩
  rw [HV.out]
  have hB3 := hB2.below hb2 hB2.lt
  have hbel3 := belowVia hb2 hbel2
  have q := hB3.cell
  have f := hB3.frozen
  have q1 := q 1
  have q2 := q 2
  have q0 := q 0
  go_wp2
  exact bodyPost_ret (v := .tuple #[key0, .int .i64 320]) (by simp [results, Tryd.results40, go_sem, q]) rfl ⟨rfl, (by repeat (first | (with_reducible exact Below.refl _ _) | (with_reducible refine Below.drew ?_) | (with_reducible refine belowDrewN ?_ _) | (with_reducible refine belowAlloc ?_ _) | ((with_reducible refine belowSet2 ?_ ?_); omega) | (with_reducible assumption) | (with_reducible refine belowVia (by assumption) ?_) | (with_reducible refine belowVia (Grow.below (by assumption)) ?_)))⟩
set_option maxRecDepth 100000 in
set_option maxHeartbeats 1000000 in
theorem new_okg (A : Option Addr) (n c : Nat) (bs : List UInt8) (m : Int) (D : Gh) (w : World) (hk : Keeps D w) (hb : BS D (.slice A n c) bs) (hn : n ≤ 140737488355328) (hv : validF n m 0 = true) :
    Calls Tryd.prog 40 #[.slice A n c, .int .i64 m] w fun e w' => ∃ A' c' D', e = .returned (.tuple #[keyV A' n c' m 0, .int .i64 0]) ∧ Grow w D w' D' ∧ BS D' (.slice A' n c') bs := by
  have HCL := Lib.hid (fun W hk => clone_cg A n c bs D W hk hb hn)
  have hB0 := Box.new hk 45 #[.slice none 0 0, .int .i64 0, .int .i64 0]
  have HV := Lib.hid hv
  clear hv
  go_enter Tryd.func40, Tryd.ntmps40
  go_wp2_with fail
  refine (HCL.out _ (hk.alloc _)).mono ?_
  rintro e w1 ⟨A', c', D', rfl, hG, hb'⟩
  have hB1 := hB0.grow hG
  have hG1 : Grow w D w1 D' := Grow.trans ((Grow.refl hk).alloc _) hG
  have q := hB1.cell
  have f := hB1.frozen
  have q1 := q 1
  have q2 := q 2
  have q0 := q 0
  go_wp2_with fail
  have hB2 := ((hB1.set_ 0 (.slice A' n c')).set_ 1 (.int .i64 m)).set_ 2 (.int .i64 0)
  have hG2 : Grow w D (((w1.setCell ⟨w.heap.size, 0, none⟩ (.slice A' n c')).setCell ⟨w.heap.size, 1, none⟩ (.int .i64 m)).setCell ⟨w.heap.size, 2, none⟩ (.int .i64 0)) D' := ((hG1.setNew (p := ⟨_, 0, none⟩) (Nat.le_refl _) hB1.off _).setNew (p := ⟨_, 1, none⟩) (Nat.le_refl _) hB1.off _).setNew (p := ⟨_, 2, none⟩) (Nat.le_refl _) hB1.off _
  clear q f q0 q1 q2 hB0 hB1 hG1
  generalize ((w1.setCell ⟨w.heap.size, 0, none⟩ (.slice A' n c')).setCell ⟨w.heap.size, 1, none⟩ (.int .i64 m)).setCell ⟨w.heap.size, 2, none⟩ (.int .i64 0) = W at *
  refine (valid_c A' n c' (by unfold maxLen; omega) m 0 W).mono ?_
  rintro e w2 ⟨rfl, hb2⟩
  rw [HV.out]
  have hB3 := hB2.below hb2 hB2.lt
  have hG3 := hG2.trans (Grow.of_below hG2.keeps hb2)
  have q := hB3.cell
  have f := hB3.frozen
  have q1 := q 1
  have q2 := q 2
  have q0 := q 0
  go_wp2
  exact bodyPost_ret (v := .tuple #[keyV A' n c' m 0, .int .i64 0]) (by simp [results, Tryd.results40, go_sem, q]) rfl ⟨A', c', D', rfl, ((hG3.setNew (p := ⟨_, 0, none⟩) (Nat.le_refl _) hB3.off _).setNew (p := ⟨_, 1, none⟩) (Nat.le_refl _) hB3.off _).setNew (p := ⟨_, 2, none⟩) (Nat.le_refl _) hB3.off _, hb'⟩
theorem public2 {sh : List UInt8 → List UInt8} (hs : Sh sh) (A : Option Addr) (n c : Nat) (seed : List UInt8) (D : Gh) (w : World) (hk : Keeps D w) (hT : Tab D) (hb : BS D (.slice A n c) seed) (hv : validF n 2 0 = true) :
    Calls Tryd.prog 44 #[keyV A n c 2 0] w fun e w' => e = .returned (.tuple #[dg (treeF (tagB sh) (keysF (tagB sh) seed 2)), .int .i64 0]) ∧ Below w.heap.size w w' := public_ok hs A n c seed 2 0 D w hk hT hb hv
theorem sign20 {sh : List UInt8 → List UInt8} (hs : Sh sh) (A : Option Addr) (n c : Nat) (seed : List UInt8) (B : Option Addr) (b d : Nat) (msg : List UInt8) (hb : b ≤ 65536) (D : Gh) (w : World) (hk : Keeps D w) (hT : Tab D) (hA : BS D (.slice A n c) seed) (hB : BS D (.slice B b d) msg) (hv : validF n 2 0 = true) :
    Calls Tryd.prog 33 #[keyV A n c 2 0, .slice B b d] w fun x w' => ∃ A' c' P' d' E' f' D', x = .returned (.tuple #[keyV A' n c' 2 1, sigV 0 P' 67 d' E' (lenF 0 2) f', .int .i64 0]) ∧ Grow w D w' D' ∧ BS D' (.slice A' n c') seed ∧ DS D' (.slice P' 67 d') (partsF (tagB sh) seed (0 : Nat) (sigD sh seed 2 0 msg)) ∧ DS D' (.slice E' (lenF 0 2) f') (pathF (tagB sh) (keysF (tagB sh) seed 2) 0) :=
  sign_ok hs A n c seed 2 0 B b d msg hb D w hk hT hA hB hv (by omega)
theorem sign21 {sh : List UInt8 → List UInt8} (hs : Sh sh) (A : Option Addr) (n c : Nat) (seed : List UInt8) (B : Option Addr) (b d : Nat) (msg : List UInt8) (hb : b ≤ 65536) (D : Gh) (w : World) (hk : Keeps D w) (hT : Tab D) (hA : BS D (.slice A n c) seed) (hB : BS D (.slice B b d) msg) (hv : validF n 2 1 = true) :
    Calls Tryd.prog 33 #[keyV A n c 2 1, .slice B b d] w fun x w' => ∃ A' c' P' d' E' f' D', x = .returned (.tuple #[keyV A' n c' 2 2, sigV 1 P' 67 d' E' (lenF 1 2) f', .int .i64 0]) ∧ Grow w D w' D' ∧ BS D' (.slice A' n c') seed ∧ DS D' (.slice P' 67 d') (partsF (tagB sh) seed (1 : Nat) (sigD sh seed 2 1 msg)) ∧ DS D' (.slice E' (lenF 1 2) f') (pathF (tagB sh) (keysF (tagB sh) seed 2) 1) :=
  sign_ok hs A n c seed 2 1 B b d msg hb D w hk hT hA hB hv (by omega)
theorem verify2 {sh : List UInt8 → List UInt8} (hs : Sh sh) (seed : List UInt8) (u : Nat) (hu : u < 2) (A : Option Addr) (n c : Nat) (msg : List UInt8) (hn : n ≤ 65536) (B : Option Addr) (d : Nat) (E : Option Addr) (f : Nat) (D : Gh) (w : World) (hk : Keeps D w) (hT : Tab D) (p : List UInt8) (hp : p = treeF (tagB sh) (keysF (tagB sh) seed 2))
    (hA : BS D (.slice A n c) msg) (hB : DS D (.slice B 67 d) (partsF (tagB sh) seed u (sigD sh seed 2 u msg))) (hE : DS D (.slice E (lenF u 2) f) (pathF (tagB sh) (keysF (tagB sh) seed 2) u)) (ui : Int) (hui : ui = (u : Int)) :
    Calls Tryd.prog 37 #[.agg (darr p), .int .i64 2, .slice A n c, sigV ui B 67 d E (lenF u 2) f] w fun x w' => x = .returned (.bool true) ∧ Below w.heap.size w w' := by
  subst hp hui
  have h := verify_ok hs (treeF (tagB sh) (keysF (tagB sh) seed 2)) (treeF_len hs _) 2 A n c msg hn u B d (partsF (tagB sh) seed u (sigD sh seed 2 u msg)) E (lenF u 2) f (pathF (tagB sh) (keysF (tagB sh) seed 2) u) D w hk hT hA hB hE (by omega) hu
  rw [ver_sign sh hs seed 2 u hu (by omega) msg] at h
  exact h
set_option maxRecDepth 100000 in
set_option maxHeartbeats 1000000 in
theorem order_walk {sh : List UInt8 → List UInt8} (hs : Sh sh) (S : Option Addr) (n c : Nat) (seed : List UInt8) (A : Option Addr) (a1 a2 : Nat) (xa : List UInt8) (B : Option Addr) (b1 b2 : Nat) (xb : List UInt8) (D : Gh) (w : World) (hk : Keeps D w) (hT : Tab D) (hn : n ≤ 140737488355328) (hS : BS D (.slice S n c) seed) (hA : BS D (.slice A a1 a2) xa) (hB : BS D (.slice B b1 b2) xb) :
    Calls Tryd.prog 14 #[.slice S n c, .slice A a1 a2, .slice B b1 b2] w fun x w' => x = .returned (.bool true) ∧ Below w.heap.size w w' := by
  obtain ⟨hq1, am1, am2⟩ := hA.len
  clear hq1
  obtain ⟨hq2, bm1, bm2⟩ := hB.len
  clear hq2
  unfold maxLen at am2 bm2
  have HSA := Lib.hid (fun W hk => sane32_c D W hk)
  go_enter Tryd.func14, Tryd.ntmps14
  go_wp2_with fail
  refine (HSA.out _ hk).mono ?_
  rintro e w1 ⟨rfl, hb1⟩
  have hk1 := hk.below hb1 (Nat.le_refl _)
  clear HSA
  go_wp2_with fail
  by_cases hv : validF n 2 0 = true
  · have hvv := of_decide_eq_true hv
    refine (new_okg S n c seed 2 D w1 hk1 hS hn hv).mono ?_
    rintro e w2 ⟨A2, c2, D2, rfl, hG2, hs2⟩
    have hbel2 : Below w.heap.size w (w2.alloc (.cells #[.slice A2 n c2, .int .i64 2, .int .i64 0] 45)) := belowAlloc (belowVia hG2.below hb1) _
    have hB7 := Box.new2 hG2.keeps rfl 45 #[.slice A2 n c2, .int .i64 2, .int .i64 0]
    have hk2 := hG2.keeps.alloc (.cells #[.slice A2 n c2, .int .i64 2, .int .i64 0] 45)
    have hT2 := hT.le hG2.le
    have hA2 := hA.le hG2.le
    have hB2 := hB.le hG2.le
    clear hb1 hk1 hG2
    have q0 := hB7.cell 0
    have q1 := hB7.cell 1
    have q2 := hB7.cell 2
    by_cases hla : a1 ≤ 300
    · by_cases hlb : b1 ≤ 300
      · have g1 : ¬ ((300 : Int) < (b1 : Int)) := by omega
        have g2 : ¬ ((300 : Int) < (a1 : Int)) := by omega
        have hv1 : validF n 2 1 = true := decide_eq_true ⟨by omega, by omega, by omega, by omega, by omega, by omega⟩
        have hv2 : validF n 2 2 = true := decide_eq_true ⟨by omega, by omega, by omega, by omega, by omega, by omega⟩
        have hp32 := Lib.hid (treeF_len hs (keysF (tagB sh) seed 2))
        have HP := Lib.hid (fun W hk => public2 hs A2 n c2 seed D2 W hk hT2 hs2 hv)
        have HG0 := Lib.hid (fun W hk => sign20 hs A2 n c2 seed A a1 a2 xa (by omega) D2 W hk hT2 hs2 hA2 hv)
        have HG1 := Lib.hid (fun A c D' W hk hT hs2 hB => sign21 hs A n c seed B b1 b2 xb (by omega) D' W hk hT hs2 hB hv1)
        have HGB := Lib.hid (fun A' c' D' W hk => sign_bad A' n c' (by unfold maxLen; omega) 2 2 A a1 a2 (by unfold maxLen; omega) W D' hk 320 (.inr (.inr ⟨hv2, by omega, rfl, rfl⟩)))
        obtain ⟨p, hp⟩ : ∃ p, p = treeF (tagB sh) (keysF (tagB sh) seed 2) := ⟨_, rfl⟩
        rw [← hp] at HP hp32
        have HPE := Lib.hid hp
        rw [dg_darr p hp32.out] at HP
        clear hp
        have hz26 := sz26 p hp32.out
        have hsz : (darr []).size = (darr p).size := by rw [darr_size _ (by simp), darr_size _ (by rw [hp32.out]; omega)]
        go_wp2_with fail
        generalize w2.heap.size = g7 at *
        generalize w2.alloc (.cells #[.slice A2 n c2, .int .i64 2, .int .i64 0] 45) = W2 at *
        refine (HP.out _ hk2).mono ?_
        rintro e w3 ⟨rfl, hb3⟩
        have hB7a := (hB7.below hb3 hB7.lt).alloc (.cells (darr p) 26)
        have hB9 := Box.new2 (hk2.below hb3 (Nat.le_refl _)) rfl 26 (darr p)
        have hk3 := (hk2.below hb3 (Nat.le_refl _)).alloc (.cells (darr p) 26)
        have hbel3 := belowAlloc (belowVia hb3 hbel2) (.cells (darr p) 26)
        clear q0 q1 q2 hB7 hk2 hbel2 hb3 HP
        have q0 := hB7a.cell 0
        have q1 := hB7a.cell 1
        have q2 := hB7a.cell 2
        go_wp2_with (first | (((with_reducible show wpList _ _ _ ((⟨_, .store 26 _ _, _, _, _, _⟩ : Oper) :: _) _ _); refine wpList_store_row rfl 26 _ _ rfl (w3.heap.size) (darr p) rfl rfl 26 (darr []) (heap_alloc_new w3 _) (hz26) (hsz) (darr_one _) ?_); rw [World.setRow_alloc_new]))
        generalize w3.heap.size = g9 at *
        generalize w3.alloc (.cells (darr p) 26) = W3 at *
        refine (HG0.out _ hk3).mono ?_
        rintro e w4 ⟨A4, c4, P4, d4, E4, f4, D4, rfl, hG4, hs4, hP4, hE4⟩
        have hB9a := ((hB9.grow hG4).alloc (.cells #[.slice A4 n c4, .int .i64 2, .int .i64 1] 45)).alloc (.cells #[.int .i64 0, .slice P4 67 d4, .slice E4 (lenF 0 2) f4] 49)
        have hB11 := (Box.new2 hG4.keeps rfl 45 #[.slice A4 n c4, .int .i64 2, .int .i64 1]).alloc (.cells #[.int .i64 0, .slice P4 67 d4, .slice E4 (lenF 0 2) f4] 49)
        have hB12 := Box.new2 (hG4.keeps.alloc (.cells #[.slice A4 n c4, .int .i64 2, .int .i64 1] 45)) (g := w4.heap.size + 1) (by simp) 49 #[.int .i64 0, .slice P4 67 d4, .slice E4 (lenF 0 2) f4]
        have hk4 := (hG4.keeps.alloc (.cells #[.slice A4 n c4, .int .i64 2, .int .i64 1] 45)).alloc (.cells #[.int .i64 0, .slice P4 67 d4, .slice E4 (lenF 0 2) f4] 49)
        have hbel4 : Below w.heap.size w ((w4.alloc (.cells #[.slice A4 n c4, .int .i64 2, .int .i64 1] 45)).alloc (.cells #[.int .i64 0, .slice P4 67 d4, .slice E4 (lenF 0 2) f4] 49)) := belowAlloc (belowAlloc (belowVia hG4.below hbel3) _) _
        have hT4 := hT2.le hG4.le
        have hA4 := hA2.le hG4.le
        have hB4 := hB2.le hG4.le
        clear q0 q1 q2 hB7a hB9 hk3 hbel3 HG0 hG4
        have q0 := hB11.cell 0
        have q1 := hB11.cell 1
        have q2 := hB11.cell 2
        go_wp2_with fail
        generalize (w4.alloc (.cells #[.slice A4 n c4, .int .i64 2, .int .i64 1] 45)).alloc (.cells #[.int .i64 0, .slice P4 67 d4, .slice E4 (lenF 0 2) f4] 49) = W4 at *
        refine (HG1.out _ _ _ _ hk4 hT4 hs4 hB4).mono ?_
        rintro e w5 ⟨A5, c5, P5, d5, E5, f5, D5, rfl, hG5, hs5, hP5, hE5⟩
        have hB9b := ((hB9a.grow hG5).alloc (.cells #[.slice A5 n c5, .int .i64 2, .int .i64 2] 45)).alloc (.cells #[.int .i64 1, .slice P5 67 d5, .slice E5 (lenF 1 2) f5] 49)
        have hB12a := ((hB12.grow hG5).alloc (.cells #[.slice A5 n c5, .int .i64 2, .int .i64 2] 45)).alloc (.cells #[.int .i64 1, .slice P5 67 d5, .slice E5 (lenF 1 2) f5] 49)
        have hB14 := (Box.new2 hG5.keeps rfl 45 #[.slice A5 n c5, .int .i64 2, .int .i64 2]).alloc (.cells #[.int .i64 1, .slice P5 67 d5, .slice E5 (lenF 1 2) f5] 49)
        have hB15 := Box.new2 (hG5.keeps.alloc (.cells #[.slice A5 n c5, .int .i64 2, .int .i64 2] 45)) (g := w5.heap.size + 1) (by simp) 49 #[.int .i64 1, .slice P5 67 d5, .slice E5 (lenF 1 2) f5]
        have hk5 := (hG5.keeps.alloc (.cells #[.slice A5 n c5, .int .i64 2, .int .i64 2] 45)).alloc (.cells #[.int .i64 1, .slice P5 67 d5, .slice E5 (lenF 1 2) f5] 49)
        have hbel5 : Below w.heap.size w ((w5.alloc (.cells #[.slice A5 n c5, .int .i64 2, .int .i64 2] 45)).alloc (.cells #[.int .i64 1, .slice P5 67 d5, .slice E5 (lenF 1 2) f5] 49)) := belowAlloc (belowAlloc (belowVia hG5.below hbel4) _) _
        have HV0 := Lib.hid (fun W hk => verify2 hs seed 0 (by omega) A a1 a2 xa (by omega) P4 d4 E4 f4 D5 W hk (hT4.le hG5.le) p HPE.out (hA4.le hG5.le) (hP4.le hG5.le) (hE4.le hG5.le) 0 rfl)
        have HV1 := Lib.hid (fun W hk => verify2 hs seed 1 (by omega) B b1 b2 xb (by omega) P5 d5 E5 f5 D5 W hk (hT4.le hG5.le) p HPE.out (hB4.le hG5.le) hP5 hE5 1 rfl)
        generalize lenF 0 2 = l0 at *
        generalize lenF 1 2 = l1 at *
        clear q0 q1 q2 hB9a hB11 hB12 hk4 hbel4 HG1 hG5 hP4 hE4 hP5 hE5 hs4
        have q0 := hB14.cell 0
        have q1 := hB14.cell 1
        have q2 := hB14.cell 2
        go_wp2_with fail
        generalize (w5.alloc (.cells #[.slice A5 n c5, .int .i64 2, .int .i64 2] 45)).alloc (.cells #[.int .i64 1, .slice P5 67 d5, .slice E5 l1 f5] 49) = W5 at *
        refine (HGB.out _ _ _ _ hk5).mono ?_
        rintro e w6 ⟨rfl, hb6⟩
        have hB9c := ((hB9b.below hb6 hB9b.lt).alloc (.cells #[.slice none 0 0, .int .i64 0, .int .i64 0] 45)).alloc (.cells #[.int .i64 0, .slice none 0 0, .slice none 0 0] 49)
        have hB12c := ((hB12a.below hb6 hB12a.lt).alloc (.cells #[.slice none 0 0, .int .i64 0, .int .i64 0] 45)).alloc (.cells #[.int .i64 0, .slice none 0 0, .slice none 0 0] 49)
        have hB15c := ((hB15.below hb6 hB15.lt).alloc (.cells #[.slice none 0 0, .int .i64 0, .int .i64 0] 45)).alloc (.cells #[.int .i64 0, .slice none 0 0, .slice none 0 0] 49)
        have hk6 := ((hk5.below hb6 (Nat.le_refl _)).alloc (.cells #[.slice none 0 0, .int .i64 0, .int .i64 0] 45)).alloc (.cells #[.int .i64 0, .slice none 0 0, .slice none 0 0] 49)
        have hbel6 : Below w.heap.size w ((w6.alloc (.cells #[.slice none 0 0, .int .i64 0, .int .i64 0] 45)).alloc (.cells #[.int .i64 0, .slice none 0 0, .slice none 0 0] 49)) := belowAlloc (belowAlloc (belowVia hb6 hbel5) _) _
        clear q0 q1 q2 hB9b hB12a hB14 hB15 hk5 hbel5 HGB hb6
        have x0 := hB12c.cell 0
        have x1 := hB12c.cell 1
        have x2 := hB12c.cell 2
        have y0 := hB15c.cell 0
        have y1 := hB15c.cell 1
        have y2 := hB15c.cell 2
        go_wp2_with (first | ((with_reducible show wpList _ _ _ ((⟨_, .load 26 _, _, _, _, _⟩ : Oper) :: _) _ _); refine wpList_gload_row (by first | rfl | (simp [Region.wanted, yielded]; done)) 26 _ rfl (g9) rfl 26 _ (0, 0) _ (hB9c.heap) Tryd.underlying26 rfl (hz26) ?_))
        clear x0 x1 x2 y0 y1 y2
        generalize (w6.alloc (.cells #[.slice none 0 0, .int .i64 0, .int .i64 0] 45)).alloc (.cells #[.int .i64 0, .slice none 0 0, .slice none 0 0] 49) = W6 at *
        refine (HV0.out _ hk6).mono ?_
        rintro e w7 ⟨rfl, hb7⟩
        have hB9d := hB9c.below hb7 hB9c.lt
        have hB15d := hB15c.below hb7 hB15c.lt
        have hk7 := hk6.below hb7 (Nat.le_refl _)
        have hbel7 := belowVia hb7 hbel6
        have y0 := hB15d.cell 0
        have y1 := hB15d.cell 1
        have y2 := hB15d.cell 2
        go_wp2_with (first | ((with_reducible show wpList _ _ _ ((⟨_, .load 26 _, _, _, _, _⟩ : Oper) :: _) _ _); refine wpList_gload_row (by first | rfl | (simp [Region.wanted, yielded]; done)) 26 _ rfl (g9) rfl 26 _ (0, 0) _ (hB9d.heap) Tryd.underlying26 rfl (hz26) ?_))
        refine (HV1.out _ hk7).mono ?_
        rintro e w8 ⟨rfl, hb8⟩
        have hbel8 := belowVia hb8 hbel7
        go_wp2_with fail
        go_ret
        exact ⟨rfl, hbel8⟩
      · have g1 : (300 : Int) < (b1 : Int) := by omega
        have g2 : ¬ ((300 : Int) < (a1 : Int)) := by omega
        go_wp2
        go_ret
        exact ⟨rfl, hbel2⟩
    · have g2 : (300 : Int) < (a1 : Int) := by omega
      go_wp2
      go_ret
      exact ⟨rfl, hbel2⟩
  · have hv : validF n 2 0 = false := by simpa using hv
    refine (new_badg S n c seed 2 D w1 hk1 hS hn hv).mono ?_
    rintro e w2 ⟨rfl, hb2⟩
    have hbel2 := belowVia hb2 hb1
    go_wp2
    go_ret
    exact ⟨rfl, belowAlloc hbel2 _⟩
end Go.Proofs.YtohknemfcohhfaaDoor
