/-
  What is proved here: the walk of SigningVerifies: what is signed verifies, and the key goes on.
-/
import Derived.Test.YtohknemfcohhfaaDoorRows
import Derived.Test.YtohknemfcohhfaaDoorBaseC
import Derived.Test.YtohknemfcohhfaaDoorSha
import Derived.Test.YtohknemfcohhfaaDoorDigA
import Derived.Test.YtohknemfcohhfaaDoorDigC
import Derived.Test.YtohknemfcohhfaaDoorDigD
import Derived.Test.YtohknemfcohhfaaDoorDigE
import Derived.Test.YtohknemfcohhfaaDoorDigF
import Derived.Test.YtohknemfcohhfaaDoorDigG
import Derived.Test.YtohknemfcohhfaaDoorDigH
import Derived.Test.YtohknemfcohhfaaDoorDigI
import Derived.Test.YtohknemfcohhfaaDoorDigJ
import Derived.Test.YtohknemfcohhfaaDoorDigK
import Derived.Test.YtohknemfcohhfaaDoorDigL
import Derived.Test.YtohknemfcohhfaaDoorDigM
import Derived.Test.YtohknemfcohhfaaDoorDigN
import Derived.Test.YtohknemfcohhfaaDoorDigO
import Derived.Test.YtohknemfcohhfaaDoorDigP
import Derived.Test.YtohknemfcohhfaaDoorDigQ
import Derived.Test.YtohknemfcohhfaaDoorDigR
import Derived.Test.YtohknemfcohhfaaDoorDigS
import Derived.Test.YtohknemfcohhfaaDoorDigT
import Derived.Test.YtohknemfcohhfaaDoorLawTags
import Derived.Test.YtohknemfcohhfaaDoorSigA
import Derived.Test.YtohknemfcohhfaaDoorSigB
import Derived.Test.YtohknemfcohhfaaDoorSigC
import Derived.Test.YtohknemfcohhfaaDoorSigD
import Derived.Test.YtohknemfcohhfaaDoorSigE
import Derived.Test.YtohknemfcohhfaaDoorSigP
import Derived.Test.YtohknemfcohhfaaDoorSigF
import Derived.Test.YtohknemfcohhfaaDoorSigG
import Derived.Test.YtohknemfcohhfaaDoorTree
import Derived.Test.YtohknemfcohhfaaDoorSign
import Derived.Test.YtohknemfcohhfaaDoorShelf
import Derived.Lib.ConvBytes
import Derived.StillTailTactics
import Derived.Lib.AppendZerosOnto
import Derived.Deep.RegionHeld3
import Derived.Stop.BytesEq
import Derived.Great.BuildSlice
import Derived.Deep.MidRow
import Derived.Deep.RegionLaw
import Derived.Deep.DeepCutAuto
import Derived.Deep.QuietTactic
import Derived.BigQuiet
import Derived.Laws.EntriesVeiled
namespace Go.Proofs.YtohknemfcohhfaaDoor
open Go.RowKit Go.VS
/-- is a key, and a message, small? -/
def fewF (n : Nat) (m : Int) (b : Nat) : Bool := decide (m ≤ 2 ∧ n ≤ 100 ∧ b ≤ 300)
set_option maxRecDepth 100000 in
set_option maxHeartbeats 1000000 in
theorem few_c (A : Option Addr) (n c : Nat) (hn : n ≤ maxLen) (m u : Int) (B : Option Addr) (b d : Nat) (hb : b ≤ maxLen) (w : World) :
    Calls Tryd.prog 31 #[keyV A n c m u, .slice B b d] w fun e w' => e = .returned (.bool (fewF n m b)) ∧ Below w.heap.size w w' := by
  have hbel : Below w.heap.size w (w.alloc (.cells #[.slice A n c, .int .i64 m, .int .i64 u] 45)) := (by repeat (first | (with_reducible exact Below.refl _ _) | (with_reducible refine Below.drew ?_) | (with_reducible refine belowDrewN ?_ _) | (with_reducible refine belowAlloc ?_ _) | ((with_reducible refine belowSet2 ?_ ?_); omega) | (with_reducible assumption) | (with_reducible refine belowVia (by assumption) ?_) | (with_reducible refine belowVia (Grow.below (by assumption)) ?_)))
  unfold maxLen at hn hb
  go_enter Tryd.func31, Tryd.ntmps31
  go_wp2
  all_goals
    go_ret
    exact ⟨by first | (simp [fewF]; omega) | exact congrArg (fun b => Ending.returned (Value.bool b)) (decide_eq_decide.2 (by omega)), hbel⟩
/-- what was signed verifies. -/
theorem ver_sign (sh : List UInt8 → List UInt8) (hs : Sh sh) (seed : List UInt8) (m u : Nat) (hu : u < m) (hm : m ≤ 256) (msg : List UInt8) :
    verF sh (treeF (tagB sh) (keysF (tagB sh) seed m)) m u msg (partsF (tagB sh) seed u (sigD sh seed m u msg)) (pathF (tagB sh) (keysF (tagB sh) seed m) u) = true := by
  have hh32 : (hashF (tagB sh) (treeF (tagB sh) (keysF (tagB sh) seed m)) u msg).length = 32 := hs.len _
  have hb := back_sign (tagB sh) seed m u hu (sigD sh seed m u msg) (fun j hj => digF_range _ hh32 j hj)
  have hl : (pathF (tagB sh) (keysF (tagB sh) seed m) u).length = lenF u m := pathF_len _ m _ _ (keysF_len _ _ _)
  unfold backF at hb
  unfold verF
  change (decide ((climbR sh (oneF (tagB sh) (openF (tagB sh) (partsF (tagB sh) seed u (sigD sh seed m u msg)) u (sigD sh seed m u msg))) u m _).2 = 0) && ((climbR sh (oneF (tagB sh) (openF (tagB sh) (partsF (tagB sh) seed u (sigD sh seed m u msg)) u (sigD sh seed m u msg))) u m _).1 == _)) = true
  unfold climbR
  rw [if_pos ⟨by omega, by omega, by omega, by rw [hl]; simp⟩]
  simp only [Int.toNat_natCast] at hb ⊢
  rw [hb]
  simp
theorem valid_nat {n : Nat} {m u : Int} (h : validF n m u = true) : ∃ m' u' : Nat, m = m' ∧ u = u' ∧ 1 ≤ n ∧ n ≤ 64 ∧ 1 ≤ m' ∧ m' ≤ 256 ∧ u' ≤ m' := by
  obtain ⟨h1, h2, h3, h4, h5, h6⟩ := of_decide_eq_true h
  exact ⟨m.toNat, u.toNat, by omega, by omega, h1, h2, by omega, by omega, by omega⟩
set_option maxRecDepth 100000 in
set_option maxHeartbeats 1000000 in
theorem verifies_walk {sh : List UInt8 → List UInt8} (hs : Sh sh) (A : Option Addr) (n c : Nat) (seed : List UInt8) (m u : Int) (B : Option Addr) (b d : Nat) (msg : List UInt8) (D : Gh) (w : World) (hk : Keeps D w) (hT : Tab D) (hA : BS D (.slice A n c) seed) (hB : BS D (.slice B b d) msg) :
    Calls Tryd.prog 13 #[keyV A n c m u, .slice B b d] w fun x w' => x = .returned (.bool true) ∧ Below w.heap.size w w' := by
  have hnm : n ≤ maxLen := by have := hA.len; omega
  have hbm : b ≤ maxLen := by have := hB.len; omega
  have hB0 := Box.new2 hk rfl 45 #[.slice A n c, .int .i64 m, .int .i64 u]
  have hk0 := hk.alloc (.cells #[.slice A n c, .int .i64 m, .int .i64 u] 45)
  have hbel0 : Below w.heap.size w (w.alloc (.cells #[.slice A n c, .int .i64 m, .int .i64 u] 45)) := (by repeat (first | (with_reducible exact Below.refl _ _) | (with_reducible refine Below.drew ?_) | (with_reducible refine belowDrewN ?_ _) | (with_reducible refine belowAlloc ?_ _) | ((with_reducible refine belowSet2 ?_ ?_); omega) | (with_reducible assumption) | (with_reducible refine belowVia (by assumption) ?_) | (with_reducible refine belowVia (Grow.below (by assumption)) ?_)))
  have HSA := Lib.hid (fun W hk => sane32_c D W hk)
  have HFC := Lib.hid (fun W => few_c A n c hnm m u B b d hbm W)
  go_enter Tryd.func13, Tryd.ntmps13
  go_wp2_with fail
  refine (HSA.out _ hk0).mono ?_
  rintro e w1 ⟨rfl, hb1⟩
  replace hB0 := hB0.below hb1 hB0.lt
  have hk1 := hk0.below hb1 (Nat.le_refl _)
  have hbel1 := belowVia hb1 hbel0
  clear hb1 hk0 hbel0 HSA
  have q0 := hB0.cell 0
  have q1 := hB0.cell 1
  have q2 := hB0.cell 2
  go_wp2_with fail
  refine (HFC.out _).mono ?_
  rintro e w2 ⟨rfl, hb2⟩
  replace hB0 := hB0.below hb2 hB0.lt
  have hk2 := hk1.below hb2 (Nat.le_refl _)
  have hbel2 := belowVia hb2 hbel1
  clear hb2 hk1 hbel1 HFC q0 q1 q2
  by_cases hfew : fewF n m b = true
  · rw [hfew]
    have hf := of_decide_eq_true hfew
    obtain ⟨f1, f2, f3⟩ := hf
    clear hfew
    have q0 := hB0.cell 0
    have q1 := hB0.cell 1
    have q2 := hB0.cell 2
    by_cases hv : validF n m u = true
    · obtain ⟨m, u, rfl, rfl, v1, v2, v3, v4, v5⟩ := valid_nat hv
      have hp32 := Lib.hid (treeF_len hs (keysF (tagB sh) seed m))
      have HP1 := Lib.hid (fun W hk => public_ok hs A n c seed m u D W hk hT hA hv)
      have HPX := Lib.hid (fun A' c' D' W hk hT hA (hv : validF n m ((u : Int) + 1) = true) => public_ok hs A' n c' seed m ((u : Int) + 1) D' W hk hT hA hv)
      rw [dg_darr _ hp32.out] at HP1
      have HSG := Lib.hid (fun W hk (hu : u < m) => sign_ok hs A n c seed m u B b d msg (by omega) D W hk hT hA hB hv hu)
      have HVS := Lib.hid (fun (hu : u < m) => ver_sign sh hs seed m u hu v4 msg)
      have HVE := Lib.hid (fun A' c' P' d' E' f' D' W hk hT hA hB hE (hu : u < m) => verify_ok hs (treeF (tagB sh) (keysF (tagB sh) seed m)) hp32.out m A' b c' msg (by omega) u P' d' (partsF (tagB sh) seed u (sigD sh seed m u msg)) E' (lenF u m) f' (pathF (tagB sh) (keysF (tagB sh) seed m) u) D' W hk hT hA hB hE v4 hu)
      generalize sigD sh seed m u msg = L at *
      generalize pathF (tagB sh) (keysF (tagB sh) seed m) u = pth at *
      generalize partsF (tagB sh) seed u L = prt at *
      generalize treeF (tagB sh) (keysF (tagB sh) seed m) = p at *
      generalize lenF u m = l at *
      have hz26 := sz26 p hp32.out
      have hsz : (darr []).size = (darr p).size := by rw [darr_size _ (by simp), darr_size _ (by rw [hp32.out]; omega)]
      go_wp2_with fail
      refine (HP1.out _ hk2).mono ?_
      rintro e w3 ⟨rfl, hb3⟩
      replace hB0 := (hB0.below hb3 hB0.lt).alloc (.cells (darr p) 26)
      have hBp := Box.new2 (hk2.below hb3 (Nat.le_refl _)) rfl 26 (darr p)
      have hk3 := (hk2.below hb3 (Nat.le_refl _)).alloc (.cells (darr p) 26)
      have hbel3 := belowAlloc (belowVia hb3 hbel2) (.cells (darr p) 26)
      clear q0 q1 q2 hb3 hk2 hbel2 HP1
      have q0 := hB0.cell 0
      have q1 := hB0.cell 1
      have q2 := hB0.cell 2
      go_wp2_with (first | (((with_reducible show wpList _ _ _ ((⟨_, .store 26 _ _, _, _, _, _⟩ : Oper) :: _) _ _); refine wpList_store_row rfl 26 _ _ rfl (w3.heap.size) (darr p) rfl rfl 26 (darr []) (heap_alloc_new w3 _) (hz26) (hsz) (darr_one _) ?_); rw [World.setRow_alloc_new]))
      by_cases hu : u = m
      · subst hu
        refine (sign_bad A n c hnm u u B b d hbm _ D hk3 320 (.inr (.inr ⟨hv, by omega, rfl, rfl⟩))).mono ?_
        rintro e w4 ⟨rfl, hb4⟩
        have hbel4 := belowVia hb4 hbel3
        go_wp2
        go_ret
        exact ⟨rfl, belowAlloc (belowAlloc hbel4 _) _⟩
      · have hum : u < m := by omega
        refine (HSG.out _ hk3 hum).mono ?_
        rintro e w4 ⟨A4, c4, P4, d4, E4, f4, D4, rfl, hG4, hA4, hP4, hE4⟩
        have hbel4 : Below w.heap.size w ((w4.alloc (.cells #[.slice A4 n c4, .int .i64 m, .int .i64 ((u : Int) + 1)] 45)).alloc (.cells #[.int .i64 u, .slice P4 67 d4, .slice E4 l f4] 49)) := belowAlloc (belowAlloc (belowVia hG4.below hbel3) _) _
        have hB0a := ((hB0.grow hG4).alloc (.cells #[.slice A4 n c4, .int .i64 m, .int .i64 ((u : Int) + 1)] 45)).alloc (.cells #[.int .i64 u, .slice P4 67 d4, .slice E4 l f4] 49)
        have hBpa := ((hBp.grow hG4).alloc (.cells #[.slice A4 n c4, .int .i64 m, .int .i64 ((u : Int) + 1)] 45)).alloc (.cells #[.int .i64 u, .slice P4 67 d4, .slice E4 l f4] 49)
        have hB7 := (Box.new2 hG4.keeps rfl 45 #[.slice A4 n c4, .int .i64 m, .int .i64 ((u : Int) + 1)]).alloc (.cells #[.int .i64 u, .slice P4 67 d4, .slice E4 l f4] 49)
        have hB8 := Box.new2 (hG4.keeps.alloc (.cells #[.slice A4 n c4, .int .i64 m, .int .i64 ((u : Int) + 1)] 45)) (g := w4.heap.size + 1) (by simp) 49 #[.int .i64 u, .slice P4 67 d4, .slice E4 l f4]
        have hk4 := (hG4.keeps.alloc (.cells #[.slice A4 n c4, .int .i64 m, .int .i64 ((u : Int) + 1)] 45)).alloc (.cells #[.int .i64 u, .slice P4 67 d4, .slice E4 l f4] 49)
        have hT4 := hT.le hG4.le
        have hB4 := hB.le hG4.le
        have hv4 : validF n m ((u : Int) + 1) = true := by
          unfold validF
          exact decide_eq_true ⟨by omega, by omega, by omega, by omega, by omega, by omega⟩
        have HP2 := Lib.hid (fun W hk => HPX.out A4 c4 D4 W hk hT4 hA4 hv4)
        rw [dg_darr _ hp32.out] at HP2
        have HVF := Lib.hid (fun W hk => HVE.out B d P4 d4 E4 f4 D4 W hk hT4 hB4 hP4 hE4 hum)
        rw [HVS.out hum] at HVF
        clear q0 q1 q2 hG4 hB0 hBp hk3 hbel3 HPX HVE HSG hA4 hP4 hE4 hT4 hB4 hv4 HVS
        have x0 := hB7.cell 0
        have x1 := hB7.cell 1
        have x2 := hB7.cell 2
        go_wp2_with fail
        generalize hW4 : (w4.alloc (.cells #[.slice A4 n c4, .int .i64 m, .int .i64 ((u : Int) + 1)] 45)).alloc (.cells #[.int .i64 u, .slice P4 67 d4, .slice E4 l f4] 49) = W4 at *
        clear hW4
        refine (HP2.out _ hk4).mono ?_
        rintro e w5 ⟨rfl, hb5⟩
        have hbel5 := belowAlloc (belowVia hb5 hbel4) (.cells (darr p) 26)
        have hB0b := (hB0a.below hb5 hB0a.lt).alloc (.cells (darr p) 26)
        have hBpb := (hBpa.below hb5 hBpa.lt).alloc (.cells (darr p) 26)
        have hB7b := (hB7.below hb5 hB7.lt).alloc (.cells (darr p) 26)
        have hB8b := (hB8.below hb5 hB8.lt).alloc (.cells (darr p) 26)
        have hB10 := Box.new2 (hk4.below hb5 (Nat.le_refl _)) rfl 26 (darr p)
        have hk5 := (hk4.below hb5 (Nat.le_refl _)).alloc (.cells (darr p) 26)
        clear x0 x1 x2 hB0a hBpa hB7 hB8 hb5 hk4 hbel4 HP2
        have y0 := hB0b.cell 1
        have y1 := hB0b.cell 2
        have x0 := hB7b.cell 1
        have x1 := hB7b.cell 2
        have z0 := hB8b.cell 0
        have z1 := hB8b.cell 1
        have z2 := hB8b.cell 2
        have gu : (u : Int) ≤ 256 := by omega
        have gu0 : (0 : Int) ≤ (u : Int) := by omega
        have heq : ∀ W, (Op.equalIn 10000 26 (.agg (darr p)) (.agg (darr p))).run Tryd.prog W = .ok true W := fun W => by
          rw [eq26 p p hp32.out hp32.out W]; simp
        go_wp2_with (first | (((with_reducible show wpList _ _ _ ((⟨_, .store 26 _ _, _, _, _, _⟩ : Oper) :: _) _ _); refine wpList_store_row rfl 26 _ _ rfl (w5.heap.size) (darr p) rfl rfl 26 (darr []) (heap_alloc_new w5 _) (hz26) (hsz) (darr_one _) ?_); rw [World.setRow_alloc_new]) | ((with_reducible show wpList _ _ _ ((⟨_, .load 26 _, _, _, _, _⟩ : Oper) :: _) _ _); refine wpList_gload_row (by first | rfl | (simp [Region.wanted, yielded]; done)) 26 _ rfl (w5.heap.size) rfl 26 _ (0, 0) _ (hB10.heap) Tryd.underlying26 rfl (hz26) ?_) | ((with_reducible show wpList _ _ _ ((⟨_, .load 26 _, _, _, _, _⟩ : Oper) :: _) _ _); refine wpList_gload_row (by first | rfl | (simp [Region.wanted, yielded]; done)) 26 _ rfl (w3.heap.size) rfl 26 _ (0, 0) _ (hBpb.heap) Tryd.underlying26 rfl (hz26) ?_))
        refine (HVF.out _ hk5).mono ?_
        rintro e w6 ⟨rfl, hb6⟩
        have hbel6 := belowVia hb6 hbel5
        go_wp2_with fail
        go_ret
        exact ⟨rfl, hbel6⟩
    · have hv : validF n m u = false := by simpa using hv
      go_wp2_with fail
      refine (public_bad A n c hnm m u D w2 hk2 hv).mono ?_
      rintro e w3 ⟨rfl, hb3⟩
      rw [dg_darr zeros32 rfl]
      have hz26 := sz26 zeros32 rfl
      replace hB0 := (hB0.below hb3 hB0.lt).alloc (.cells (darr zeros32) 26)
      have hk3 := (hk2.below hb3 (Nat.le_refl _)).alloc (.cells (darr zeros32) 26)
      have hbel3 := belowAlloc (belowVia hb3 hbel2) (.cells (darr zeros32) 26)
      clear q0 q1 q2 hb3 hk2 hbel2
      have q0 := hB0.cell 0
      have q1 := hB0.cell 1
      have q2 := hB0.cell 2
      go_wp2_with (first | (((with_reducible show wpList _ _ _ ((⟨_, .store 26 _ _, _, _, _, _⟩ : Oper) :: _) _ _); refine wpList_store_row rfl 26 _ _ rfl (w3.heap.size) (darr zeros32) rfl rfl 26 (darr []) (heap_alloc_new w3 _) (hz26) (rfl) (darr_one _) ?_); rw [World.setRow_alloc_new]))
      refine (sign_bad A n c hnm m u B b d hbm _ D hk3 320 (.inl ⟨hv, rfl⟩)).mono ?_
      rintro e w4 ⟨rfl, hb4⟩
      have hbel4 := belowVia hb4 hbel3
      go_wp2
      go_ret
      exact ⟨rfl, belowAlloc (belowAlloc hbel4 _) _⟩
  · have hfew : fewF n m b = false := by simpa using hfew
    rw [hfew]
    clear hfew
    go_wp2
    go_ret
    exact ⟨rfl, hbel2⟩
end Go.Proofs.YtohknemfcohhfaaDoor
