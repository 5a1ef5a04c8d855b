/-
  What is proved here: the walk of SigningSignSpec
-/
import Derived.Test.YtohknemfcohhfaaDoorRows
import Derived.Test.YtohknemfcohhfaaDoorBaseC
import Derived.Test.YtohknemfcohhfaaDoorSha
import Derived.Test.YtohknemfcohhfaaDoorTree
import Derived.Test.YtohknemfcohhfaaDoorSign
import Derived.Test.YtohknemfcohhfaaDoorShelf
import Derived.Test.YtohknemfcohhfaaDoorDigA
import Derived.Test.YtohknemfcohhfaaDoorDigC
import Derived.Test.YtohknemfcohhfaaDoorDigD
import Derived.Test.YtohknemfcohhfaaDoorDigE
import Derived.Test.YtohknemfcohhfaaDoorDigF
import Derived.Test.YtohknemfcohhfaaDoorDigG
import Derived.Test.YtohknemfcohhfaaDoorDigH
import Derived.Test.YtohknemfcohhfaaDoorDigI
import Derived.Test.YtohknemfcohhfaaDoorDigJ
import Derived.Test.YtohknemfcohhfaaDoorDigK
import Derived.Test.YtohknemfcohhfaaDoorDigL
import Derived.Test.YtohknemfcohhfaaDoorDigM
import Derived.Test.YtohknemfcohhfaaDoorDigN
import Derived.Test.YtohknemfcohhfaaDoorDigO
import Derived.Test.YtohknemfcohhfaaDoorDigP
import Derived.Test.YtohknemfcohhfaaDoorDigQ
import Derived.Test.YtohknemfcohhfaaDoorDigR
import Derived.Test.YtohknemfcohhfaaDoorDigS
import Derived.Test.YtohknemfcohhfaaDoorDigT
import Derived.Test.YtohknemfcohhfaaDoorLawHalves
import Derived.Test.YtohknemfcohhfaaDoorDigU
import Derived.Test.YtohknemfcohhfaaDoorDigW
import Derived.Test.YtohknemfcohhfaaDoorDigX
import Derived.Test.YtohknemfcohhfaaDoorDigY
import Derived.Test.YtohknemfcohhfaaDoorSigA
import Derived.Test.YtohknemfcohhfaaDoorSigB
import Derived.Test.YtohknemfcohhfaaDoorSigC
import Derived.Test.YtohknemfcohhfaaDoorSigD
import Derived.Test.YtohknemfcohhfaaDoorSigE
import Derived.Test.YtohknemfcohhfaaDoorSigP
import Derived.Test.YtohknemfcohhfaaDoorSigF
import Derived.Test.YtohknemfcohhfaaDoorSigG
import Derived.Test.YtohknemfcohhfaaDoorSigI
import Derived.Test.YtohknemfcohhfaaDoorSigJ
import Derived.Test.YtohknemfcohhfaaDoorSigK
import Derived.Test.YtohknemfcohhfaaDoorSigL
import Derived.Test.YtohknemfcohhfaaDoorLawVerifies
import Derived.Lib.ConvBytes
import Derived.StillTailTactics
import Derived.Lib.AppendZerosOnto
import Derived.Deep.RegionHeld3
import Derived.Stop.BytesEq
import Derived.Great.BuildSlice
import Derived.Deep.MidRow
import Derived.Deep.RegionLaw
import Derived.Deep.DeepCutAuto
import Derived.Deep.QuietTactic
import Derived.BigQuiet
import Derived.Laws.EntriesVeiled
namespace Go.Proofs.YtohknemfcohhfaaDoor
open Go.RowKit Go.VS
/-- what Sign returns, of either package. -/
structure SRes where
  sd : List UInt8
  m : Int
  u : Int
  i : Int
  z : Int
  ps : List (List UInt8)
  qs : List (List UInt8)
def SPost (D : Gh) (w : World) (R : SRes) (x : Ending) (w' : World) : Prop :=
  ∃ A' c' P' d' E' f' D', x = .returned (.tuple #[keyV A' R.sd.length c' R.m R.u, sigV R.i P' R.ps.length d' E' R.qs.length f', .int .i64 R.z]) ∧ Grow w D w' D' ∧ BS D' (.slice A' R.sd.length c') R.sd ∧ DS D' (.slice P' R.ps.length d') R.ps ∧ DS D' (.slice E' R.qs.length f') R.qs
theorem spost_bad {D : Gh} {w w' : World} (hk : Keeps D w) (hb : Below w.heap.size w w') (z : Int) : SPost D w ⟨[], 0, 0, 0, z, [], []⟩ (.returned (.tuple #[key0, sig0, .int .i64 z])) w' :=
  ⟨none, 0, none, 0, none, 0, D, rfl, Grow.of_below hk hb, BS.nil D, DS.nil D, DS.nil D⟩
/-- both Signs answer alike, of a key that is invalid or few, and a message of 300 bytes at most where it is few. -/
theorem signs {sh : List UInt8 → List UInt8} (hs : Sh sh) (A : Option Addr) (n c : Nat) (hn : n ≤ maxLen) (seed : List UInt8) (m u : Int) (B : Option Addr) (b d : Nat) (hbm : b ≤ maxLen) (msg : List UInt8) (D : Gh) (hT : Tab D) (hA : BS D (.slice A n c) seed) (hB : BS D (.slice B b d) msg)
    (h : validF n m u = false ∨ (validF n m u = true ∧ b ≤ 300)) :
    ∃ R : SRes, (∀ D' w, D.le D' → Keeps D' w → Calls Tryd.prog 33 #[keyV A n c m u, .slice B b d] w (SPost D' w R)) ∧ (∀ D' w, D.le D' → Keeps D' w → Calls Tryd.prog 34 #[keyV A n c m u, .slice B b d] w (SPost D' w R)) := by
  rcases h with hv | ⟨hv, hb⟩
  · refine ⟨⟨[], 0, 0, 0, 320, [], []⟩, fun D' w hle hk => ?_, fun D' w hle hk => ?_⟩
    · refine (sign_bad A n c hn m u B b d hbm w D' hk 320 (.inl ⟨hv, rfl⟩)).mono ?_
      rintro x w' ⟨rfl, hb'⟩
      exact spost_bad hk hb' 320
    · refine (rsign_bad A n c hn m u B b d hbm w D' hk 320 (.inl ⟨hv, rfl⟩)).mono ?_
      rintro x w' ⟨rfl, hb'⟩
      exact spost_bad hk hb' 320
  · obtain ⟨m', u', rfl, rfl, h1, h2, h3, h4, h5⟩ := valid_nat hv
    by_cases hum : u' = m'
    · subst hum
      refine ⟨⟨[], 0, 0, 0, 320, [], []⟩, fun D' w hle hk => ?_, fun D' w hle hk => ?_⟩
      · refine (sign_bad A n c hn u' u' B b d hbm w D' hk 320 (.inr (.inr ⟨hv, by omega, rfl, rfl⟩))).mono ?_
        rintro x w' ⟨rfl, hb'⟩
        exact spost_bad hk hb' 320
      · refine (rsign_bad A n c hn u' u' B b d hbm w D' hk 320 (.inr (.inr ⟨hv, by omega, rfl, rfl⟩))).mono ?_
        rintro x w' ⟨rfl, hb'⟩
        exact spost_bad hk hb' 320
    · have hlt : u' < m' := by omega
      obtain ⟨hnl, _, _⟩ := hA.len
      subst hnl
      have e1 := partsF_len (tagB sh) seed u' (sigD sh seed m' u' msg)
      have e2 : (pathF (tagB sh) (keysF (tagB sh) seed m') u').length = lenF u' m' := by rw [pathF_len _ m' _ _ (keysF_len _ _ _)]
      refine ⟨⟨seed, m', (u' : Int) + 1, u', 0, partsF (tagB sh) seed u' (sigD sh seed m' u' msg), pathF (tagB sh) (keysF (tagB sh) seed m') u'⟩, fun D' w hle hk => ?_, fun D' w hle hk => ?_⟩
      · refine (sign_ok hs A _ c seed m' u' B b d msg (by omega) D' w hk (hT.le hle) (hA.le hle) (hB.le hle) hv hlt).mono ?_
        rintro x w' ⟨A', c', P', d', E', f', D'', rfl, hG, h6, h7, h8⟩
        refine ⟨A', c', P', d', E', f', D'', by dsimp only; rw [e1, e2], hG, h6, ?_, ?_⟩
        · dsimp only; rw [e1]; exact h7
        · dsimp only; rw [e2]; exact h8
      · refine (rsign_ok hs A _ c seed m' u' B b d msg (by omega) D' w hk (hA.le hle) (hB.le hle) hv hlt).mono ?_
        rintro x w' ⟨A', c', P', d', E', f', D'', rfl, hG, h6, h7, h8⟩
        refine ⟨A', c', P', d', E', f', D'', by dsimp only; rw [e1, e2], hG, h6, ?_, ?_⟩
        · dsimp only; rw [e1]; exact h7
        · dsimp only; rw [e2]; exact h8
set_option maxRecDepth 100000 in
set_option maxHeartbeats 2000000 in
theorem signspec_walk {sh : List UInt8 → List UInt8} (hs : Sh sh) (A : Option Addr) (n c : Nat) (seed : List UInt8) (m u : Int) (B : Option Addr) (b d : Nat) (msg : List UInt8) (D : Gh) (w : World) (hk : Keeps D w) (hT : Tab D) (hA : BS D (.slice A n c) seed) (hB : BS D (.slice B b d) msg) :
    Calls Tryd.prog 9 #[keyV A n c m u, .slice B b d] w fun e w' => e = .returned (.bool true) ∧ Below w.heap.size w w' := by
  obtain ⟨hn1, hn2, hn3⟩ := hA.len
  obtain ⟨hb1, hb2, hb3⟩ := hB.len
  have hnm : n ≤ maxLen := by omega
  have hbm : b ≤ maxLen := by omega
  obtain ⟨D1, hG1, hkv⟩ := Box.pub hk 45 #[.slice A n c, .int .i64 m, .int .i64 u]
  have kv0 := hkv 0 _ rfl
  have kv1 := hkv 1 _ rfl
  have kv2 := hkv 2 _ rfl
  have hA1 := hA.le hG1.le
  have hB1 := hB.le hG1.le
  have hT1 := hT.le hG1.le
  have HSA := Lib.hid (sane32_c D1 _ hG1.keeps)
  have HFW := Lib.hid (fun W => few_c A n c hnm m u B b d hbm W)
  have HVC := Lib.hid (fun W => rvalid_c A n c hnm m u W)
  have hbel0 := hG1.below
  have hkk := hG1.keeps
  clear hkv hn1 hn2 hn3 hb1 hb2 hb3 hk hT hA hB hG1
  go_enter Tryd.func9, Tryd.ntmps9
  go_wp2_with fail
  refine HSA.out.mono ?_
  rintro e w1 ⟨rfl, hb1⟩
  have hk1 := hkk.below hb1 (Nat.le_refl _)
  have hbel1 := belowVia hb1 hbel0
  clear HSA hkk hb1 hbel0
  have q0 := hk1 _ _ _ kv0
  have q1 := hk1 _ _ _ kv1
  have q2 := hk1 _ _ _ kv2
  go_wp2_with fail
  refine (HFW.out _).mono ?_
  rintro e w2 ⟨rfl, hb2⟩
  have hk2 := hk1.below hb2 (Nat.le_refl _)
  have hbel2 := belowVia hb2 hbel1
  clear q0 q1 q2 HFW hk1 hb2 hbel1
  have q0 := hk2 _ _ _ kv0
  have q1 := hk2 _ _ _ kv1
  have q2 := hk2 _ _ _ kv2
  by_cases hfw : fewF n m b = true
  · have hb300 : b ≤ 300 := (of_decide_eq_true hfw).2.2
    obtain ⟨R, HS1, HS2⟩ := signs hs A n c hnm seed m u B b d hbm msg D1 hT1 hA1 hB1 (by cases hv : validF n m u <;> simp [hb300])
    have H1 := Lib.hid HS1
    have H2 := Lib.hid HS2
    rw [hfw]
    clear hfw HS1 HS2 hb300
    unfold maxLen at hnm hbm
    go_wp2_with fail
    refine (H1.out D1 _ (Gh.le.refl _) hk2).mono ?_
    rintro e w3 ⟨A3, c3, P3, d3, E3, f3, D3, rfl, hG3, hS3, hP3, hQ3⟩
    have hbel3 := belowVia hG3.below hbel2
    obtain ⟨D4, hG4, hv4⟩ := Box.pub hG3.keeps 45 #[.slice A3 R.sd.length c3, .int .i64 R.m, .int .i64 R.u]
    obtain ⟨D5, hG5, hv5⟩ := Box.pub hG4.keeps 49 #[.int .i64 R.i, .slice P3 R.ps.length d3, .slice E3 R.qs.length f3]
    rw [show (w3.alloc (.cells #[.slice A3 R.sd.length c3, .int .i64 R.m, .int .i64 R.u] 45)).heap.size = w3.heap.size + 1 by simp] at hv5
    have hG45 := hG4.trans hG5
    have hle5 := hG3.le.trans hG45.le
    have x0 := hG5.le _ _ _ (hv4 0 _ rfl)
    have x1 := hG5.le _ _ _ (hv4 1 _ rfl)
    have x2 := hG5.le _ _ _ (hv4 2 _ rfl)
    have y0 := hv5 0 _ rfl
    have y1 := hv5 1 _ rfl
    have y2 := hv5 2 _ rfl
    have hS5 := hS3.le hG45.le
    have hP5 := hP3.le hG45.le
    have hQ5 := hQ3.le hG45.le
    have hk5 := hG45.keeps
    have hbel5 : Below w.heap.size w ((w3.alloc (.cells #[.slice A3 R.sd.length c3, .int .i64 R.m, .int .i64 R.u] 45)).alloc (.cells #[.int .i64 R.i, .slice P3 R.ps.length d3, .slice E3 R.qs.length f3] 49)) := belowVia hG45.below hbel3
    replace kv0 := hle5 _ _ _ kv0
    replace kv1 := hle5 _ _ _ kv1
    replace kv2 := hle5 _ _ _ kv2
    clear q0 q1 q2 hv4 hv5 hG3 hG4 hG5 hG45 hS3 hP3 hQ3 hbel3 H1
    have q0 := hk5 _ _ _ kv0
    have q1 := hk5 _ _ _ kv1
    have q2 := hk5 _ _ _ kv2
    go_wp2_with fail
    refine (H2.out D5 _ hle5 hk5).mono ?_
    rintro e w6 ⟨A6, c6, P6, d6, E6, f6, D6, rfl, hG6, hS6, hP6, hQ6⟩
    have hbel6 := belowVia hG6.below hbel5
    obtain ⟨D7, hG7, hv7⟩ := Box.pub hG6.keeps 45 #[.slice A6 R.sd.length c6, .int .i64 R.m, .int .i64 R.u]
    obtain ⟨D8, hG8, hv8⟩ := Box.pub hG7.keeps 49 #[.int .i64 R.i, .slice P6 R.ps.length d6, .slice E6 R.qs.length f6]
    rw [show (w6.alloc (.cells #[.slice A6 R.sd.length c6, .int .i64 R.m, .int .i64 R.u] 45)).heap.size = w6.heap.size + 1 by simp] at hv8
    have hG78 := hG7.trans hG8
    have hle8 := hG6.le.trans hG78.le
    replace x0 := hle8 _ _ _ x0
    replace x1 := hle8 _ _ _ x1
    replace x2 := hle8 _ _ _ x2
    replace y0 := hle8 _ _ _ y0
    replace y1 := hle8 _ _ _ y1
    replace y2 := hle8 _ _ _ y2
    have z0 := hG8.le _ _ _ (hv7 0 _ rfl)
    have z1 := hG8.le _ _ _ (hv7 1 _ rfl)
    have z2 := hG8.le _ _ _ (hv7 2 _ rfl)
    have v0 := hv8 0 _ rfl
    have v1 := hv8 1 _ rfl
    have v2 := hv8 2 _ rfl
    have hS8 := hS6.le hG78.le
    have hP8 := hP6.le hG78.le
    have hQ8 := hQ6.le hG78.le
    replace hS5 := hS5.le hle8
    replace hP5 := hP5.le hle8
    replace hQ5 := hQ5.le hle8
    have hk8 := hG78.keeps
    have hbel8 : Below w.heap.size w ((w6.alloc (.cells #[.slice A6 R.sd.length c6, .int .i64 R.m, .int .i64 R.u] 45)).alloc (.cells #[.int .i64 R.i, .slice P6 R.ps.length d6, .slice E6 R.qs.length f6] 49)) := belowVia hG78.below hbel6
    have HSK := Lib.hid (fun W hk => rsamekey_c A3 A6 _ c3 c6 R.m R.u R.sd D8 W hk hS5 hS8)
    have HSS := Lib.hid (fun W hk => rsame36_c R.i P3 E3 P6 E6 _ d3 _ f3 d6 f6 R.ps R.qs D8 W hk hP5 hQ5 hP8 hQ8)
    clear q0 q1 q2 hv7 hv8 hG6 hG7 hG8 hG78 hS6 hP6 hQ6 hbel6 hS5 hP5 hQ5 hS8 hP8 hQ8 hk5 hbel5 H2
    have a0 := hk8 _ _ _ x0
    have a1 := hk8 _ _ _ x1
    have a2 := hk8 _ _ _ x2
    have b0 := hk8 _ _ _ z0
    have b1 := hk8 _ _ _ z1
    have b2 := hk8 _ _ _ z2
    go_wp2_with fail
    refine (HSK.out _ hk8).mono ?_
    rintro e w9 ⟨rfl, hb9⟩
    have hk9 := hk8.below hb9 (Nat.le_refl _)
    have hbel9 := belowVia hb9 hbel8
    clear a0 a1 a2 b0 b1 b2 hk8 hbel8 hb9
    have a0 := hk9 _ _ _ y0
    have a1 := hk9 _ _ _ y1
    have a2 := hk9 _ _ _ y2
    have b0 := hk9 _ _ _ v0
    have b1 := hk9 _ _ _ v1
    have b2 := hk9 _ _ _ v2
    go_wp2_with fail
    refine (HSS.out _ hk9).mono ?_
    rintro e w10 ⟨rfl, hb10⟩
    go_wp2_with fail
    go_ret
    exact ⟨rfl, belowVia hb10 hbel9⟩
  · have hfw' : fewF n m b = false := by simpa using hfw
    rw [hfw']
    clear hfw hfw'
    go_wp2_with fail
    refine (HVC.out _).mono ?_
    rintro e w2' ⟨rfl, hb2'⟩
    have hk2' := hk2.below hb2' (Nat.le_refl _)
    have hbel2' := belowVia hb2' hbel2
    clear q0 q1 q2 hb2' hk2 hbel2
    cases hv : validF n m u with
    | true =>
      clear hv
      go_wp2_with fail
      go_ret
      exact ⟨rfl, hbel2'⟩
    | false =>
      obtain ⟨R, HS1, HS2⟩ := signs hs A n c hnm seed m u B b d hbm msg D1 hT1 hA1 hB1 (.inl hv)
      have H1 := Lib.hid HS1
      have H2 := Lib.hid HS2
      clear hv HS1 HS2
      unfold maxLen at hnm hbm
      have q0 := hk2' _ _ _ kv0
      have q1 := hk2' _ _ _ kv1
      have q2 := hk2' _ _ _ kv2
      go_wp2_with fail
      refine (H1.out D1 _ (Gh.le.refl _) hk2').mono ?_
      rintro e w3 ⟨A3, c3, P3, d3, E3, f3, D3, rfl, hG3, hS3, hP3, hQ3⟩
      have hbel3 := belowVia hG3.below hbel2'
      obtain ⟨D4, hG4, hv4⟩ := Box.pub hG3.keeps 45 #[.slice A3 R.sd.length c3, .int .i64 R.m, .int .i64 R.u]
      obtain ⟨D5, hG5, hv5⟩ := Box.pub hG4.keeps 49 #[.int .i64 R.i, .slice P3 R.ps.length d3, .slice E3 R.qs.length f3]
      rw [show (w3.alloc (.cells #[.slice A3 R.sd.length c3, .int .i64 R.m, .int .i64 R.u] 45)).heap.size = w3.heap.size + 1 by simp] at hv5
      have hG45 := hG4.trans hG5
      have hle5 := hG3.le.trans hG45.le
      have x0 := hG5.le _ _ _ (hv4 0 _ rfl)
      have x1 := hG5.le _ _ _ (hv4 1 _ rfl)
      have x2 := hG5.le _ _ _ (hv4 2 _ rfl)
      have y0 := hv5 0 _ rfl
      have y1 := hv5 1 _ rfl
      have y2 := hv5 2 _ rfl
      have hS5 := hS3.le hG45.le
      have hP5 := hP3.le hG45.le
      have hQ5 := hQ3.le hG45.le
      have hk5 := hG45.keeps
      have hbel5 : Below w.heap.size w ((w3.alloc (.cells #[.slice A3 R.sd.length c3, .int .i64 R.m, .int .i64 R.u] 45)).alloc (.cells #[.int .i64 R.i, .slice P3 R.ps.length d3, .slice E3 R.qs.length f3] 49)) := belowVia hG45.below hbel3
      replace kv0 := hle5 _ _ _ kv0
      replace kv1 := hle5 _ _ _ kv1
      replace kv2 := hle5 _ _ _ kv2
      clear q0 q1 q2 hv4 hv5 hG3 hG4 hG5 hG45 hS3 hP3 hQ3 hbel3 H1
      have q0 := hk5 _ _ _ kv0
      have q1 := hk5 _ _ _ kv1
      have q2 := hk5 _ _ _ kv2
      go_wp2_with fail
      refine (H2.out D5 _ hle5 hk5).mono ?_
      rintro e w6 ⟨A6, c6, P6, d6, E6, f6, D6, rfl, hG6, hS6, hP6, hQ6⟩
      have hbel6 := belowVia hG6.below hbel5
      obtain ⟨D7, hG7, hv7⟩ := Box.pub hG6.keeps 45 #[.slice A6 R.sd.length c6, .int .i64 R.m, .int .i64 R.u]
      obtain ⟨D8, hG8, hv8⟩ := Box.pub hG7.keeps 49 #[.int .i64 R.i, .slice P6 R.ps.length d6, .slice E6 R.qs.length f6]
      rw [show (w6.alloc (.cells #[.slice A6 R.sd.length c6, .int .i64 R.m, .int .i64 R.u] 45)).heap.size = w6.heap.size + 1 by simp] at hv8
      have hG78 := hG7.trans hG8
      have hle8 := hG6.le.trans hG78.le
      replace x0 := hle8 _ _ _ x0
      replace x1 := hle8 _ _ _ x1
      replace x2 := hle8 _ _ _ x2
      replace y0 := hle8 _ _ _ y0
      replace y1 := hle8 _ _ _ y1
      replace y2 := hle8 _ _ _ y2
      have z0 := hG8.le _ _ _ (hv7 0 _ rfl)
      have z1 := hG8.le _ _ _ (hv7 1 _ rfl)
      have z2 := hG8.le _ _ _ (hv7 2 _ rfl)
      have v0 := hv8 0 _ rfl
      have v1 := hv8 1 _ rfl
      have v2 := hv8 2 _ rfl
      have hS8 := hS6.le hG78.le
      have hP8 := hP6.le hG78.le
      have hQ8 := hQ6.le hG78.le
      replace hS5 := hS5.le hle8
      replace hP5 := hP5.le hle8
      replace hQ5 := hQ5.le hle8
      have hk8 := hG78.keeps
      have hbel8 : Below w.heap.size w ((w6.alloc (.cells #[.slice A6 R.sd.length c6, .int .i64 R.m, .int .i64 R.u] 45)).alloc (.cells #[.int .i64 R.i, .slice P6 R.ps.length d6, .slice E6 R.qs.length f6] 49)) := belowVia hG78.below hbel6
      have HSK := Lib.hid (fun W hk => rsamekey_c A3 A6 _ c3 c6 R.m R.u R.sd D8 W hk hS5 hS8)
      have HSS := Lib.hid (fun W hk => rsame36_c R.i P3 E3 P6 E6 _ d3 _ f3 d6 f6 R.ps R.qs D8 W hk hP5 hQ5 hP8 hQ8)
      clear q0 q1 q2 hv7 hv8 hG6 hG7 hG8 hG78 hS6 hP6 hQ6 hbel6 hS5 hP5 hQ5 hS8 hP8 hQ8 hk5 hbel5 H2
      have a0 := hk8 _ _ _ x0
      have a1 := hk8 _ _ _ x1
      have a2 := hk8 _ _ _ x2
      have b0 := hk8 _ _ _ z0
      have b1 := hk8 _ _ _ z1
      have b2 := hk8 _ _ _ z2
      go_wp2_with fail
      refine (HSK.out _ hk8).mono ?_
      rintro e w9 ⟨rfl, hb9⟩
      have hk9 := hk8.below hb9 (Nat.le_refl _)
      have hbel9 := belowVia hb9 hbel8
      clear a0 a1 a2 b0 b1 b2 hk8 hbel8 hb9
      have a0 := hk9 _ _ _ y0
      have a1 := hk9 _ _ _ y1
      have a2 := hk9 _ _ _ y2
      have b0 := hk9 _ _ _ v0
      have b1 := hk9 _ _ _ v1
      have b2 := hk9 _ _ _ v2
      go_wp2_with fail
      refine (HSS.out _ hk9).mono ?_
      rintro e w10 ⟨rfl, hb10⟩
      go_wp2_with fail
      go_ret
      exact ⟨rfl, belowVia hb10 hbel9⟩
end Go.Proofs.YtohknemfcohhfaaDoor
