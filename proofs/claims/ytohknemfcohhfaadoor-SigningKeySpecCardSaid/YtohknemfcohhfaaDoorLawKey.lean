/-
  What is proved here: the walk of SigningKeySpec
-/
import Derived.Test.YtohknemfcohhfaaDoorRows
import Derived.Test.YtohknemfcohhfaaDoorBaseC
import Derived.Test.YtohknemfcohhfaaDoorSha
import Derived.Test.YtohknemfcohhfaaDoorTree
import Derived.Test.YtohknemfcohhfaaDoorSign
import Derived.Test.YtohknemfcohhfaaDoorShelf
import Derived.Test.YtohknemfcohhfaaDoorDigA
import Derived.Test.YtohknemfcohhfaaDoorDigC
import Derived.Test.YtohknemfcohhfaaDoorDigD
import Derived.Test.YtohknemfcohhfaaDoorDigE
import Derived.Test.YtohknemfcohhfaaDoorDigF
import Derived.Test.YtohknemfcohhfaaDoorDigG
import Derived.Test.YtohknemfcohhfaaDoorDigH
import Derived.Test.YtohknemfcohhfaaDoorDigI
import Derived.Test.YtohknemfcohhfaaDoorDigJ
import Derived.Test.YtohknemfcohhfaaDoorDigK
import Derived.Test.YtohknemfcohhfaaDoorDigL
import Derived.Test.YtohknemfcohhfaaDoorDigM
import Derived.Test.YtohknemfcohhfaaDoorDigN
import Derived.Test.YtohknemfcohhfaaDoorDigO
import Derived.Test.YtohknemfcohhfaaDoorDigP
import Derived.Test.YtohknemfcohhfaaDoorDigQ
import Derived.Test.YtohknemfcohhfaaDoorDigR
import Derived.Test.YtohknemfcohhfaaDoorDigS
import Derived.Test.YtohknemfcohhfaaDoorDigT
import Derived.Test.YtohknemfcohhfaaDoorLawHalves
import Derived.Test.YtohknemfcohhfaaDoorDigU
import Derived.Test.YtohknemfcohhfaaDoorDigW
import Derived.Test.YtohknemfcohhfaaDoorDigX
import Derived.Test.YtohknemfcohhfaaDoorDigY
import Derived.Test.YtohknemfcohhfaaDoorSigA
import Derived.Test.YtohknemfcohhfaaDoorSigB
import Derived.Test.YtohknemfcohhfaaDoorSigC
import Derived.Test.YtohknemfcohhfaaDoorSigD
import Derived.Test.YtohknemfcohhfaaDoorSigE
import Derived.Test.YtohknemfcohhfaaDoorSigP
import Derived.Test.YtohknemfcohhfaaDoorSigF
import Derived.Test.YtohknemfcohhfaaDoorSigG
import Derived.Test.YtohknemfcohhfaaDoorSigI
import Derived.Test.YtohknemfcohhfaaDoorSigJ
import Derived.Test.YtohknemfcohhfaaDoorSigK
import Derived.Test.YtohknemfcohhfaaDoorSigL
import Derived.Test.YtohknemfcohhfaaDoorLawVerifies
import Derived.Lib.ConvBytes
import Derived.StillTailTactics
import Derived.Lib.AppendZerosOnto
import Derived.Deep.RegionHeld3
import Derived.Stop.BytesEq
import Derived.Great.BuildSlice
import Derived.Deep.MidRow
import Derived.Deep.RegionLaw
import Derived.Deep.DeepCutAuto
import Derived.Deep.QuietTactic
import Derived.BigQuiet
import Derived.Laws.EntriesVeiled
namespace Go.Proofs.YtohknemfcohhfaaDoor
open Go.RowKit Go.VS
structure KRes where
  sd : List UInt8
  m : Int
  u : Int
  z : Int
def KPost (D : Gh) (w : World) (R : KRes) (x : Ending) (w' : World) : Prop :=
  ∃ A' c' D', x = .returned (.tuple #[keyV A' R.sd.length c' R.m R.u, .int .i64 R.z]) ∧ Grow w D w' D' ∧ BS D' (.slice A' R.sd.length c') R.sd
def newR (n : Nat) (m : Int) (seed : List UInt8) : KRes := if validF n m 0 = true then ⟨seed, m, 0, 0⟩ else ⟨[], 0, 0, 320⟩
set_option maxRecDepth 100000 in
set_option maxHeartbeats 2000000 in
theorem rnew_c (A : Option Addr) (n c : Nat) (seed : List UInt8) (m : Int) (D : Gh) (w : World) (hk : Keeps D w) (hb : BS D (.slice A n c) seed) (hn : n ≤ 1000000) :
    Calls Tryd.prog 41 #[.slice A n c, .int .i64 m] w (KPost D w (newR n m seed)) := by
  obtain ⟨i0, hi, hz0, hz1, hz2⟩ := info_parts info5
  obtain ⟨hn1, hn2, hn3⟩ := hb.len
  have HN := Lib.hid hn1
  clear hn1
  have hB4 := (Box.new2 hk rfl 45 #[.slice none 0 0, .int .i64 0, .int .i64 0]).alloc (.cells #[] 5)
  have hG0 : Grow w D (w.alloc (.cells #[.slice none 0 0, .int .i64 0, .int .i64 0] 45)) D := (Grow.refl hk).alloc _
  have hown0 := own_e0 (s := 1) (Nat.le_refl _) (heap_alloc_new (w.alloc (.cells #[.slice none 0 0, .int .i64 0, .int .i64 0] 45)) (.cells #[] 5))
  rw [show (w.alloc (.cells #[.slice none 0 0, .int .i64 0, .int .i64 0] 45)).heap.size = w.heap.size + 1 by simp] at hown0
  go_enter Tryd.func41, Tryd.ntmps41
  go_wp2_with (at_builtin; refine wpList_append_sl _ rfl _ _ 22 rfl (w.heap.size + 1) 5 i0 (.int .u8 0) 1 Tryd.underlying22 hi hz0 hz1 hz2 rfl _ 0 [] rfl hown0 D (hG0.keeps.alloc _) _ _ _ _ rfl hb (bv_one _) ?c1 ?c2 ?c3 ?_)
  case c1 => unfold maxLen; omega
  case c2 => omega
  case c3 => first | (simp; done) | (simp; omega)
  intro A1 cap1 w1 hown1 hg1 hb1
  have hG1 : Grow w D w1 D := (hG0.alloc _).row hg1 (by simp only [Value.ownBlock]; rintro k ⟨rfl⟩; omega) (by simp only [Value.ownBlock]; rintro k ⟨rfl⟩; exact hG0.keeps.offNew (by simp))
  have hB4a : Box w1 D w.heap.size 45 #[.slice none 0 0, .int .i64 0, .int .i64 0] := hB4.grown hg1 (by simp [Value.ownBlock])
  obtain ⟨D2, hG2, hle2, hsl2, hoff2⟩ := hG1.pub hown1 (by omega) (fun g h => hk.offNew (by have := (hown1.lt g h).1; omega))
  have hB4b := hB4a.le (hoff2 _ hB4a.off (fun h => by have := (hown1.lt _ h).1; omega))
  have hbs : BS D2 (.slice A1 n cap1) seed := by simpa [BS] using hsl2
  have hB6 := Box.new2 hG2.keeps rfl 45 #[.slice A1 n cap1, .int .i64 m, .int .i64 0]
  have hB4c := hB4b.alloc (.cells #[.slice A1 n cap1, .int .i64 m, .int .i64 0] 45)
  have hG3 := hG2.alloc (.cells #[.slice A1 n cap1, .int .i64 m, .int .i64 0] 45)
  have q0 := hB6.cell 0
  have q1 := hB6.cell 1
  have q2 := hB6.cell 2
  clear hown1 hg1 hb1 hown0 hB4 hG0 hG1 hB4a hle2 hsl2 hoff2 hB4b hG2
  go_wp2_with fail
  refine (rvalid_c A1 n cap1 (by unfold maxLen; omega) m 0 _).mono ?_
  rintro e w2 ⟨rfl, hb2⟩
  have hG4 := hG3.trans (Grow.of_below hG3.keeps hb2)
  have hB4d := hB4c.below hb2 hB4c.lt
  have hB6d := hB6.below hb2 hB6.lt
  clear q0 q1 q2 hB4c hB6 hG3 hb2
  have p := hB4d.cell
  have f := hB4d.frozen
  have p0 := p 0
  have p1 := p 1
  have p2 := p 2
  cases hv : validF n m 0 with
  | true =>
    have HR := Lib.hid (show newR n m seed = ⟨seed, m, 0, 0⟩ by unfold newR; rw [if_pos hv])
    clear hv
    have q0 := hB6d.cell 0
    have q1 := hB6d.cell 1
    have q2 := hB6d.cell 2
    go_wp2
    refine bodyPost_ret (v := .tuple #[keyV A1 n cap1 m 0, .int .i64 0]) (by simp [results, Tryd.results41, go_sem, p]) rfl ?_
    rw [HR.out]
    have hn' := HN.out
    subst hn'
    exact ⟨A1, cap1, D2, rfl, ((hG4.setNew (p := ⟨_, 0, none⟩) (Nat.le_refl _) hB4d.off _).setNew (p := ⟨_, 1, none⟩) (Nat.le_refl _) hB4d.off _).setNew (p := ⟨_, 2, none⟩) (Nat.le_refl _) hB4d.off _, hbs⟩
  | false =>
    have HR := Lib.hid (show newR n m seed = ⟨[], 0, 0, 320⟩ by unfold newR; rw [if_neg (by rw [hv]; simp)])
    clear hv
    go_wp2
    refine bodyPost_ret (v := .tuple #[key0, .int .i64 320]) (by simp [results, Tryd.results41, go_sem, p]) rfl ?_
    rw [HR.out]
    exact ⟨none, 0, D2, rfl, ((hG4.setNew (p := ⟨_, 0, none⟩) (Nat.le_refl _) hB4d.off _).setNew (p := ⟨_, 1, none⟩) (Nat.le_refl _) hB4d.off _).setNew (p := ⟨_, 2, none⟩) (Nat.le_refl _) hB4d.off _, BS.nil D2⟩
theorem new_c (A : Option Addr) (n c : Nat) (seed : List UInt8) (m : Int) (D : Gh) (w : World) (hk : Keeps D w) (hb : BS D (.slice A n c) seed) (hn : n ≤ 1000000) :
    Calls Tryd.prog 40 #[.slice A n c, .int .i64 m] w (KPost D w (newR n m seed)) := by
  obtain ⟨hn1, _, _⟩ := hb.len
  cases hv : validF n m 0 with
  | true =>
    have HR : newR n m seed = ⟨seed, m, 0, 0⟩ := by unfold newR; rw [if_pos hv]
    rw [HR]
    refine (new_ok A n c seed m D w hk hb hn hv).mono ?_
    rintro x w' ⟨A', c', D', rfl, hG, hb'⟩
    subst hn1
    exact ⟨A', c', D', rfl, hG, hb'⟩
  | false =>
    have HR : newR n m seed = ⟨[], 0, 0, 320⟩ := by unfold newR; rw [if_neg (by rw [hv]; simp)]
    rw [HR]
    refine (new_bad A n c seed m D w hk hb hn hv).mono ?_
    rintro x w' ⟨rfl, hbel⟩
    exact ⟨none, 0, D, rfl, Grow.of_below hk hbel, BS.nil D⟩
/-- both Publics answer alike. -/
theorem publics2 {sh : List UInt8 → List UInt8} (hs : Sh sh) (A : Option Addr) (n c : Nat) (hn : n ≤ maxLen) (seed : List UInt8) (m u : Int) (D : Gh) (hT : Tab D) (hA : BS D (.slice A n c) seed) :
    ∃ (r : List UInt8) (z : Int), r.length = 32 ∧ (∀ D' w, D.le D' → Keeps D' w → Calls Tryd.prog 44 #[keyV A n c m u] w fun e w' => e = .returned (.tuple #[dg r, .int .i64 z]) ∧ Below w.heap.size w w') ∧ (∀ D' w, D.le D' → Keeps D' w → Calls Tryd.prog 45 #[keyV A n c m u] w fun e w' => e = .returned (.tuple #[dg r, .int .i64 z]) ∧ Below w.heap.size w w') := by
  cases hv : validF n m u with
  | false => exact ⟨zeros32, 320, rfl, fun D' w hle hk => public_bad A n c hn m u D' w hk hv, fun D' w hle hk => rpublic_bad A n c hn m u D' w hk hv⟩
  | true =>
    obtain ⟨m', u', rfl, rfl, _⟩ := valid_nat hv
    exact ⟨treeF (tagB sh) (keysF (tagB sh) seed m'), 0, treeF_len hs _, fun D' w hle hk => public_ok hs A n c seed m' u' D' w hk (hT.le hle) (hA.le hle) hv, fun D' w hle hk => rpublic_ok hs A n c seed m' u' D' w hk (hA.le hle) hv⟩
set_option maxRecDepth 100000 in
set_option maxHeartbeats 2000000 in
theorem keyspec_walk {sh : List UInt8 → List UInt8} (hs : Sh sh) (A : Option Addr) (n c : Nat) (seed : List UInt8) (m : Int) (B : Option Addr) (b d : Nat) (kseed : List UInt8) (km ku : Int) (dd : List UInt8) (hd : dd.length = 32) (D : Gh) (w : World) (hk : Keeps D w) (hT : Tab D) (hA : BS D (.slice A n c) seed) (hB : BS D (.slice B b d) kseed) :
    Calls Tryd.prog 12 #[.slice A n c, .int .i64 m, keyV B b d km ku, dg dd] w fun e w' => e = .returned (.bool true) ∧ Below w.heap.size w w' := by
  have HDD := Lib.hid hd
  rw [dg_darr dd hd]
  obtain ⟨hn1, hn2, hn3⟩ := hA.len
  obtain ⟨hb1, hb2, hb3⟩ := hB.len
  have hnm : n ≤ maxLen := by omega
  have hbm : b ≤ maxLen := by omega
  obtain ⟨D1, hG1, hv1⟩ := Box.pub hk 45 #[.slice B b d, .int .i64 km, .int .i64 ku]
  obtain ⟨D2, hG2, hv2⟩ := Box.pub hG1.keeps 26 (darr dd)
  rw [show (w.alloc (.cells #[.slice B b d, .int .i64 km, .int .i64 ku] 45)).heap.size = w.heap.size + 1 by simp] at hv2
  have hG3 := hG1.trans hG2
  have kp : Hid (∀ D' W, D2.le D' → Keeps D' W → W.rangeAt (w.heap.size + 1) 0 (dd.map bv)) := fun D' W hle hW j v hv => by
    rw [Nat.zero_add]
    refine hW _ _ _ (hle _ _ _ (hv2 j v ?_))
    rw [darr_full dd HDD.out]; simpa using hv
  have kv0 := hG2.le _ _ _ (hv1 0 _ rfl)
  have kv1 := hG2.le _ _ _ (hv1 1 _ rfl)
  have kv2 := hG2.le _ _ _ (hv1 2 _ rfl)
  have hA2 := hA.le hG3.le
  have hB2 := hB.le hG3.le
  have hT2 := hT.le hG3.le
  have HSA := Lib.hid (sane32_c D2 _ hG3.keeps)
  have HFW := Lib.hid (fun W => few_c B b d hbm km ku none 0 0 (by simp) W)
  have HVC := Lib.hid (fun W => rvalid_c B b d hbm km ku W)
  obtain ⟨r, z, hr32, HP1, HP2⟩ := publics2 hs B b d hbm kseed km ku D2 hT2 hB2
  have HR32 := Lib.hid hr32
  simp only [dg_darr r hr32] at HP1 HP2
  have H1 := Lib.hid HP1
  have H2 := Lib.hid HP2
  have hszd := sz26l dd hd
  have hu26 := Tryd.underlying26
  have hbel0 := hG3.below
  have hkk := hG3.keeps
  clear hv1 hv2 hn1 hn2 hn3 hb1 hb2 hb3 hk hT hA hB hG1 hG2 hG3 hd HP1 HP2 hr32 hT2
  unfold maxLen at hnm hbm
  go_enter Tryd.func12, Tryd.ntmps12
  go_wp2_with fail
  generalize (w.alloc (.cells #[.slice B b d, .int .i64 km, .int .i64 ku] 45)).alloc (.cells (darr dd) 26) = W0 at *
  refine HSA.out.mono ?_
  rintro e w1 ⟨rfl, hb1⟩
  have hk1 := hkk.below hb1 (Nat.le_refl _)
  have hbel1 := belowVia hb1 hbel0
  clear HSA hkk hb1 hbel0
  by_cases hn200 : 200 < n
  · have g0 : (200 : Int) < (n : Int) := by omega
    go_wp2_with fail
    go_ret
    exact ⟨rfl, hbel1⟩
  have g0 : ¬ ((200 : Int) < (n : Int)) := by omega
  have HN1 := Lib.hid (new_c A n c seed m D2 w1 hk1 hA2 (by omega))
  have HN2 := Lib.hid (fun D' W hk hle => rnew_c A n c seed m D' W hk (hA2.le hle) (by omega))
  generalize newR n m seed = R at *
  go_wp2_with fail
  refine HN1.out.mono ?_
  rintro e w2 ⟨A2, c2, D3, rfl, hG3, hS3⟩
  have hbel2 := belowVia hG3.below hbel1
  obtain ⟨D4, hG4, hv4⟩ := Box.pub hG3.keeps 45 #[.slice A2 R.sd.length c2, .int .i64 R.m, .int .i64 R.u]
  have hk4 := hG4.keeps
  have hle4 := hG3.le.trans hG4.le
  have hbel4 : Below w.heap.size w (w2.alloc (.cells #[.slice A2 R.sd.length c2, .int .i64 R.m, .int .i64 R.u] 45)) := belowVia hG4.below hbel2
  have x0 := hv4 0 _ rfl
  have x1 := hv4 1 _ rfl
  have x2 := hv4 2 _ rfl
  have hS4 := hS3.le hG4.le
  clear hv4 hG3 hG4 hS3 hbel2 hk1 hbel1 HN1
  go_wp2_with fail
  refine (HN2.out D4 _ hk4 hle4).mono ?_
  rintro e w5 ⟨A5, c5, D5, rfl, hG5, hS5⟩
  have hbel5 := belowVia hG5.below hbel4
  obtain ⟨D6, hG6, hv6⟩ := Box.pub hG5.keeps 45 #[.slice A5 R.sd.length c5, .int .i64 R.m, .int .i64 R.u]
  have hk6 := hG6.keeps
  have hle46 := hG5.le.trans hG6.le
  have hle6 := hle4.trans hle46
  have hbel6 : Below w.heap.size w (w5.alloc (.cells #[.slice A5 R.sd.length c5, .int .i64 R.m, .int .i64 R.u] 45)) := belowVia hG6.below hbel5
  replace x0 := hle46 _ _ _ x0
  replace x1 := hle46 _ _ _ x1
  replace x2 := hle46 _ _ _ x2
  have y0 := hv6 0 _ rfl
  have y1 := hv6 1 _ rfl
  have y2 := hv6 2 _ rfl
  have hS6 := hS5.le hG6.le
  replace hS4 := hS4.le hle46
  replace kv0 := hle6 _ _ _ kv0
  replace kv1 := hle6 _ _ _ kv1
  replace kv2 := hle6 _ _ _ kv2
  have HSK := Lib.hid (fun W hk => rsamekey_c A2 A5 _ c2 c5 R.m R.u R.sd D6 W hk hS4 hS6)
  have HD1 := Lib.hid (fun W hk => Digits_c dd HDD.out D6 W hk)
  have HD2 := Lib.hid (fun D' W hk => rDigits_c dd HDD.out D' W hk)
  generalize digF dd = L at *
  have HSM := Lib.hid (fun A9 B9 c9 d9 D' W hk h1 h2 => same42_c A9 B9 67 c9 d9 L D' W hk h1 h2)
  unfold dg at HD1 HD2
  clear hv6 hG5 hG6 hS5 hbel5 hk4 hbel4 HN2 hS4 hS6
  go_wp2_with fail
  generalize w2.heap.size = g9 at *
  generalize w5.heap.size = g11 at *
  generalize w5.alloc (.cells #[.slice A5 R.sd.length c5, .int .i64 R.m, .int .i64 R.u] 45) = W6 at *
  have SH : Hid (∀ W, Keeps D6 W → (W.rangeAt (w.heap.size + 1) 0 (dd.map bv) ∧ W.cell? ⟨g9, 0, none⟩ = some (.slice A2 R.sd.length c2) ∧ W.cell? ⟨g9, 1, none⟩ = some (.int .i64 R.m) ∧ W.cell? ⟨g9, 2, none⟩ = some (.int .i64 R.u) ∧ W.cell? ⟨g11, 0, none⟩ = some (.slice A5 R.sd.length c5) ∧ W.cell? ⟨g11, 1, none⟩ = some (.int .i64 R.m) ∧ W.cell? ⟨g11, 2, none⟩ = some (.int .i64 R.u))) := fun W h => ⟨kp.out D6 W hle6 h, h _ _ _ x0, h _ _ _ x1, h _ _ _ x2, h _ _ _ y0, h _ _ _ y1, h _ _ _ y2⟩
  have hkd := hk6.drew
  have hbeld := hbel6.drew
  clear hk6 hbel6
  go_cut [50] (fun x wx => x = .bool false ∧ Below w.heap.size w wx ∧ Keeps D6 wx)
  case first =>
    refine wp_region_held_drew (S := fun W => W.rangeAt (w.heap.size + 1) 0 (dd.map bv) ∧ W.cell? ⟨g9, 0, none⟩ = some (.slice A2 R.sd.length c2) ∧ W.cell? ⟨g9, 1, none⟩ = some (.int .i64 R.m) ∧ W.cell? ⟨g9, 2, none⟩ = some (.int .i64 R.u) ∧ W.cell? ⟨g11, 0, none⟩ = some (.slice A5 R.sd.length c5) ∧ W.cell? ⟨g11, 1, none⟩ = some (.int .i64 R.m) ∧ W.cell? ⟨g11, 2, none⟩ = some (.int .i64 R.u)) (by kernel_rfl) (SH.out _ hkd) (fun hHeld => ?_)
    refine wpAnyH_take (i := 0) (v := ?_) rfl (by kernel_rfl) (by kernel_rfl) (by kernel_rfl) (fun _ _ _ h => h) (Or.inl ⟨by rfl, ?_⟩) hHeld ?_
    rotate_left
    · (intro wz hSw; (try dsimp only at hSw); go_simp; try with_reducible rfl)
    simp only [Act.put, List.getElem_toArray, List.getElem_cons_zero, List.setIfInBounds_toArray, List.set_cons_zero, List.set_cons_succ]
    refine wpAnyH_take (i := 1) (v := ?_) rfl (by kernel_rfl) (by kernel_rfl) (by kernel_rfl) (fun _ _ _ h => h) (Or.inl ⟨by rfl, ?_⟩) hHeld ?_
    rotate_left
    · (intro wz hSw; (try dsimp only at hSw); go_simp; try with_reducible rfl)
    simp only [Act.put, List.getElem_toArray, List.getElem_cons_zero, List.getElem_cons_succ, List.setIfInBounds_toArray, List.set_cons_zero, List.set_cons_succ]
    refine wpAnyH_take (i := 2) (v := (.bool false)) rfl (by kernel_rfl) (by kernel_rfl) (by kernel_rfl) (fun _ _ _ h => h) (Or.inl ⟨by rfl, fun wz hSw => by (try dsimp only at hSw); go_simp⟩) hHeld ?_
    simp only [Act.put, List.getElem_toArray, List.getElem_cons_zero, List.getElem_cons_succ, List.setIfInBounds_toArray, List.set_cons_zero, List.set_cons_succ]
    refine wpAnyH_take (i := 3) (v := (.bool false)) rfl (by kernel_rfl) (by kernel_rfl) (by kernel_rfl) (fun _ _ _ h => h) (Or.inl ⟨by rfl, fun wz hSw => by (try dsimp only at hSw); go_simp⟩) hHeld ?_
    simp only [Act.put, List.getElem_toArray, List.getElem_cons_zero, List.getElem_cons_succ, List.setIfInBounds_toArray, List.set_cons_zero, List.set_cons_succ]
    refine wpAnyH_take (i := 4) (v := ?_) rfl (by kernel_rfl) (by kernel_rfl) (by kernel_rfl) (fun _ _ _ h => h) (Or.inl ⟨by rfl, ?_⟩) hHeld ?_
    rotate_left
    · (intro wz hSw; (try dsimp only at hSw); go_simp; try with_reducible rfl)
    simp only [Act.put, List.getElem_toArray, List.getElem_cons_zero, List.getElem_cons_succ, List.setIfInBounds_toArray, List.set_cons_zero, List.set_cons_succ]
    refine wpAnyH_take (i := 5) (v := ?_) rfl (by kernel_rfl) (by kernel_rfl) (by kernel_rfl) (fun _ _ _ h => h) (Or.inl ⟨by rfl, ?_⟩) hHeld ?_
    rotate_left
    · (intro wz hSw; (try dsimp only at hSw); go_simp; try with_reducible rfl)
    simp only [Act.put, List.getElem_toArray, List.getElem_cons_zero, List.getElem_cons_succ, List.setIfInBounds_toArray, List.set_cons_zero, List.set_cons_succ]
    refine wpAnyH_ready (rs := [6]) (by kernel_rfl) (by simp) (AllReadyH.cons rfl (fun K' hK => ?_) AllReadyH.nil)
    go_simp
    go_wp2_with ((go_at_call 35; refine (HSK.out _ hkd).mono ?_; rintro e' y1 ⟨rfl, hy1⟩))
    have hky1 := hkd.below hy1 (Nat.le_refl _)
    have hby1 := belowVia hy1 hbeld
    refine hK.out _ _ (SH.out _ hky1) (fun hHeld => ?_)
    clear hK K'
    refine wpAnyH_take (i := 7) (v := (.bool false)) rfl (by kernel_rfl) (by kernel_rfl) (by kernel_rfl) (fun _ _ _ h => h) (Or.inl ⟨by rfl, fun wz hSw => by (try dsimp only at hSw); go_simp⟩) hHeld ?_
    simp only [Act.put, List.getElem_toArray, List.getElem_cons_zero, List.getElem_cons_succ, List.setIfInBounds_toArray, List.set_cons_zero, List.set_cons_succ]
    refine wpAnyH_take (i := 8) (v := (.bool false)) rfl (by kernel_rfl) (by kernel_rfl) (by kernel_rfl) (fun _ _ _ h => h) (Or.inl ⟨by rfl, fun wz hSw => by (try dsimp only at hSw); go_simp⟩) hHeld ?_
    simp only [Act.put, List.getElem_toArray, List.getElem_cons_zero, List.getElem_cons_succ, List.setIfInBounds_toArray, List.set_cons_zero, List.set_cons_succ]
    refine wpAnyH_take (i := 9) (v := (.bool false)) rfl (by kernel_rfl) (by kernel_rfl) (by kernel_rfl) (fun _ _ _ h => h) (Or.inl ⟨by rfl, fun wz hSw => by (try dsimp only at hSw); go_simp⟩) hHeld ?_
    simp only [Act.put, List.getElem_toArray, List.getElem_cons_zero, List.getElem_cons_succ, List.setIfInBounds_toArray, List.set_cons_zero, List.set_cons_succ]
    refine wpAnyH_take (i := 10) (v := (.agg (dd.map bv).toArray)) rfl (by kernel_rfl) (by kernel_rfl) (by kernel_rfl) (fun _ _ _ h => h) (yieldsIf_load_mid (by rfl) _ _ rfl _ _ rfl _ _ (fun w h => h.1) hu26 rfl hszd) hHeld ?_
    simp only [Act.put, List.getElem_toArray, List.getElem_cons_zero, List.getElem_cons_succ, List.setIfInBounds_toArray, List.set_cons_zero, List.set_cons_succ]
    refine wpAnyH_take (i := 12) (v := (.agg (dd.map bv).toArray)) rfl (by kernel_rfl) (by kernel_rfl) (by kernel_rfl) (fun _ _ _ h => h) (yieldsIf_load_mid (by rfl) _ _ rfl _ _ rfl _ _ (fun w h => h.1) hu26 rfl hszd) hHeld ?_
    simp only [Act.put, List.getElem_toArray, List.getElem_cons_zero, List.getElem_cons_succ, List.setIfInBounds_toArray, List.set_cons_zero, List.set_cons_succ]
    refine wpAnyH_ready (rs := [11]) (by kernel_rfl) (by simp) (AllReadyH.cons rfl (fun K' hK => ?_) AllReadyH.nil)
    go_simp
    go_wp2_with ((go_at_call 39; refine (HD1.out _ hky1).mono ?_; rintro e' y2 ⟨gx, D7, rfl, hG7, hns7⟩))
    have hby2 := belowVia hG7.below hby1
    refine hK.out _ _ (SH.out _ (fun b o v e => hG7.keeps b o v (hG7.le b o v e))) (fun hHeld => ?_)
    clear hK K'
    refine wpAnyH_ready (rs := [13]) (by kernel_rfl) (by simp) (AllReadyH.cons rfl (fun K' hK => ?_) AllReadyH.nil)
    go_simp
    go_wp2_with ((go_at_call 43; refine (HD2.out D7 _ hG7.keeps).mono ?_; rintro e' y3 ⟨A8, c8, D8, rfl, hG8, hns8⟩))
    have hby3 := belowVia hG8.below hby2
    have hle78 := hG7.le.trans hG8.le
    refine hK.out _ _ (SH.out _ (fun b o v e => hG8.keeps b o v (hle78 b o v e))) (fun hHeld => ?_)
    clear hK K'
    refine wpAnyH_ready (rs := [14]) (by kernel_rfl) (by simp) (AllReadyH.cons rfl (fun K' hK => ?_) AllReadyH.nil)
    go_simp
    go_wp2_with ((go_at_call 42; refine (HSM.out _ _ _ _ D8 _ hG8.keeps (Sl.le hns7 hG8.le) hns8).mono ?_; rintro e' y4 ⟨rfl, hy4⟩))
    have hby4 := belowVia hy4 hby3
    have hky4 : Keeps D6 y4 := fun b o v e => (hG8.keeps.below hy4 (Nat.le_refl _)) b o v (hle78 b o v e)
    refine hK.out _ _ (SH.out _ hky4) (fun hHeld => ?_)
    clear hK K'
    refine wpAnyH_take (i := 15) (v := (.bool false)) rfl (by kernel_rfl) (by kernel_rfl) (by kernel_rfl) (fun _ _ _ h => h) (Or.inl ⟨by rfl, fun wz hSw => by (try dsimp only at hSw); go_simp⟩) hHeld ?_
    simp only [Act.put, List.getElem_toArray, List.getElem_cons_zero, List.getElem_cons_succ, List.setIfInBounds_toArray, List.set_cons_zero, List.set_cons_succ]
    refine wpAnyH_take (i := 16) (v := (.bool false)) rfl (by kernel_rfl) (by kernel_rfl) (by kernel_rfl) (fun _ _ _ h => h) (Or.inl ⟨by rfl, fun wz hSw => by (try dsimp only at hSw); go_simp⟩) hHeld ?_
    simp only [Act.put, List.getElem_toArray, List.getElem_cons_zero, List.getElem_cons_succ, List.setIfInBounds_toArray, List.set_cons_zero, List.set_cons_succ]
    refine wpAnyH_done (by kernel_rfl) ?_ _
    go_wp2_with fail
    go_meet
    exact ⟨rfl, hby4, hky4⟩
  case rest =>
    obtain ⟨rfl, hbel7, hk7⟩ := hcut
    have q0 := hk7 _ _ _ kv0
    have q1 := hk7 _ _ _ kv1
    have q2 := hk7 _ _ _ kv2
    clear SH hkd hbeld HSK HD1 HD2 HSM
    go_wp2_with fail
    refine (HFW.out _).mono ?_
    rintro e w8 ⟨rfl, hb8⟩
    have hk8 := hk7.below hb8 (Nat.le_refl _)
    have hbel8 := belowVia hb8 hbel7
    clear q0 q1 q2 HFW hk7 hb8 hbel7
    have q0 := hk8 _ _ _ kv0
    have q1 := hk8 _ _ _ kv1
    have q2 := hk8 _ _ _ kv2
    by_cases hfw : fewF b km 0 = true
    · rw [hfw]
      clear hfw
      go_wp2_with fail
      refine (H1.out D6 _ hle6 hk8).mono ?_
      rintro e y1 ⟨rfl, hy1⟩
      have hky1 := hk8.below hy1 (Nat.le_refl _)
      have hby1 := belowVia hy1 hbel8
      have hB13 := Box.new2 hky1 rfl 26 (darr r)
      have hky2 := hky1.alloc (.cells (darr r) 26)
      have hby2 := belowAlloc hby1 (.cells (darr r) 26)
      have hsx26 := sz26 r HR32.out
      have hsx0 : (darr []).size = (darr r).size := by rw [darr_size _ (by simp), darr_size _ (by rw [HR32.out]; omega)]
      have heq : ∀ W, (Op.equalIn 10000 26 (.agg (darr r)) (.agg (darr r))).run Tryd.prog W = .ok true W := fun W => by
        rw [eq26 r r HR32.out HR32.out W]; simp
      clear q0 q1 q2 hky1 hby1
      have q0 := hky2 _ _ _ kv0
      have q1 := hky2 _ _ _ kv1
      have q2 := hky2 _ _ _ kv2
      go_wp2_with (refine wpList_store_row rfl 26 _ _ rfl y1.heap.size (darr r) rfl rfl 26 (darr []) (heap_alloc_new y1 _) hsx26 hsx0 (darr_one _) ?_; rw [World.setRow_alloc_new])
      refine (H2.out D6 _ hle6 hky2).mono ?_
      rintro e y2 ⟨rfl, hy2⟩
      have hB13' := (hB13.below hy2 hB13.lt).alloc (.cells (darr r) 26)
      have hky3 := hky2.below hy2 (Nat.le_refl _)
      have hB15 := Box.new2 hky3 rfl 26 (darr r)
      have hby3 := belowAlloc (belowVia hy2 hby2) (.cells (darr r) 26)
      clear q0 q1 q2 hB13 hky2 hby2 hy2 hky3
      go_wp2_with (first | (refine wpList_store_row rfl 26 _ _ rfl y2.heap.size (darr r) rfl rfl 26 (darr []) (heap_alloc_new y2 _) hsx26 hsx0 (darr_one _) ?_; rw [World.setRow_alloc_new]) | (refine wpList_load_row rfl 26 _ rfl y1.heap.size rfl 26 _ (0, 0) _ hB13'.heap Tryd.underlying26 rfl hsx26 ?_) | (refine wpList_load_row rfl 26 _ rfl y2.heap.size rfl 26 _ (0, 0) _ hB15.heap Tryd.underlying26 rfl hsx26 ?_))
      go_ret
      exact ⟨rfl, hby3⟩
    · have hfw' : fewF b km 0 = false := by simpa using hfw
      rw [hfw']
      clear hfw hfw'
      go_wp2_with fail
      refine (HVC.out _).mono ?_
      rintro e w8' ⟨rfl, hb8'⟩
      have hk8' := hk8.below hb8' (Nat.le_refl _)
      have hbel8' := belowVia hb8' hbel8
      clear q0 q1 q2 hb8' hk8 hbel8
      cases hv : validF b km ku with
      | true =>
        clear hv
        go_wp2_with fail
        go_ret
        exact ⟨rfl, hbel8'⟩
      | false =>
        clear hv
        have q0 := hk8' _ _ _ kv0
        have q1 := hk8' _ _ _ kv1
        have q2 := hk8' _ _ _ kv2
        go_wp2_with fail
        refine (H1.out D6 _ hle6 hk8').mono ?_
        rintro e y1 ⟨rfl, hy1⟩
        have hky1 := hk8'.below hy1 (Nat.le_refl _)
        have hby1 := belowVia hy1 hbel8'
        have hB13 := Box.new2 hky1 rfl 26 (darr r)
        have hky2 := hky1.alloc (.cells (darr r) 26)
        have hby2 := belowAlloc hby1 (.cells (darr r) 26)
        have hsx26 := sz26 r HR32.out
        have hsx0 : (darr []).size = (darr r).size := by rw [darr_size _ (by simp), darr_size _ (by rw [HR32.out]; omega)]
        have heq : ∀ W, (Op.equalIn 10000 26 (.agg (darr r)) (.agg (darr r))).run Tryd.prog W = .ok true W := fun W => by
          rw [eq26 r r HR32.out HR32.out W]; simp
        clear q0 q1 q2 hky1 hby1
        have q0 := hky2 _ _ _ kv0
        have q1 := hky2 _ _ _ kv1
        have q2 := hky2 _ _ _ kv2
        go_wp2_with (refine wpList_store_row rfl 26 _ _ rfl y1.heap.size (darr r) rfl rfl 26 (darr []) (heap_alloc_new y1 _) hsx26 hsx0 (darr_one _) ?_; rw [World.setRow_alloc_new])
        refine (H2.out D6 _ hle6 hky2).mono ?_
        rintro e y2 ⟨rfl, hy2⟩
        have hB13' := (hB13.below hy2 hB13.lt).alloc (.cells (darr r) 26)
        have hky3 := hky2.below hy2 (Nat.le_refl _)
        have hB15 := Box.new2 hky3 rfl 26 (darr r)
        have hby3 := belowAlloc (belowVia hy2 hby2) (.cells (darr r) 26)
        clear q0 q1 q2 hB13 hky2 hby2 hy2 hky3
        go_wp2_with (first | (refine wpList_store_row rfl 26 _ _ rfl y2.heap.size (darr r) rfl rfl 26 (darr []) (heap_alloc_new y2 _) hsx26 hsx0 (darr_one _) ?_; rw [World.setRow_alloc_new]) | (refine wpList_load_row rfl 26 _ rfl y1.heap.size rfl 26 _ (0, 0) _ hB13'.heap Tryd.underlying26 rfl hsx26 ?_) | (refine wpList_load_row rfl 26 _ rfl y2.heap.size rfl 26 _ (0, 0) _ hB15.heap Tryd.underlying26 rfl hsx26 ?_))
        go_ret
        exact ⟨rfl, hby3⟩
end Go.Proofs.YtohknemfcohhfaaDoor
