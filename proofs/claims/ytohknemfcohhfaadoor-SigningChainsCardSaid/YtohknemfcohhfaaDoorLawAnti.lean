/-
  What is proved here: the walk of SigningAntichain: no digest's digits are below another's.
-/
import Derived.Test.YtohknemfcohhfaaDoorRows
import Derived.Test.YtohknemfcohhfaaDoorBaseC
import Derived.Test.YtohknemfcohhfaaDoorSha
import Derived.Test.YtohknemfcohhfaaDoorDigA
import Derived.Test.YtohknemfcohhfaaDoorDigC
import Derived.Test.YtohknemfcohhfaaDoorDigD
import Derived.Test.YtohknemfcohhfaaDoorDigE
import Derived.Test.YtohknemfcohhfaaDoorDigF
import Derived.Test.YtohknemfcohhfaaDoorDigG
import Derived.Test.YtohknemfcohhfaaDoorDigH
import Derived.Test.YtohknemfcohhfaaDoorDigI
import Derived.Test.YtohknemfcohhfaaDoorDigJ
import Derived.Test.YtohknemfcohhfaaDoorDigK
import Derived.Test.YtohknemfcohhfaaDoorDigL
import Derived.Test.YtohknemfcohhfaaDoorDigM
import Derived.Test.YtohknemfcohhfaaDoorDigN
import Derived.Test.YtohknemfcohhfaaDoorDigO
import Derived.Test.YtohknemfcohhfaaDoorDigP
import Derived.Test.YtohknemfcohhfaaDoorDigQ
import Derived.Test.YtohknemfcohhfaaDoorDigR
import Derived.Test.YtohknemfcohhfaaDoorDigS
import Derived.Test.YtohknemfcohhfaaDoorDigT
import Derived.Test.YtohknemfcohhfaaDoorLawTags
import Derived.Test.YtohknemfcohhfaaDoorSigA
import Derived.Test.YtohknemfcohhfaaDoorSigB
import Derived.Test.YtohknemfcohhfaaDoorSigC
import Derived.Test.YtohknemfcohhfaaDoorSigD
import Derived.Test.YtohknemfcohhfaaDoorSigE
import Derived.Test.YtohknemfcohhfaaDoorSigP
import Derived.Test.YtohknemfcohhfaaDoorSigF
import Derived.Test.YtohknemfcohhfaaDoorSigG
import Derived.Test.YtohknemfcohhfaaDoorTree
import Derived.Test.YtohknemfcohhfaaDoorSign
import Derived.Test.YtohknemfcohhfaaDoorShelf
import Derived.Lib.ConvBytes
import Derived.StillTailTactics
import Derived.Lib.AppendZerosOnto
import Derived.Deep.RegionHeld3
import Derived.Stop.BytesEq
import Derived.Great.BuildSlice
import Derived.Deep.MidRow
import Derived.Deep.RegionLaw
import Derived.Deep.DeepCutAuto
import Derived.Deep.QuietTactic
import Derived.BigQuiet
import Derived.Laws.EntriesVeiled
namespace Go.Proofs.YtohknemfcohhfaaDoor
open Go.RowKit Go.VS
theorem B2.grow {D D' : Gh} {w : World} {g1 g2 : Nat} {t1 t2 : TypeId} {c1 c2 : Array Value} {W W' : World} (h : B2 D w g1 t1 c1 g2 t2 c2 W) (hG : Grow W D W' D') : B2 D' w g1 t1 c1 g2 t2 c2 W' := ⟨hG.keeps, belowVia hG.below h.below, h.b1.grow hG, h.b2.grow hG⟩
theorem sumN_le (l : List Int) (h : ∀ k, k < 67 → 0 ≤ l.getD k 0 ∧ l.getD k 0 ≤ 15) (hl : l.length = 67) : ∀ n, n ≤ 67 → 0 ≤ sumN l n ∧ sumN l n ≤ 15 * n
  | 0, _ => by simp [sumN]
  | n + 1, hn => by
    have ih := sumN_le l h hl n (by omega)
    by_cases h64 : n < 64
    · have hx := h n (by omega)
      rw [sumN_lo l n h64 (l.getD n 0) (by rw [List.getD_eq_getElem?_getD, List.getElem?_eq_getElem (by omega)]; rfl)]
      omega
    · rw [sumN_hi l n (by omega)]; omega
theorem ns_at {D : Gh} {w : World} {g n c : Nat} {l : List Int} (h : NS D (.slice (some ⟨g, 0, none⟩) n c) l) (hk : Keeps D w) {k : Nat} (hl : k < l.length) : w.cell? ⟨g, k, none⟩ = some (.int .i64 (l.getD k 0)) :=
  h.at_ hk (by rw [List.getD_eq_getElem?_getD, List.getElem?_eq_getElem hl]; rfl)
set_option maxRecDepth 100000 in
set_option maxHeartbeats 1000000 in
theorem anti_walk (a b : List UInt8) (ha : a.length = 32) (hb : b.length = 32) (D : Gh) (w : World) (hk : Keeps D w) :
    Calls Tryd.prog 11 #[dg a, dg b] w fun x w' => x = .returned (.bool true) ∧ Below w.heap.size w w' := by
  rw [dg_darr a ha, dg_darr b hb]
  have hS0 : B2 D w w.heap.size 26 (darr a) (w.heap.size + 1) 26 (darr b) ((w.alloc (.cells (darr a) 26)).alloc (.cells (darr b) 26)) := ⟨(by repeat (with_reducible first | assumption | refine Keeps.drew ?_ | refine Keeps.drewN ?_ _ | refine Keeps.alloc ?_ _ | exact Grow.keeps (by assumption))), (by repeat (first | (with_reducible exact Below.refl _ _) | (with_reducible refine Below.drew ?_) | (with_reducible refine belowDrewN ?_ _) | (with_reducible refine belowAlloc ?_ _) | ((with_reducible refine belowSet2 ?_ ?_); omega) | (with_reducible assumption) | (with_reducible refine belowVia (by assumption) ?_) | (with_reducible refine belowVia (Grow.below (by assumption)) ?_))), (Box.new2 hk rfl 26 (darr a)).alloc _, Box.new2 (hk.alloc (.cells (darr a) 26)) (g := w.heap.size + 1) (by simp) 26 (darr b)⟩
  have HSA := Lib.hid (fun W hk => sane32_c D W hk)
  have HDA := Lib.hid (fun D W hk => Digits_c a ha D W hk)
  have HDB := Lib.hid (fun D W hk => Digits_c b hb D W hk)
  have HSU := Lib.hid (sumN_end a ha)
  have HAN := Lib.hid (fun h => anti a b ha hb h)
  have HRA := Lib.hid (fun k hk => digF_range a ha k hk)
  have HLA := Lib.hid (digF_len a ha)
  have HLB := Lib.hid (digF_len b hb)
  have HHX := Lib.hid (fun (k : Nat) (c : UInt8) (hk : k < 64) (h : a[k / 2]? = some c) => (digF_lo a ha k hk).trans (hex_at a k c h))
  have hsa := sz26l a ha
  have hsb := sz26l b hb
  have HA := Lib.hid ha
  have HB := Lib.hid hb
  clear ha hb
  unfold dg at HDA HDB
  go_enter Tryd.func11, Tryd.ntmps11
  go_wp2_with fail
  refine (HSA.out _ hS0.keeps).mono ?_
  rintro e w1 ⟨rfl, hb1⟩
  have hS1 := hS0.call hb1
  clear hS0 hb1 HSA
  go_wp2_with fail
  go_cut [5, 6] (fun x y wx => ∃ (gx gy : Nat) (D' : Gh), x = .slice (some ⟨gx, 0, none⟩) 67 67 ∧ y = .slice (some ⟨gy, 0, none⟩) 67 67 ∧ NS D' x (digF a) ∧ NS D' y (digF b) ∧ B2 D' w w.heap.size 26 (darr a) (w.heap.size + 1) 26 (darr b) wx)
  case rest =>
    obtain ⟨gx, gy, D1, rfl, rfl, hnx, hny, hS⟩ := hcut
    clear HDA HDB hsa hsb hS1
    generalize hX : digF a = X at *
    generalize hY : digF b = Y at *
    clear hX hY
    go_wp2_with fail
    go_loopw [7, 8, 9] (fun sm bl y wr => ∃ i : Nat, i ≤ 67 ∧ sm = .int .i64 (sumN X i) ∧ bl = .bool (leN X Y i) ∧ y = .int .i64 i ∧ B2 D1 w w.heap.size 26 (darr a) (w.heap.size + 1) 26 (darr b) wr) (fun _ _ y _ => 67 - (intOf y).toNat)
    case atStart => exact ⟨0, by omega, rfl, by simp [leN], rfl, hS⟩
    case round =>
      obtain ⟨i, hi, rfl, rfl, rfl, hSr⟩ := hrel
      by_cases hlt : i < 67
      · have cx := ns_at hnx hSr.keeps (k := i) (by rw [HLA.out]; exact hlt)
        have cy := ns_at hny hSr.keeps (k := i) (by rw [HLB.out]; exact hlt)
        have hra := HRA.out i hlt
        have HLE := Lib.hid (leN_succ X Y i)
        obtain ⟨hsb1, hsb2⟩ := sumN_le X (fun k hk => HRA.out k hk) HLA.out i (by omega)
        have g0 : (0 : Int) ≤ (i : Int) := by omega
        have g1 : (i : Int) < 67 := by omega
        by_cases h64 : i < 64
        · have g2 : (i : Int) < 64 := by omega
          have hai : a[i / 2]? = some (a[i / 2]'(by have := HA.out; omega)) := List.getElem?_eq_getElem _
          have hx := HHX.out i _ h64 hai
          have ca : wr.cell? ⟨w.heap.size, i / 2, none⟩ = some (bv (a[i / 2]'(by have := HA.out; omega))) := by
            rw [hSr.b1.cell, darr_full a HA.out]; simp [hai]
          have hc := (a[i / 2]'(by have := HA.out; omega)).toNat_lt
          generalize a[i / 2]'(by have := HA.out; omega) = c at *
          have HSN := Lib.hid (sumN_lo X i h64 (X.getD i 0) (by rw [List.getD_eq_getElem?_getD, List.getElem?_eq_getElem (by rw [HLA.out]; exact hlt)]; rfl))
          obtain ⟨z, hz⟩ : ∃ z, z = Y.getD i 0 := ⟨_, rfl⟩
          rw [← hz] at cy HLE
          clear hz
          unfold bv at ca
          have hc0 : (0 : Int) ≤ (c.toNat : Int) ∧ (c.toNat : Int) < 256 := by omega
          rcases Nat.mod_two_eq_zero_or_one i with hp | hp
          · rw [show 4 - i % 2 * 4 = 4 by omega, show (2 : Int) ^ 4 = 16 from rfl] at hx
            rw [hx] at cx HLE HSN hra
            have hp' : (i : Int).tmod 2 = 0 := by rw [Int.tmod_eq_emod_of_nonneg g0]; omega
            have hdv : (i : Int).tdiv 2 = ((i / 2 : Nat) : Int) := by rw [Int.tdiv_eq_ediv_of_nonneg g0]; omega
            have hd32 : i / 2 < 32 := by omega
            generalize i / 2 = ih at *
            have hwi : IntKind.i64.wrap (ih : Int) = ih := by rw [IntKind.wrap_i64]; omega
            generalize (c.toNat : Int) = cv at *
            have hmk := i64_mask4 (cv / 16)
            clear hx hp hai hc
            have hdA : decide (cv / 16 % 16 < 0) = false := by simp; omega
            have hdB : decide (15 < cv / 16 % 16) = false := by simp; omega
            obtain ⟨hra1, hra2⟩ := hra
            have hSd := hSr.drew
            go_wp2_with fail
            go_quiet (fail)
            have hSn := hSr
            go_wp2_with fail
            cases hbl : leN X Y i with
            | true =>
              rw [hbl] at HLE
              clear hbl
              go_quiet (fail)
              go_wp2_with fail
              go_roundw
              case rel => exact ⟨i + 1, by omega, by rw [HSN.out], by rw [HLE.out]; simp, by go_num, ⟨hSn.keeps.drewN _, belowDrewN hSn.below _, hSn.b1.drewN _, hSn.b2.drewN _⟩⟩
              case measure => simp [intOf]; omega
            | false =>
              rw [hbl] at HLE
              clear hbl
              go_quiet (fail)
              go_wp2_with fail
              go_roundw
              case rel => exact ⟨i + 1, by omega, by rw [HSN.out], by rw [HLE.out]; simp, by go_num, ⟨hSn.keeps.drewN _, belowDrewN hSn.below _, hSn.b1.drewN _, hSn.b2.drewN _⟩⟩
              case measure => simp [intOf]; omega
          · rw [show 4 - i % 2 * 4 = 0 by omega, show (2 : Int) ^ 0 = 1 from rfl, Int.ediv_one] at hx
            rw [hx] at cx HLE HSN hra
            have hp' : (i : Int).tmod 2 = 1 := by rw [Int.tmod_eq_emod_of_nonneg g0]; omega
            have hdv : (i : Int).tdiv 2 = ((i / 2 : Nat) : Int) := by rw [Int.tdiv_eq_ediv_of_nonneg g0]; omega
            have hd32 : i / 2 < 32 := by omega
            generalize i / 2 = ih at *
            have hwi : IntKind.i64.wrap (ih : Int) = ih := by rw [IntKind.wrap_i64]; omega
            generalize (c.toNat : Int) = cv at *
            have hmk := i64_mask4 cv
            clear hx hp hai hc
            have hdA : decide (cv % 16 < 0) = false := by simp; omega
            have hdB : decide (15 < cv % 16) = false := by simp; omega
            obtain ⟨hra1, hra2⟩ := hra
            have hSd := hSr.drew
            go_wp2_with fail
            go_quiet (fail)
            have hSn := hSr
            go_wp2_with fail
            cases hbl : leN X Y i with
            | true =>
              rw [hbl] at HLE
              clear hbl
              go_quiet (fail)
              go_wp2_with fail
              go_roundw
              case rel => exact ⟨i + 1, by omega, by rw [HSN.out], by rw [HLE.out]; simp, by go_num, ⟨hSn.keeps.drewN _, belowDrewN hSn.below _, hSn.b1.drewN _, hSn.b2.drewN _⟩⟩
              case measure => simp [intOf]; omega
            | false =>
              rw [hbl] at HLE
              clear hbl
              go_quiet (fail)
              go_wp2_with fail
              go_roundw
              case rel => exact ⟨i + 1, by omega, by rw [HSN.out], by rw [HLE.out]; simp, by go_num, ⟨hSn.keeps.drewN _, belowDrewN hSn.below _, hSn.b1.drewN _, hSn.b2.drewN _⟩⟩
              case measure => simp [intOf]; omega
        · have HSH := Lib.hid (sumN_hi X i (by omega))
          have g2 : ¬ ((i : Int) < 64) := by omega
          have g2' : decide ((i : Int) < 64) = false := by simp; omega
          have g2'' : (64 : Int) ≤ (i : Int) := by omega
          have g2n : decide (i < 64) = false := by simp; omega
          have g2m : ¬ (i < 64) := by omega
          obtain ⟨z, hz⟩ : ∃ z, z = Y.getD i 0 := ⟨_, rfl⟩
          rw [← hz] at cy HLE
          clear hz
          generalize X.getD i 0 = x at *
          obtain ⟨hra1, hra2⟩ := hra
          have hdA : decide (x < 0) = false := by simp; omega
          have hdB : decide (15 < x) = false := by simp; omega
          go_wp2_with fail
          go_quiet (fail)
          have hSn := hSr
          go_wp2_with fail
          cases hbl : leN X Y i with
          | true =>
            rw [hbl] at HLE
            clear hbl
            go_quiet (fail)
            go_wp2_with fail
            go_roundw
            case rel => exact ⟨i + 1, by omega, by rw [HSH.out], by rw [HLE.out]; simp, by go_num, ⟨hSn.keeps.drewN _, belowDrewN hSn.below _, hSn.b1.drewN _, hSn.b2.drewN _⟩⟩
            case measure => simp [intOf]; omega
          | false =>
            rw [hbl] at HLE
            clear hbl
            go_quiet (fail)
            go_wp2_with fail
            go_roundw
            case rel => exact ⟨i + 1, by omega, by rw [HSH.out], by rw [HLE.out]; simp, by go_num, ⟨hSn.keeps.drewN _, belowDrewN hSn.below _, hSn.b1.drewN _, hSn.b2.drewN _⟩⟩
            case measure => simp [intOf]; omega
      · obtain rfl : i = 67 := by omega
        rw [show ((67 : Nat) : Int) = 67 from rfl]
        have c0 := ns_at hnx hSr.keeps (k := 64) (by rw [HLA.out]; omega)
        have c1 := ns_at hnx hSr.keeps (k := 65) (by rw [HLA.out]; omega)
        have c2 := ns_at hnx hSr.keeps (k := 66) (by rw [HLA.out]; omega)
        obtain ⟨hsb1, hsb2⟩ := sumN_le X (fun k hk => HRA.out k hk) HLA.out 67 (by omega)
        have hr0 := HRA.out 64 (by omega)
        have hr1 := HRA.out 65 (by omega)
        have hr2 := HRA.out 66 (by omega)
        have hsu := HSU.out
        generalize X.getD 64 0 = x0 at *
        generalize X.getD 65 0 = x1 at *
        generalize X.getD 66 0 = x2 at *
        generalize sumN X 67 = sm at *
        obtain ⟨r0a, r0b⟩ := hr0
        obtain ⟨r1a, r1b⟩ := hr1
        obtain ⟨r2a, r2b⟩ := hr2
        have hw0 : IntKind.i64.wrap (x0 * 256) = x0 * 256 := by rw [IntKind.wrap_i64]; omega
        have hw1 : IntKind.i64.wrap (sm + x0 * 256) = sm + x0 * 256 := by rw [IntKind.wrap_i64]; omega
        have hw2 : IntKind.i64.wrap (x1 * 16) = x1 * 16 := by rw [IntKind.wrap_i64]; omega
        have hw3 : IntKind.i64.wrap (sm + x0 * 256 + x1 * 16) = sm + x0 * 256 + x1 * 16 := by rw [IntKind.wrap_i64]; omega
        have hw4 : IntKind.i64.wrap (sm + x0 * 256 + x1 * 16 + x2) = 960 := by rw [IntKind.wrap_i64]; omega
        clear r0a r0b r1a r1b r2a r2b hsb1 hsb2 hsu
        cases hbl : leN X Y 67 with
        | true =>
          have hab := HAN.out hbl
          subst hab
          clear hbl
          have hsz := sz26 a HA.out
          have heq : ∀ W, (Op.equalIn 10000 26 (.agg (darr a)) (.agg (darr a))).run Tryd.prog W = .ok true W := fun W => by
            rw [eq26 a a HA.out HA.out W]; simp
          have hszl := sz26l a HA.out
          have hu26 := Tryd.underlying26
          have hSd := hSr.drew
          rw [darr_full a HA.out] at heq
          have d0 := c0
          have d1 := c1
          have d2 := c2
          go_wp2_with fail
          refine wp_region_held_drew (S := fun W => W.rangeAt w.heap.size 0 (a.map bv) ∧ W.rangeAt (w.heap.size + 1) 0 (a.map bv) ∧ W.cell? ⟨gx, 64, none⟩ = some (.int .i64 x0) ∧ W.cell? ⟨gx, 65, none⟩ = some (.int .i64 x1) ∧ W.cell? ⟨gx, 66, none⟩ = some (.int .i64 x2)) (by kernel_rfl) ⟨fun j v hv => by
            rw [Nat.zero_add, hSd.b1.cell, darr_full a HA.out]; simpa using hv, fun j v hv => by
            rw [Nat.zero_add, hSd.b2.cell, darr_full a HA.out]; simpa using hv, d0, d1, d2⟩ (fun hHeld => ?_)
          refine wpAnyH_take (i := 0) (v := ?_) rfl (by kernel_rfl) (by kernel_rfl) (by kernel_rfl) (fun _ _ _ h => h) (Or.inl ⟨by rfl, ?_⟩) hHeld ?_
          rotate_left
          · (intro wz hSw; (try dsimp only at hSw); go_simp; try with_reducible rfl)
          simp only [Act.put, List.getElem_toArray, List.getElem_cons_zero, List.setIfInBounds_toArray, List.set_cons_zero, List.set_cons_succ]
          refine wpAnyH_take (i := 1) (v := ?_) rfl (by kernel_rfl) (by kernel_rfl) (by kernel_rfl) (fun _ _ _ h => h) (Or.inl ⟨by rfl, ?_⟩) hHeld ?_
          rotate_left
          · (intro wz hSw; (try dsimp only at hSw); go_simp; try with_reducible rfl)
          simp only [Act.put, List.getElem_toArray, List.getElem_cons_zero, List.getElem_cons_succ, List.setIfInBounds_toArray, List.set_cons_zero, List.set_cons_succ]
          refine wpAnyH_take (i := 2) (v := ?_) rfl (by kernel_rfl) (by kernel_rfl) (by kernel_rfl) (fun _ _ _ h => h) (Or.inl ⟨by rfl, ?_⟩) hHeld ?_
          rotate_left
          · (intro wz hSw; (try dsimp only at hSw); go_simp; try with_reducible rfl)
          simp only [Act.put, List.getElem_toArray, List.getElem_cons_zero, List.getElem_cons_succ, List.setIfInBounds_toArray, List.set_cons_zero, List.set_cons_succ]
          refine wpAnyH_take (i := 3) (v := ?_) rfl (by kernel_rfl) (by kernel_rfl) (by kernel_rfl) (fun _ _ _ h => h) (Or.inl ⟨by rfl, ?_⟩) hHeld ?_
          rotate_left
          · (intro wz hSw; (try dsimp only at hSw); go_simp; try with_reducible rfl)
          simp only [Act.put, List.getElem_toArray, List.getElem_cons_zero, List.getElem_cons_succ, List.setIfInBounds_toArray, List.set_cons_zero, List.set_cons_succ]
          refine wpAnyH_take (i := 4) (v := ?_) rfl (by kernel_rfl) (by kernel_rfl) (by kernel_rfl) (fun _ _ _ h => h) (Or.inl ⟨by rfl, ?_⟩) hHeld ?_
          rotate_left
          · (intro wz hSw; (try dsimp only at hSw); go_simp; try with_reducible rfl)
          simp only [Act.put, List.getElem_toArray, List.getElem_cons_zero, List.getElem_cons_succ, List.setIfInBounds_toArray, List.set_cons_zero, List.set_cons_succ]
          refine wpAnyH_take (i := 5) (v := ?_) rfl (by kernel_rfl) (by kernel_rfl) (by kernel_rfl) (fun _ _ _ h => h) (Or.inl ⟨by rfl, ?_⟩) hHeld ?_
          rotate_left
          · (intro wz hSw; (try dsimp only at hSw); go_simp; try with_reducible rfl)
          simp only [Act.put, List.getElem_toArray, List.getElem_cons_zero, List.getElem_cons_succ, List.setIfInBounds_toArray, List.set_cons_zero, List.set_cons_succ]
          refine wpAnyH_take (i := 6) (v := ?_) rfl (by kernel_rfl) (by kernel_rfl) (by kernel_rfl) (fun _ _ _ h => h) (Or.inl ⟨by rfl, ?_⟩) hHeld ?_
          rotate_left
          · (intro wz hSw; (try dsimp only at hSw); go_simp; try with_reducible rfl)
          simp only [Act.put, List.getElem_toArray, List.getElem_cons_zero, List.getElem_cons_succ, List.setIfInBounds_toArray, List.set_cons_zero, List.set_cons_succ]
          refine wpAnyH_take (i := 7) (v := ?_) rfl (by kernel_rfl) (by kernel_rfl) (by kernel_rfl) (fun _ _ _ h => h) (Or.inl ⟨by rfl, ?_⟩) hHeld ?_
          rotate_left
          · (intro wz hSw; (try dsimp only at hSw); go_simp; try with_reducible rfl)
          simp only [Act.put, List.getElem_toArray, List.getElem_cons_zero, List.getElem_cons_succ, List.setIfInBounds_toArray, List.set_cons_zero, List.set_cons_succ]
          refine wpAnyH_take (i := 8) (v := ?_) rfl (by kernel_rfl) (by kernel_rfl) (by kernel_rfl) (fun _ _ _ h => h) (Or.inl ⟨by rfl, ?_⟩) hHeld ?_
          rotate_left
          · (intro wz hSw; (try dsimp only at hSw); go_simp; try with_reducible rfl)
          simp only [Act.put, List.getElem_toArray, List.getElem_cons_zero, List.getElem_cons_succ, List.setIfInBounds_toArray, List.set_cons_zero, List.set_cons_succ]
          refine wpAnyH_take (i := 9) (v := ?_) rfl (by kernel_rfl) (by kernel_rfl) (by kernel_rfl) (fun _ _ _ h => h) (Or.inl ⟨by rfl, ?_⟩) hHeld ?_
          rotate_left
          · (intro wz hSw; (try dsimp only at hSw); go_simp; try with_reducible rfl)
          simp only [Act.put, List.getElem_toArray, List.getElem_cons_zero, List.getElem_cons_succ, List.setIfInBounds_toArray, List.set_cons_zero, List.set_cons_succ]
          refine wpAnyH_take (i := 10) (v := ?_) rfl (by kernel_rfl) (by kernel_rfl) (by kernel_rfl) (fun _ _ _ h => h) (Or.inl ⟨by rfl, ?_⟩) hHeld ?_
          rotate_left
          · (intro wz hSw; (try dsimp only at hSw); go_simp; try with_reducible rfl)
          simp only [Act.put, List.getElem_toArray, List.getElem_cons_zero, List.getElem_cons_succ, List.setIfInBounds_toArray, List.set_cons_zero, List.set_cons_succ]
          refine wpAnyH_take (i := 11) (v := ?_) rfl (by kernel_rfl) (by kernel_rfl) (by kernel_rfl) (fun _ _ _ h => h) (Or.inl ⟨by rfl, ?_⟩) hHeld ?_
          rotate_left
          · (intro wz hSw; (try dsimp only at hSw); go_simp; try with_reducible rfl)
          simp only [Act.put, List.getElem_toArray, List.getElem_cons_zero, List.getElem_cons_succ, List.setIfInBounds_toArray, List.set_cons_zero, List.set_cons_succ]
          refine wpAnyH_take (i := 12) (v := ?_) rfl (by kernel_rfl) (by kernel_rfl) (by kernel_rfl) (fun _ _ _ h => h) (Or.inl ⟨by rfl, ?_⟩) hHeld ?_
          rotate_left
          · (intro wz hSw; (try dsimp only at hSw); go_simp; try with_reducible rfl)
          simp only [Act.put, List.getElem_toArray, List.getElem_cons_zero, List.getElem_cons_succ, List.setIfInBounds_toArray, List.set_cons_zero, List.set_cons_succ]
          refine wpAnyH_take (i := 13) (v := ?_) rfl (by kernel_rfl) (by kernel_rfl) (by kernel_rfl) (fun _ _ _ h => h) (Or.inl ⟨by rfl, ?_⟩) hHeld ?_
          rotate_left
          · (intro wz hSw; (try dsimp only at hSw); go_simp; try with_reducible rfl)
          simp only [Act.put, List.getElem_toArray, List.getElem_cons_zero, List.getElem_cons_succ, List.setIfInBounds_toArray, List.set_cons_zero, List.set_cons_succ]
          refine wpAnyH_take (i := 14) (v := ?_) rfl (by kernel_rfl) (by kernel_rfl) (by kernel_rfl) (fun _ _ _ h => h) (Or.inl ⟨by rfl, ?_⟩) hHeld ?_
          rotate_left
          · (intro wz hSw; (try dsimp only at hSw); go_simp; try with_reducible rfl)
          simp only [Act.put, List.getElem_toArray, List.getElem_cons_zero, List.getElem_cons_succ, List.setIfInBounds_toArray, List.set_cons_zero, List.set_cons_succ]
          refine wpAnyH_take (i := 15) (v := ?_) rfl (by kernel_rfl) (by kernel_rfl) (by kernel_rfl) (fun _ _ _ h => h) (Or.inl ⟨by rfl, ?_⟩) hHeld ?_
          rotate_left
          · (intro wz hSw; (try dsimp only at hSw); go_simp; try with_reducible rfl)
          simp only [Act.put, List.getElem_toArray, List.getElem_cons_zero, List.getElem_cons_succ, List.setIfInBounds_toArray, List.set_cons_zero, List.set_cons_succ]
          refine wpAnyH_take (i := 16) (v := ?_) rfl (by kernel_rfl) (by kernel_rfl) (by kernel_rfl) (fun _ _ _ h => h) (Or.inl ⟨by rfl, ?_⟩) hHeld ?_
          rotate_left
          · (intro wz hSw; (try dsimp only at hSw); go_simp; try with_reducible rfl)
          simp only [Act.put, List.getElem_toArray, List.getElem_cons_zero, List.getElem_cons_succ, List.setIfInBounds_toArray, List.set_cons_zero, List.set_cons_succ]
          refine wpAnyH_take (i := 17) (v := ?_) rfl (by kernel_rfl) (by kernel_rfl) (by kernel_rfl) (fun _ _ _ h => h) (Or.inl ⟨by rfl, ?_⟩) hHeld ?_
          rotate_left
          · (intro wz hSw; (try dsimp only at hSw); go_simp; try with_reducible rfl)
          simp only [Act.put, List.getElem_toArray, List.getElem_cons_zero, List.getElem_cons_succ, List.setIfInBounds_toArray, List.set_cons_zero, List.set_cons_succ]
          refine wpAnyH_take (i := 18) (v := ?_) rfl (by kernel_rfl) (by kernel_rfl) (by kernel_rfl) (fun _ _ _ h => h) (Or.inl ⟨by rfl, ?_⟩) hHeld ?_
          rotate_left
          · (intro wz hSw; (try dsimp only at hSw); go_simp; try with_reducible rfl)
          simp only [Act.put, List.getElem_toArray, List.getElem_cons_zero, List.getElem_cons_succ, List.setIfInBounds_toArray, List.set_cons_zero, List.set_cons_succ]
          refine wpAnyH_take (i := 19) (v := ?_) rfl (by kernel_rfl) (by kernel_rfl) (by kernel_rfl) (fun _ _ _ h => h) (Or.inl ⟨by rfl, ?_⟩) hHeld ?_
          rotate_left
          · (intro wz hSw; (try dsimp only at hSw); go_simp; try with_reducible rfl)
          simp only [Act.put, List.getElem_toArray, List.getElem_cons_zero, List.getElem_cons_succ, List.setIfInBounds_toArray, List.set_cons_zero, List.set_cons_succ]
          refine wpAnyH_take (i := 20) (v := (.agg (a.map bv).toArray)) rfl (by kernel_rfl) (by kernel_rfl) (by kernel_rfl) (fun _ _ _ h => h) (yieldsIf_load_mid (by rfl) _ _ rfl _ _ rfl _ _ (fun w h => h.1) hu26 rfl hszl) hHeld ?_
          simp only [Act.put, List.getElem_toArray, List.getElem_cons_zero, List.getElem_cons_succ, List.setIfInBounds_toArray, List.set_cons_zero, List.set_cons_succ]
          refine wpAnyH_take (i := 21) (v := (.agg (a.map bv).toArray)) rfl (by kernel_rfl) (by kernel_rfl) (by kernel_rfl) (fun _ _ _ h => h) (yieldsIf_load_mid (by rfl) _ _ rfl _ _ rfl _ _ (fun w h => h.2.1) hu26 rfl hszl) hHeld ?_
          simp only [Act.put, List.getElem_toArray, List.getElem_cons_zero, List.getElem_cons_succ, List.setIfInBounds_toArray, List.set_cons_zero, List.set_cons_succ]
          refine wpAnyH_take (i := 22) (v := ?_) rfl (by kernel_rfl) (by kernel_rfl) (by kernel_rfl) (fun _ _ _ h => h) (Or.inl ⟨by rfl, ?_⟩) hHeld ?_
          rotate_left
          · (intro wz hSw; (try dsimp only at hSw); go_simp; try with_reducible rfl)
          simp only [Act.put, List.getElem_toArray, List.getElem_cons_zero, List.getElem_cons_succ, List.setIfInBounds_toArray, List.set_cons_zero, List.set_cons_succ]
          refine wpAnyH_take (i := 23) (v := ?_) rfl (by kernel_rfl) (by kernel_rfl) (by kernel_rfl) (fun _ _ _ h => h) (Or.inl ⟨by rfl, ?_⟩) hHeld ?_
          rotate_left
          · (intro wz hSw; (try dsimp only at hSw); go_simp; try with_reducible rfl)
          simp only [Act.put, List.getElem_toArray, List.getElem_cons_zero, List.getElem_cons_succ, List.setIfInBounds_toArray, List.set_cons_zero, List.set_cons_succ]
          refine wpAnyH_take (i := 24) (v := ?_) rfl (by kernel_rfl) (by kernel_rfl) (by kernel_rfl) (fun _ _ _ h => h) (Or.inl ⟨by rfl, ?_⟩) hHeld ?_
          rotate_left
          · (intro wz hSw; (try dsimp only at hSw); go_simp; try with_reducible rfl)
          simp only [Act.put, List.getElem_toArray, List.getElem_cons_zero, List.getElem_cons_succ, List.setIfInBounds_toArray, List.set_cons_zero, List.set_cons_succ]
          refine wpAnyH_ready (rs := [25]) (by kernel_rfl) (by simp) (AllReadyH.cons rfl (fun K' hK => ?_) AllReadyH.nil)
          go_simp
          refine hK.out _ _ hHeld (fun hHeld => ?_)
          clear hK K'
          refine wpAnyH_done (by kernel_rfl) ?_ _
          go_wp2_with fail
          go_ret
          exact ⟨rfl, hSd.below⟩
        | false =>
          clear hbl
          go_wp2_with fail
          go_quiet (fail)
          go_wp2_with fail
          go_ret
          exact ⟨rfl, belowDrewN hSr.below _⟩
  have hS1d := hS1.drew
  have hu26 := Tryd.underlying26
  have SH : Hid (∀ D' W, B2 D' w w.heap.size 26 (darr a) (w.heap.size + 1) 26 (darr b) W → (W.rangeAt w.heap.size 0 (a.map bv) ∧ W.rangeAt (w.heap.size + 1) 0 (b.map bv))) := fun D' W h => ⟨fun j v hv => by
    rw [Nat.zero_add, h.b1.cell, darr_full a HA.out]; simpa using hv, fun j v hv => by
    rw [Nat.zero_add, h.b2.cell, darr_full b HB.out]; simpa using hv⟩
  refine wp_region_held_drew (S := fun W => W.rangeAt w.heap.size 0 (a.map bv) ∧ W.rangeAt (w.heap.size + 1) 0 (b.map bv)) (by kernel_rfl) (SH.out _ _ hS1d) (fun hHeld => ?_)
  refine wpAnyH_take (i := 0) (v := (.agg (a.map bv).toArray)) rfl (by kernel_rfl) (by kernel_rfl) (by kernel_rfl) (fun _ _ _ h => h) (yieldsIf_load_mid (by rfl) _ _ rfl _ _ rfl _ _ (fun w h => h.1) hu26 rfl hsa) hHeld ?_
  simp only [Act.put, List.getElem_toArray, List.getElem_cons_zero, List.setIfInBounds_toArray, List.set_cons_zero, List.set_cons_succ]
  refine wpAnyH_take (i := 2) (v := (.agg (b.map bv).toArray)) rfl (by kernel_rfl) (by kernel_rfl) (by kernel_rfl) (fun _ _ _ h => h) (yieldsIf_load_mid (by rfl) _ _ rfl _ _ rfl _ _ (fun w h => h.2) hu26 rfl hsb) hHeld ?_
  simp only [Act.put, List.getElem_toArray, List.getElem_cons_zero, List.getElem_cons_succ, List.setIfInBounds_toArray, List.set_cons_zero, List.set_cons_succ]
  refine wpAnyH_ready (rs := [1]) (by kernel_rfl) (by simp) (AllReadyH.cons rfl (fun K' hK => ?_) AllReadyH.nil)
  go_simp
  go_wp2_with ((go_at_call 39; refine (HDA.out _ _ hS1d.keeps).mono ?_; rintro e w2 ⟨gx, D2, rfl, hG2, hn2⟩))
  have hS2 := hS1d.grow hG2
  refine hK.out _ _ (SH.out _ _ hS2) (fun hHeld => ?_)
  clear hK K'
  refine wpAnyH_ready (rs := [3]) (by kernel_rfl) (by simp) (AllReadyH.cons rfl (fun K' hK => ?_) AllReadyH.nil)
  go_simp
  go_wp2_with ((go_at_call 39; refine (HDB.out _ _ hS2.keeps).mono ?_; rintro e w3 ⟨gy, D3, rfl, hG3, hn3⟩))
  have hS3 := hS2.grow hG3
  refine hK.out _ _ (SH.out _ _ hS3) (fun hHeld => ?_)
  clear hK K'
  have hn2' : NS D3 _ _ := Sl.le hn2 hG3.le
  refine wpAnyH_ready (rs := [4]) (by kernel_rfl) (by simp) (AllReadyH.cons rfl (fun K' hK => ?_) AllReadyH.nil)
  go_simp
  refine hK.out _ _ hHeld (fun hHeld => ?_)
  clear hK K'
  refine wpAnyH_ready (rs := [5]) (by kernel_rfl) (by simp) (AllReadyH.cons rfl (fun K' hK => ?_) AllReadyH.nil)
  go_simp
  refine hK.out _ _ hHeld (fun hHeld => ?_)
  clear hK K'
  refine wpAnyH_done (by kernel_rfl) ?_ _
  go_wp2_with fail
  go_meet
  exact ⟨gx, gy, D3, rfl, rfl, hn2', hn3, hS3⟩
end Go.Proofs.YtohknemfcohhfaaDoor
