/-
  What is proved here: the walk of WalSumAffine
-/
import Derived.Test.YtegkmkglagmdiaaRows
import Derived.Test.YtegkmkglagmdiaaBaseB
import Derived.Test.YtegkmkglagmdiaaCrc
import Derived.Test.YtegkmkglagmdiaaWalP
import Derived.Test.YtegkmkglagmdiaaWalA
import Derived.Test.YtegkmkglagmdiaaWalB
import Derived.Test.YtegkmkglagmdiaaWalC
import Derived.Test.YtegkmkglagmdiaaWalD
import Derived.Test.YtegkmkglagmdiaaWalE
import Derived.Test.YtegkmkglagmdiaaDiskF
import Derived.Test.YtegkmkglagmdiaaDiskH
import Derived.Test.YtegkmkglagmdiaaWalF
import Derived.Test.YtegkmkglagmdiaaRangeF
import Derived.Test.YtegkmkglagmdiaaWalG
import Derived.Test.YtegkmkglagmdiaaWalH
import Derived.Test.YtegkmkglagmdiaaWalI
import Derived.Test.YtegkmkglagmdiaaWalJ
import Derived.Test.YtegkmkglagmdiaaWalK
import Derived.Test.YtegkmkglagmdiaaWalL
import Derived.Test.YtegkmkglagmdiaaWalS
import Derived.Test.YtegkmkglagmdiaaWalT
import Derived.Test.YtegkmkglagmdiaaWalU
import Derived.Test.YtegkmkglagmdiaaDiskI
import Derived.OwnWalkIn
import Derived.TacticsInMore
import Derived.LoopNIn
import Derived.LoopIn
import Derived.Scope
import Derived.StillTailTactics
import Derived.Shelf.Abstract
import Derived.RangeFuncCalls
import Derived.Laws.BitsAllLaws
import Derived.Deep.RegionHeld3
import Derived.Deep.RegionLaw
import Derived.Deep.DeepCutAuto
import Derived.Deep.QuietTactic
import Derived.BigQuiet
import Derived.Laws.EntriesVeiled
import Derived.Deep.MidRow
import Derived.Laws.CopyRow
namespace Go.Proofs.Ytegkmkglagmdiaa
open Go.RowKit Go.VS
theorem u8_xor_nat (a b : Nat) (ha : a < 256) (hb : b < 256) : bits .xor .u8 (a : Int) (b : Int) = ((a ^^^ b : Nat) : Int) := by
  have hx : a ^^^ b < 2 ^ 8 := Nat.xor_lt_two_pow (by omega) (by omega)
  show IntKind.u8.wrap ((BitVec.ofInt 8 (a : Int) ^^^ BitVec.ofInt 8 (b : Int)).toNat : Int) = _
  rw [BitVec.toNat_xor, BitVec.ofInt_natCast, BitVec.toNat_ofNat, BitVec.ofInt_natCast, BitVec.toNat_ofNat, Nat.mod_eq_of_lt (by omega), Nat.mod_eq_of_lt (by omega), IntKind.wrap_u8]
  omega
theorem u8_xor (x y : UInt8) : bits .xor .u8 (x.toNat : Int) (y.toNat : Int) = ((x ^^^ y).toNat : Int) := by
  rw [u8_xor_nat _ _ x.toNat_lt y.toNat_lt, UInt8.toNat_xor]
theorem made_zero (q : Nat) : madeCells #[.int .u8 0] q = bA (List.replicate q 0) := by
  apply Array.ext
  · simp [bA, size_madeCells]
  · intro i h1 h2
    simp [bA, madeCells, bv, Nat.mod_one]
theorem xor3_len : ∀ (a b c : List UInt8), a.length = b.length → a.length = c.length → (xor3 a b c).length = a.length
  | [], [], [], _, _ => rfl
  | _ :: ra, _ :: rb, _ :: rc, h1, h2 => by
    simp only [xor3, List.length_cons]
    rw [xor3_len ra rb rc (by simpa using h1) (by simpa using h2)]
  | [], _ :: _, _, h, _ => by simp at h
  | _ :: _, [], _, h, _ => by simp at h
  | [], [], _ :: _, _, h => by simp at h
  | _ :: _, _ :: _, [], _, h => by simp at h
theorem xor3_snoc : ∀ (a b c : List UInt8) (x y z : UInt8), a.length = b.length → a.length = c.length → xor3 (a ++ [x]) (b ++ [y]) (c ++ [z]) = xor3 a b c ++ [x ^^^ y ^^^ z]
  | [], [], [], _, _, _, _, _ => rfl
  | a0 :: ra, b0 :: rb, c0 :: rc, x, y, z, h1, h2 => by
    simp only [List.cons_append, xor3]
    rw [xor3_snoc ra rb rc x y z (by simpa using h1) (by simpa using h2)]
  | [], _ :: _, _, _, _, _, h, _ => by simp at h
  | _ :: _, [], _, _, _, _, h, _ => by simp at h
  | [], [], _ :: _, _, _, _, _, h => by simp at h
  | _ :: _, _ :: _, [], _, _, _, _, h => by simp at h
/-- the first i bytes are done. -/
def xfill (a b c : List UInt8) (q i : Nat) : List UInt8 := xor3 (a.take i) (b.take i) (c.take i) ++ List.replicate (q - i) 0
theorem xfill_len (a b c : List UInt8) (q i : Nat) (hi : i ≤ q) (ha : q ≤ a.length) (hb : q ≤ b.length) (hc : q ≤ c.length) : (xfill a b c q i).length = q := by
  unfold xfill
  rw [List.length_append, xor3_len _ _ _ (by simp; omega) (by simp; omega), List.length_take, List.length_replicate]; omega
theorem xfill_step (a b c : List UInt8) (q i : Nat) (hi : i < q) (ha : q ≤ a.length) (hb : q ≤ b.length) (hc : q ≤ c.length) :
    (xfill a b c q i).set i (a[i]'(by omega) ^^^ b[i]'(by omega) ^^^ c[i]'(by omega)) = xfill a b c q (i + 1) := by
  unfold xfill
  have hl : (xor3 (a.take i) (b.take i) (c.take i)).length = i := by rw [xor3_len _ _ _ (by simp; omega) (by simp; omega), List.length_take]; omega
  rw [List.set_append_right _ _ (by omega), hl, Nat.sub_self, show q - i = q - (i + 1) + 1 by omega, List.replicate_succ, List.set_cons_zero]
  rw [List.take_add_one, List.take_add_one, List.take_add_one, List.getElem?_eq_getElem (by omega), List.getElem?_eq_getElem (by omega), List.getElem?_eq_getElem (by omega)]
  simp only [Option.toList]
  rw [xor3_snoc _ _ _ _ _ _ (by simp; omega) (by simp; omega), List.append_assoc]
  rfl
theorem bs_lit {D : Gh} {g : Nat} {bs : List UInt8} {n : Nat} {cs : Array Value} (h : ∀ o u, cs[o]? = some u → D g o = some u) (hn : (bs.map bv).toArray = cs ∧ n = bs.length ∧ bs.length ≤ maxLen) : BS D (.slice (some ⟨g, 0, none⟩) n n) bs := by
  obtain ⟨rfl, rfl, h2⟩ := hn
  exact ⟨some ⟨g, 0, none⟩, bs.length, by simp, by simp, h2, by simp, fun _ => ⟨g, 0, rfl, fun j u e => by rw [Nat.zero_add]; exact h j u (by simpa using e)⟩⟩
theorem bs_take {D : Gh} {A : Option Addr} {n c : Nat} {bs : List UInt8} (h : BS D (.slice A n c) bs) (k : Nat) (hk : k ≤ n) : BS D (.slice A k c) (bs.take k) := by
  unfold BS
  rw [List.map_take]
  exact Sl.take h hk
set_option maxRecDepth 100000 in
set_option maxHeartbeats 20000000 in
theorem affine_walk (A1 : Option Addr) (n1 c1 : Nat) (a : List UInt8) (A2 : Option Addr) (n2 c2 : Nat) (b : List UInt8) (A3 : Option Addr) (n3 c3 : Nat) (c : List UInt8) (D : Gh) (w : World) (hk : Keeps D w)
    (h1 : BS D (.slice A1 n1 c1) a) (h2 : BS D (.slice A2 n2 c2) b) (h3 : BS D (.slice A3 n3 c3) c) :
    Calls Try.prog 12 #[.slice A1 n1 c1, .slice A2 n2 c2, .slice A3 n3 c3] w fun e w' => e = .returned (.bool true) ∧ Below w.heap.size w w' := by
  obtain ⟨ha, hac, ham⟩ := h1.len
  obtain ⟨hb, hbc, hbm⟩ := h2.len
  obtain ⟨hc, hcc, hcm⟩ := h3.len
  unfold maxLen at ham hbm hcm
  have HL := Lib.hid (And.intro ha (And.intro hb hc))
  clear ha hb hc
  go_enter Try.func12, Try.ntmps12
  go_wp2_with fail
  refine (sane42_c w).mono ?_
  rintro e w1 ⟨rfl, hb1⟩
  have hk1 := hk.below hb1 (Nat.le_refl _)
  obtain ⟨i5, hi5, hz50, hz51, hz52⟩ := info_parts info5
  by_cases hA : n2 < n1
  · by_cases hB : n3 < n2
    · by_cases hq : n3 ≤ 2000
      · have g20 : decide (2000 < (n3 : Int)) = false := by simp; omega
        have hmk : ∀ W, (Instr.makeSlice 32 (.int .i64 (n3 : Int)) (.int .i64 (n3 : Int))).run Try.prog W = .ok (.slice (some ⟨W.heap.size, 0, none⟩) n3 n3) (W.alloc (.cells (bA (List.replicate n3 0)) 5)) := fun W => by
          have := run_make (P := Try.prog) W 32 5 i5 (.int .u8 0) Try.underlying32 hi5 hz50 .i64 .i64 (n3 : Int) (n3 : Int) (by omega) (by omega) (by rw [hz52]; omega) (by omega)
          rw [this, hz51, Nat.mul_one, ← made_zero]
          rfl
        have hB0 : Box (w1.alloc (.cells (bA (List.replicate n3 0)) 5)) D w1.heap.size 5 (bA (xfill a b c n3 0)) := by
          have h := Box.new hk1 5 (bA (List.replicate n3 0))
          exact h
        have hbw1 : Below w.heap.size w (w1.alloc (.cells (bA (List.replicate n3 0)) 5)) := belowAlloc hb1 _
        have hkw1 := hk1.alloc (.cells (bA (List.replicate n3 0)) 5)
        have hgw : w.heap.size ≤ w1.heap.size := hb1.size
        go_wp2_with fail
        go_loopw [25] (fun y wr => ∃ i : Nat, y = .int .i64 (i : Int) ∧ i ≤ n3 ∧ Below w.heap.size w wr ∧ Keeps D wr ∧ Box wr D w1.heap.size 5 (bA (xfill a b c n3 i))) (fun y _ => n3 - (intOf y).toNat)
        case atStart => exact ⟨0, rfl, Nat.zero_le _, hbw1, hkw1, hB0⟩
        case round =>
          obtain ⟨i, rfl, hi, hbr, hkr, hBr⟩ := hrel
          by_cases hlt : i < n3
          · obtain ⟨p1, o1, rfl, hx1⟩ := h1.at_ hkr (k := i) (by rw [← HL.out.1]; omega)
            obtain ⟨p2, o2, rfl, hx2⟩ := h2.at_ hkr (k := i) (by rw [← HL.out.2.1]; omega)
            obtain ⟨p3, o3, rfl, hx3⟩ := h3.at_ hkr (k := i) (by rw [← HL.out.2.2]; omega)
            have HST := Lib.hid (xfill_step a b c n3 i hlt (by rw [← HL.out.1]; omega) (by rw [← HL.out.2.1]; omega) (by rw [← HL.out.2.2]; omega))
            have hfl := xfill_len a b c n3 i hi (by rw [← HL.out.1]; omega) (by rw [← HL.out.2.1]; omega) (by rw [← HL.out.2.2]; omega)
            have hge : (xfill a b c n3 i)[i]? = some ((xfill a b c n3 i)[i]'(by omega)) := List.getElem?_eq_getElem _
            have qg : wr.cell? ⟨w1.heap.size, i, none⟩ = some (bv ((xfill a b c n3 i)[i]'(by omega))) := (hBr.cell i).trans (bA_at _ _ _ hge)
            have fg : wr.frozen? ⟨w1.heap.size, i, none⟩ = false := hBr.frozen i
            generalize (xfill a b c n3 i)[i]'(by omega) = u0 at *
            unfold bv at qg
            generalize hX : xfill a b c n3 i = X at *
            generalize a[i]'(by rw [← HL.out.1]; omega) = x at *
            generalize b[i]'(by rw [← HL.out.2.1]; omega) = y at *
            generalize c[i]'(by rw [← HL.out.2.2]; omega) = z at *
            have hx8 := x.toNat_lt
            have hy8 := y.toNat_lt
            have e1 := u8_xor_nat x.toNat y.toNat hx8 hy8
            have e2 := u8_xor_nat (x.toNat ^^^ y.toNat) z.toNat (Nat.xor_lt_two_pow (n := 8) hx8 hy8) z.toNat_lt
            have HBV := Lib.hid (show bv (x ^^^ y ^^^ z) = Value.int .u8 ((x.toNat ^^^ y.toNat ^^^ z.toNat : Nat) : Int) from by simp [bv])
            clear hx8 hy8
            have g1 : (i : Int) < (n3 : Int) := by omega
            have g0 : (0 : Int) ≤ (i : Int) := by omega
            have gA : (i : Int) < (n1 : Int) := by omega
            have gB : (i : Int) < (n2 : Int) := by omega
            have gC : (i : Int) < (n3 : Int) := by omega
            clear hX hge hfl
            go_wp2_with fail
            go_still_tail 17, (by kernel_rfl)
            change wpList _ _ _ _ _ wr.drew
            go_wp2
            go_roundw
            case rel =>
              refine ⟨i + 1, by go_num, by omega, (belowSet2 hgw hbr).drew, (hkr.setCell (p := ⟨w1.heap.size, i, none⟩) hBr.off _).drew, ?_⟩
              have hb := (hBr.set_ i (bv (x ^^^ y ^^^ z))).drew
              rw [bA_set, HST.out, HBV.out] at hb
              exact hb
            case measure => simp [intOf]; omega
          · obtain rfl : i = n3 := by omega
            have hfl := xfill_len a b c i i (Nat.le_refl _) (by rw [← HL.out.1]; omega) (by rw [← HL.out.2.1]; omega) (by rw [← HL.out.2.2]; omega)
            obtain ⟨D2, hG2, hle2, hat2, _⟩ := pubW (Grow.of_below hk hbr) hBr hgw
            have hbx : BS D2 (.slice (some ⟨w1.heap.size, 0, none⟩) i i) (xfill a b c i i) := bs_lit hat2 ⟨rfl, hfl.symm, by rw [hfl]; unfold maxLen; omega⟩
            have hk2 := hG2.keeps
            have HS0 := Lib.hid (fun W (hW : Keeps D2 W) => (sum_c _ i i _ D2 W hW hbx).mono (fun _ _ h => (⟨h.1, h.2.symm⟩ : _ ∧ _)))
            have HS1 := Lib.hid (fun W (hW : Keeps D2 W) => (sum_c A1 i c1 _ D2 W hW ((bs_take h1 i (by omega)).le hle2)).mono (fun _ _ h => (⟨h.1, h.2.symm⟩ : _ ∧ _)))
            have HS2 := Lib.hid (fun W (hW : Keeps D2 W) => (sum_c A2 i c2 _ D2 W hW ((bs_take h2 i (by omega)).le hle2)).mono (fun _ _ h => (⟨h.1, h.2.symm⟩ : _ ∧ _)))
            have HS3 := Lib.hid (fun W (hW : Keeps D2 W) => (sum_c A3 i c3 _ D2 W hW ((bs_take h3 i (by omega)).le hle2)).mono (fun _ _ h => (⟨h.1, h.2.symm⟩ : _ ∧ _)))
            have hcrc : crcF (xfill a b c i i) = crcF (a.take i) ^^^ crcF (b.take i) ^^^ crcF (c.take i) := by
              unfold xfill
              rw [Nat.sub_self, List.replicate_zero, List.append_nil]
              exact crc_affine _ _ _ (by rw [List.length_take, List.length_take]; have := HL.out.1; have := HL.out.2.1; omega) (by rw [List.length_take, List.length_take]; have := HL.out.1; have := HL.out.2.2; omega)
            have k1 := crcF_lt (a.take i)
            have k2 := crcF_lt (b.take i)
            have k3 := crcF_lt (c.take i)
            have e1 := u32_xor_nat (crcF (a.take i)) (crcF (b.take i)) k1 k2
            have e2 := u32_xor_nat (crcF (a.take i) ^^^ crcF (b.take i)) (crcF (c.take i)) (Nat.xor_lt_two_pow (n := 32) k1 k2) k3
            rw [hcrc] at HS0
            generalize crcF (a.take i) ^^^ crcF (b.take i) = x12 at *
            generalize crcF (a.take i) = x1 at *
            generalize crcF (b.take i) = x2 at *
            generalize crcF (c.take i) = x3 at *
            generalize x12 ^^^ x3 = x4 at *
            have gA : (i : Int) ≤ (c1 : Int) := by omega
            have gB : (i : Int) ≤ (c2 : Int) := by omega
            have gC : (i : Int) ≤ (c3 : Int) := by omega
            have gA' : i ≤ c1 := by omega
            have gB' : i ≤ c2 := by omega
            have gC' : i ≤ c3 := by omega
            clear hcrc hfl hbx hat2 k1 k2 k3
            go_wp2_with fail
            go_quiet (first | (with_reducible exact Calls.quiet_of_same (HS0.out _ (hk2.drewN _))) | (with_reducible exact Calls.quiet_of_same (HS1.out _ (hk2.drewN _))) | (with_reducible exact Calls.quiet_of_same (HS2.out _ (hk2.drewN _))) | (with_reducible exact Calls.quiet_of_same (HS3.out _ (hk2.drewN _))))
            go_wp2_with fail
            go_ret
            exact ⟨rfl, belowDrewN hbr nq⟩
      · have g20 : decide (2000 < (n3 : Int)) = true := by simp; omega
        go_wp2_with fail
        go_ret
        exact ⟨rfl, hb1⟩
    · by_cases hq : n2 ≤ 2000
      · have g20 : decide (2000 < (n2 : Int)) = false := by simp; omega
        have hmk : ∀ W, (Instr.makeSlice 32 (.int .i64 (n2 : Int)) (.int .i64 (n2 : Int))).run Try.prog W = .ok (.slice (some ⟨W.heap.size, 0, none⟩) n2 n2) (W.alloc (.cells (bA (List.replicate n2 0)) 5)) := fun W => by
          have := run_make (P := Try.prog) W 32 5 i5 (.int .u8 0) Try.underlying32 hi5 hz50 .i64 .i64 (n2 : Int) (n2 : Int) (by omega) (by omega) (by rw [hz52]; omega) (by omega)
          rw [this, hz51, Nat.mul_one, ← made_zero]
          rfl
        have hB0 : Box (w1.alloc (.cells (bA (List.replicate n2 0)) 5)) D w1.heap.size 5 (bA (xfill a b c n2 0)) := by
          have h := Box.new hk1 5 (bA (List.replicate n2 0))
          exact h
        have hbw1 : Below w.heap.size w (w1.alloc (.cells (bA (List.replicate n2 0)) 5)) := belowAlloc hb1 _
        have hkw1 := hk1.alloc (.cells (bA (List.replicate n2 0)) 5)
        have hgw : w.heap.size ≤ w1.heap.size := hb1.size
        go_wp2_with fail
        go_loopw [25] (fun y wr => ∃ i : Nat, y = .int .i64 (i : Int) ∧ i ≤ n2 ∧ Below w.heap.size w wr ∧ Keeps D wr ∧ Box wr D w1.heap.size 5 (bA (xfill a b c n2 i))) (fun y _ => n2 - (intOf y).toNat)
        case atStart => exact ⟨0, rfl, Nat.zero_le _, hbw1, hkw1, hB0⟩
        case round =>
          obtain ⟨i, rfl, hi, hbr, hkr, hBr⟩ := hrel
          by_cases hlt : i < n2
          · obtain ⟨p1, o1, rfl, hx1⟩ := h1.at_ hkr (k := i) (by rw [← HL.out.1]; omega)
            obtain ⟨p2, o2, rfl, hx2⟩ := h2.at_ hkr (k := i) (by rw [← HL.out.2.1]; omega)
            obtain ⟨p3, o3, rfl, hx3⟩ := h3.at_ hkr (k := i) (by rw [← HL.out.2.2]; omega)
            have HST := Lib.hid (xfill_step a b c n2 i hlt (by rw [← HL.out.1]; omega) (by rw [← HL.out.2.1]; omega) (by rw [← HL.out.2.2]; omega))
            have hfl := xfill_len a b c n2 i hi (by rw [← HL.out.1]; omega) (by rw [← HL.out.2.1]; omega) (by rw [← HL.out.2.2]; omega)
            have hge : (xfill a b c n2 i)[i]? = some ((xfill a b c n2 i)[i]'(by omega)) := List.getElem?_eq_getElem _
            have qg : wr.cell? ⟨w1.heap.size, i, none⟩ = some (bv ((xfill a b c n2 i)[i]'(by omega))) := (hBr.cell i).trans (bA_at _ _ _ hge)
            have fg : wr.frozen? ⟨w1.heap.size, i, none⟩ = false := hBr.frozen i
            generalize (xfill a b c n2 i)[i]'(by omega) = u0 at *
            unfold bv at qg
            generalize hX : xfill a b c n2 i = X at *
            generalize a[i]'(by rw [← HL.out.1]; omega) = x at *
            generalize b[i]'(by rw [← HL.out.2.1]; omega) = y at *
            generalize c[i]'(by rw [← HL.out.2.2]; omega) = z at *
            have hx8 := x.toNat_lt
            have hy8 := y.toNat_lt
            have e1 := u8_xor_nat x.toNat y.toNat hx8 hy8
            have e2 := u8_xor_nat (x.toNat ^^^ y.toNat) z.toNat (Nat.xor_lt_two_pow (n := 8) hx8 hy8) z.toNat_lt
            have HBV := Lib.hid (show bv (x ^^^ y ^^^ z) = Value.int .u8 ((x.toNat ^^^ y.toNat ^^^ z.toNat : Nat) : Int) from by simp [bv])
            clear hx8 hy8
            have g1 : (i : Int) < (n2 : Int) := by omega
            have g0 : (0 : Int) ≤ (i : Int) := by omega
            have gA : (i : Int) < (n1 : Int) := by omega
            have gB : (i : Int) < (n2 : Int) := by omega
            have gC : (i : Int) < (n3 : Int) := by omega
            clear hX hge hfl
            go_wp2_with fail
            go_still_tail 17, (by kernel_rfl)
            change wpList _ _ _ _ _ wr.drew
            go_wp2
            go_roundw
            case rel =>
              refine ⟨i + 1, by go_num, by omega, (belowSet2 hgw hbr).drew, (hkr.setCell (p := ⟨w1.heap.size, i, none⟩) hBr.off _).drew, ?_⟩
              have hb := (hBr.set_ i (bv (x ^^^ y ^^^ z))).drew
              rw [bA_set, HST.out, HBV.out] at hb
              exact hb
            case measure => simp [intOf]; omega
          · obtain rfl : i = n2 := by omega
            have hfl := xfill_len a b c i i (Nat.le_refl _) (by rw [← HL.out.1]; omega) (by rw [← HL.out.2.1]; omega) (by rw [← HL.out.2.2]; omega)
            obtain ⟨D2, hG2, hle2, hat2, _⟩ := pubW (Grow.of_below hk hbr) hBr hgw
            have hbx : BS D2 (.slice (some ⟨w1.heap.size, 0, none⟩) i i) (xfill a b c i i) := bs_lit hat2 ⟨rfl, hfl.symm, by rw [hfl]; unfold maxLen; omega⟩
            have hk2 := hG2.keeps
            have HS0 := Lib.hid (fun W (hW : Keeps D2 W) => (sum_c _ i i _ D2 W hW hbx).mono (fun _ _ h => (⟨h.1, h.2.symm⟩ : _ ∧ _)))
            have HS1 := Lib.hid (fun W (hW : Keeps D2 W) => (sum_c A1 i c1 _ D2 W hW ((bs_take h1 i (by omega)).le hle2)).mono (fun _ _ h => (⟨h.1, h.2.symm⟩ : _ ∧ _)))
            have HS2 := Lib.hid (fun W (hW : Keeps D2 W) => (sum_c A2 i c2 _ D2 W hW ((bs_take h2 i (by omega)).le hle2)).mono (fun _ _ h => (⟨h.1, h.2.symm⟩ : _ ∧ _)))
            have HS3 := Lib.hid (fun W (hW : Keeps D2 W) => (sum_c A3 i c3 _ D2 W hW ((bs_take h3 i (by omega)).le hle2)).mono (fun _ _ h => (⟨h.1, h.2.symm⟩ : _ ∧ _)))
            have hcrc : crcF (xfill a b c i i) = crcF (a.take i) ^^^ crcF (b.take i) ^^^ crcF (c.take i) := by
              unfold xfill
              rw [Nat.sub_self, List.replicate_zero, List.append_nil]
              exact crc_affine _ _ _ (by rw [List.length_take, List.length_take]; have := HL.out.1; have := HL.out.2.1; omega) (by rw [List.length_take, List.length_take]; have := HL.out.1; have := HL.out.2.2; omega)
            have k1 := crcF_lt (a.take i)
            have k2 := crcF_lt (b.take i)
            have k3 := crcF_lt (c.take i)
            have e1 := u32_xor_nat (crcF (a.take i)) (crcF (b.take i)) k1 k2
            have e2 := u32_xor_nat (crcF (a.take i) ^^^ crcF (b.take i)) (crcF (c.take i)) (Nat.xor_lt_two_pow (n := 32) k1 k2) k3
            rw [hcrc] at HS0
            generalize crcF (a.take i) ^^^ crcF (b.take i) = x12 at *
            generalize crcF (a.take i) = x1 at *
            generalize crcF (b.take i) = x2 at *
            generalize crcF (c.take i) = x3 at *
            generalize x12 ^^^ x3 = x4 at *
            have gA : (i : Int) ≤ (c1 : Int) := by omega
            have gB : (i : Int) ≤ (c2 : Int) := by omega
            have gC : (i : Int) ≤ (c3 : Int) := by omega
            have gA' : i ≤ c1 := by omega
            have gB' : i ≤ c2 := by omega
            have gC' : i ≤ c3 := by omega
            clear hcrc hfl hbx hat2 k1 k2 k3
            go_wp2_with fail
            go_quiet (first | (with_reducible exact Calls.quiet_of_same (HS0.out _ (hk2.drewN _))) | (with_reducible exact Calls.quiet_of_same (HS1.out _ (hk2.drewN _))) | (with_reducible exact Calls.quiet_of_same (HS2.out _ (hk2.drewN _))) | (with_reducible exact Calls.quiet_of_same (HS3.out _ (hk2.drewN _))))
            go_wp2_with fail
            go_ret
            exact ⟨rfl, belowDrewN hbr nq⟩
      · have g20 : decide (2000 < (n2 : Int)) = true := by simp; omega
        go_wp2_with fail
        go_ret
        exact ⟨rfl, hb1⟩
  · by_cases hB : n3 < n1
    · by_cases hq : n3 ≤ 2000
      · have g20 : decide (2000 < (n3 : Int)) = false := by simp; omega
        have hmk : ∀ W, (Instr.makeSlice 32 (.int .i64 (n3 : Int)) (.int .i64 (n3 : Int))).run Try.prog W = .ok (.slice (some ⟨W.heap.size, 0, none⟩) n3 n3) (W.alloc (.cells (bA (List.replicate n3 0)) 5)) := fun W => by
          have := run_make (P := Try.prog) W 32 5 i5 (.int .u8 0) Try.underlying32 hi5 hz50 .i64 .i64 (n3 : Int) (n3 : Int) (by omega) (by omega) (by rw [hz52]; omega) (by omega)
          rw [this, hz51, Nat.mul_one, ← made_zero]
          rfl
        have hB0 : Box (w1.alloc (.cells (bA (List.replicate n3 0)) 5)) D w1.heap.size 5 (bA (xfill a b c n3 0)) := by
          have h := Box.new hk1 5 (bA (List.replicate n3 0))
          exact h
        have hbw1 : Below w.heap.size w (w1.alloc (.cells (bA (List.replicate n3 0)) 5)) := belowAlloc hb1 _
        have hkw1 := hk1.alloc (.cells (bA (List.replicate n3 0)) 5)
        have hgw : w.heap.size ≤ w1.heap.size := hb1.size
        go_wp2_with fail
        go_loopw [25] (fun y wr => ∃ i : Nat, y = .int .i64 (i : Int) ∧ i ≤ n3 ∧ Below w.heap.size w wr ∧ Keeps D wr ∧ Box wr D w1.heap.size 5 (bA (xfill a b c n3 i))) (fun y _ => n3 - (intOf y).toNat)
        case atStart => exact ⟨0, rfl, Nat.zero_le _, hbw1, hkw1, hB0⟩
        case round =>
          obtain ⟨i, rfl, hi, hbr, hkr, hBr⟩ := hrel
          by_cases hlt : i < n3
          · obtain ⟨p1, o1, rfl, hx1⟩ := h1.at_ hkr (k := i) (by rw [← HL.out.1]; omega)
            obtain ⟨p2, o2, rfl, hx2⟩ := h2.at_ hkr (k := i) (by rw [← HL.out.2.1]; omega)
            obtain ⟨p3, o3, rfl, hx3⟩ := h3.at_ hkr (k := i) (by rw [← HL.out.2.2]; omega)
            have HST := Lib.hid (xfill_step a b c n3 i hlt (by rw [← HL.out.1]; omega) (by rw [← HL.out.2.1]; omega) (by rw [← HL.out.2.2]; omega))
            have hfl := xfill_len a b c n3 i hi (by rw [← HL.out.1]; omega) (by rw [← HL.out.2.1]; omega) (by rw [← HL.out.2.2]; omega)
            have hge : (xfill a b c n3 i)[i]? = some ((xfill a b c n3 i)[i]'(by omega)) := List.getElem?_eq_getElem _
            have qg : wr.cell? ⟨w1.heap.size, i, none⟩ = some (bv ((xfill a b c n3 i)[i]'(by omega))) := (hBr.cell i).trans (bA_at _ _ _ hge)
            have fg : wr.frozen? ⟨w1.heap.size, i, none⟩ = false := hBr.frozen i
            generalize (xfill a b c n3 i)[i]'(by omega) = u0 at *
            unfold bv at qg
            generalize hX : xfill a b c n3 i = X at *
            generalize a[i]'(by rw [← HL.out.1]; omega) = x at *
            generalize b[i]'(by rw [← HL.out.2.1]; omega) = y at *
            generalize c[i]'(by rw [← HL.out.2.2]; omega) = z at *
            have hx8 := x.toNat_lt
            have hy8 := y.toNat_lt
            have e1 := u8_xor_nat x.toNat y.toNat hx8 hy8
            have e2 := u8_xor_nat (x.toNat ^^^ y.toNat) z.toNat (Nat.xor_lt_two_pow (n := 8) hx8 hy8) z.toNat_lt
            have HBV := Lib.hid (show bv (x ^^^ y ^^^ z) = Value.int .u8 ((x.toNat ^^^ y.toNat ^^^ z.toNat : Nat) : Int) from by simp [bv])
            clear hx8 hy8
            have g1 : (i : Int) < (n3 : Int) := by omega
            have g0 : (0 : Int) ≤ (i : Int) := by omega
            have gA : (i : Int) < (n1 : Int) := by omega
            have gB : (i : Int) < (n2 : Int) := by omega
            have gC : (i : Int) < (n3 : Int) := by omega
            clear hX hge hfl
            go_wp2_with fail
            go_still_tail 17, (by kernel_rfl)
            change wpList _ _ _ _ _ wr.drew
            go_wp2
            go_roundw
            case rel =>
              refine ⟨i + 1, by go_num, by omega, (belowSet2 hgw hbr).drew, (hkr.setCell (p := ⟨w1.heap.size, i, none⟩) hBr.off _).drew, ?_⟩
              have hb := (hBr.set_ i (bv (x ^^^ y ^^^ z))).drew
              rw [bA_set, HST.out, HBV.out] at hb
              exact hb
            case measure => simp [intOf]; omega
          · obtain rfl : i = n3 := by omega
            have hfl := xfill_len a b c i i (Nat.le_refl _) (by rw [← HL.out.1]; omega) (by rw [← HL.out.2.1]; omega) (by rw [← HL.out.2.2]; omega)
            obtain ⟨D2, hG2, hle2, hat2, _⟩ := pubW (Grow.of_below hk hbr) hBr hgw
            have hbx : BS D2 (.slice (some ⟨w1.heap.size, 0, none⟩) i i) (xfill a b c i i) := bs_lit hat2 ⟨rfl, hfl.symm, by rw [hfl]; unfold maxLen; omega⟩
            have hk2 := hG2.keeps
            have HS0 := Lib.hid (fun W (hW : Keeps D2 W) => (sum_c _ i i _ D2 W hW hbx).mono (fun _ _ h => (⟨h.1, h.2.symm⟩ : _ ∧ _)))
            have HS1 := Lib.hid (fun W (hW : Keeps D2 W) => (sum_c A1 i c1 _ D2 W hW ((bs_take h1 i (by omega)).le hle2)).mono (fun _ _ h => (⟨h.1, h.2.symm⟩ : _ ∧ _)))
            have HS2 := Lib.hid (fun W (hW : Keeps D2 W) => (sum_c A2 i c2 _ D2 W hW ((bs_take h2 i (by omega)).le hle2)).mono (fun _ _ h => (⟨h.1, h.2.symm⟩ : _ ∧ _)))
            have HS3 := Lib.hid (fun W (hW : Keeps D2 W) => (sum_c A3 i c3 _ D2 W hW ((bs_take h3 i (by omega)).le hle2)).mono (fun _ _ h => (⟨h.1, h.2.symm⟩ : _ ∧ _)))
            have hcrc : crcF (xfill a b c i i) = crcF (a.take i) ^^^ crcF (b.take i) ^^^ crcF (c.take i) := by
              unfold xfill
              rw [Nat.sub_self, List.replicate_zero, List.append_nil]
              exact crc_affine _ _ _ (by rw [List.length_take, List.length_take]; have := HL.out.1; have := HL.out.2.1; omega) (by rw [List.length_take, List.length_take]; have := HL.out.1; have := HL.out.2.2; omega)
            have k1 := crcF_lt (a.take i)
            have k2 := crcF_lt (b.take i)
            have k3 := crcF_lt (c.take i)
            have e1 := u32_xor_nat (crcF (a.take i)) (crcF (b.take i)) k1 k2
            have e2 := u32_xor_nat (crcF (a.take i) ^^^ crcF (b.take i)) (crcF (c.take i)) (Nat.xor_lt_two_pow (n := 32) k1 k2) k3
            rw [hcrc] at HS0
            generalize crcF (a.take i) ^^^ crcF (b.take i) = x12 at *
            generalize crcF (a.take i) = x1 at *
            generalize crcF (b.take i) = x2 at *
            generalize crcF (c.take i) = x3 at *
            generalize x12 ^^^ x3 = x4 at *
            have gA : (i : Int) ≤ (c1 : Int) := by omega
            have gB : (i : Int) ≤ (c2 : Int) := by omega
            have gC : (i : Int) ≤ (c3 : Int) := by omega
            have gA' : i ≤ c1 := by omega
            have gB' : i ≤ c2 := by omega
            have gC' : i ≤ c3 := by omega
            clear hcrc hfl hbx hat2 k1 k2 k3
            go_wp2_with fail
            go_quiet (first | (with_reducible exact Calls.quiet_of_same (HS0.out _ (hk2.drewN _))) | (with_reducible exact Calls.quiet_of_same (HS1.out _ (hk2.drewN _))) | (with_reducible exact Calls.quiet_of_same (HS2.out _ (hk2.drewN _))) | (with_reducible exact Calls.quiet_of_same (HS3.out _ (hk2.drewN _))))
            go_wp2_with fail
            go_ret
            exact ⟨rfl, belowDrewN hbr nq⟩
      · have g20 : decide (2000 < (n3 : Int)) = true := by simp; omega
        go_wp2_with fail
        go_ret
        exact ⟨rfl, hb1⟩
    · by_cases hq : n1 ≤ 2000
      · have g20 : decide (2000 < (n1 : Int)) = false := by simp; omega
        have hmk : ∀ W, (Instr.makeSlice 32 (.int .i64 (n1 : Int)) (.int .i64 (n1 : Int))).run Try.prog W = .ok (.slice (some ⟨W.heap.size, 0, none⟩) n1 n1) (W.alloc (.cells (bA (List.replicate n1 0)) 5)) := fun W => by
          have := run_make (P := Try.prog) W 32 5 i5 (.int .u8 0) Try.underlying32 hi5 hz50 .i64 .i64 (n1 : Int) (n1 : Int) (by omega) (by omega) (by rw [hz52]; omega) (by omega)
          rw [this, hz51, Nat.mul_one, ← made_zero]
          rfl
        have hB0 : Box (w1.alloc (.cells (bA (List.replicate n1 0)) 5)) D w1.heap.size 5 (bA (xfill a b c n1 0)) := by
          have h := Box.new hk1 5 (bA (List.replicate n1 0))
          exact h
        have hbw1 : Below w.heap.size w (w1.alloc (.cells (bA (List.replicate n1 0)) 5)) := belowAlloc hb1 _
        have hkw1 := hk1.alloc (.cells (bA (List.replicate n1 0)) 5)
        have hgw : w.heap.size ≤ w1.heap.size := hb1.size
        go_wp2_with fail
        go_loopw [25] (fun y wr => ∃ i : Nat, y = .int .i64 (i : Int) ∧ i ≤ n1 ∧ Below w.heap.size w wr ∧ Keeps D wr ∧ Box wr D w1.heap.size 5 (bA (xfill a b c n1 i))) (fun y _ => n1 - (intOf y).toNat)
        case atStart => exact ⟨0, rfl, Nat.zero_le _, hbw1, hkw1, hB0⟩
        case round =>
          obtain ⟨i, rfl, hi, hbr, hkr, hBr⟩ := hrel
          by_cases hlt : i < n1
          · obtain ⟨p1, o1, rfl, hx1⟩ := h1.at_ hkr (k := i) (by rw [← HL.out.1]; omega)
            obtain ⟨p2, o2, rfl, hx2⟩ := h2.at_ hkr (k := i) (by rw [← HL.out.2.1]; omega)
            obtain ⟨p3, o3, rfl, hx3⟩ := h3.at_ hkr (k := i) (by rw [← HL.out.2.2]; omega)
            have HST := Lib.hid (xfill_step a b c n1 i hlt (by rw [← HL.out.1]; omega) (by rw [← HL.out.2.1]; omega) (by rw [← HL.out.2.2]; omega))
            have hfl := xfill_len a b c n1 i hi (by rw [← HL.out.1]; omega) (by rw [← HL.out.2.1]; omega) (by rw [← HL.out.2.2]; omega)
            have hge : (xfill a b c n1 i)[i]? = some ((xfill a b c n1 i)[i]'(by omega)) := List.getElem?_eq_getElem _
            have qg : wr.cell? ⟨w1.heap.size, i, none⟩ = some (bv ((xfill a b c n1 i)[i]'(by omega))) := (hBr.cell i).trans (bA_at _ _ _ hge)
            have fg : wr.frozen? ⟨w1.heap.size, i, none⟩ = false := hBr.frozen i
            generalize (xfill a b c n1 i)[i]'(by omega) = u0 at *
            unfold bv at qg
            generalize hX : xfill a b c n1 i = X at *
            generalize a[i]'(by rw [← HL.out.1]; omega) = x at *
            generalize b[i]'(by rw [← HL.out.2.1]; omega) = y at *
            generalize c[i]'(by rw [← HL.out.2.2]; omega) = z at *
            have hx8 := x.toNat_lt
            have hy8 := y.toNat_lt
            have e1 := u8_xor_nat x.toNat y.toNat hx8 hy8
            have e2 := u8_xor_nat (x.toNat ^^^ y.toNat) z.toNat (Nat.xor_lt_two_pow (n := 8) hx8 hy8) z.toNat_lt
            have HBV := Lib.hid (show bv (x ^^^ y ^^^ z) = Value.int .u8 ((x.toNat ^^^ y.toNat ^^^ z.toNat : Nat) : Int) from by simp [bv])
            clear hx8 hy8
            have g1 : (i : Int) < (n1 : Int) := by omega
            have g0 : (0 : Int) ≤ (i : Int) := by omega
            have gA : (i : Int) < (n1 : Int) := by omega
            have gB : (i : Int) < (n2 : Int) := by omega
            have gC : (i : Int) < (n3 : Int) := by omega
            clear hX hge hfl
            go_wp2_with fail
            go_still_tail 17, (by kernel_rfl)
            change wpList _ _ _ _ _ wr.drew
            go_wp2
            go_roundw
            case rel =>
              refine ⟨i + 1, by go_num, by omega, (belowSet2 hgw hbr).drew, (hkr.setCell (p := ⟨w1.heap.size, i, none⟩) hBr.off _).drew, ?_⟩
              have hb := (hBr.set_ i (bv (x ^^^ y ^^^ z))).drew
              rw [bA_set, HST.out, HBV.out] at hb
              exact hb
            case measure => simp [intOf]; omega
          · obtain rfl : i = n1 := by omega
            have hfl := xfill_len a b c i i (Nat.le_refl _) (by rw [← HL.out.1]; omega) (by rw [← HL.out.2.1]; omega) (by rw [← HL.out.2.2]; omega)
            obtain ⟨D2, hG2, hle2, hat2, _⟩ := pubW (Grow.of_below hk hbr) hBr hgw
            have hbx : BS D2 (.slice (some ⟨w1.heap.size, 0, none⟩) i i) (xfill a b c i i) := bs_lit hat2 ⟨rfl, hfl.symm, by rw [hfl]; unfold maxLen; omega⟩
            have hk2 := hG2.keeps
            have HS0 := Lib.hid (fun W (hW : Keeps D2 W) => (sum_c _ i i _ D2 W hW hbx).mono (fun _ _ h => (⟨h.1, h.2.symm⟩ : _ ∧ _)))
            have HS1 := Lib.hid (fun W (hW : Keeps D2 W) => (sum_c A1 i c1 _ D2 W hW ((bs_take h1 i (by omega)).le hle2)).mono (fun _ _ h => (⟨h.1, h.2.symm⟩ : _ ∧ _)))
            have HS2 := Lib.hid (fun W (hW : Keeps D2 W) => (sum_c A2 i c2 _ D2 W hW ((bs_take h2 i (by omega)).le hle2)).mono (fun _ _ h => (⟨h.1, h.2.symm⟩ : _ ∧ _)))
            have HS3 := Lib.hid (fun W (hW : Keeps D2 W) => (sum_c A3 i c3 _ D2 W hW ((bs_take h3 i (by omega)).le hle2)).mono (fun _ _ h => (⟨h.1, h.2.symm⟩ : _ ∧ _)))
            have hcrc : crcF (xfill a b c i i) = crcF (a.take i) ^^^ crcF (b.take i) ^^^ crcF (c.take i) := by
              unfold xfill
              rw [Nat.sub_self, List.replicate_zero, List.append_nil]
              exact crc_affine _ _ _ (by rw [List.length_take, List.length_take]; have := HL.out.1; have := HL.out.2.1; omega) (by rw [List.length_take, List.length_take]; have := HL.out.1; have := HL.out.2.2; omega)
            have k1 := crcF_lt (a.take i)
            have k2 := crcF_lt (b.take i)
            have k3 := crcF_lt (c.take i)
            have e1 := u32_xor_nat (crcF (a.take i)) (crcF (b.take i)) k1 k2
            have e2 := u32_xor_nat (crcF (a.take i) ^^^ crcF (b.take i)) (crcF (c.take i)) (Nat.xor_lt_two_pow (n := 32) k1 k2) k3
            rw [hcrc] at HS0
            generalize crcF (a.take i) ^^^ crcF (b.take i) = x12 at *
            generalize crcF (a.take i) = x1 at *
            generalize crcF (b.take i) = x2 at *
            generalize crcF (c.take i) = x3 at *
            generalize x12 ^^^ x3 = x4 at *
            have gA : (i : Int) ≤ (c1 : Int) := by omega
            have gB : (i : Int) ≤ (c2 : Int) := by omega
            have gC : (i : Int) ≤ (c3 : Int) := by omega
            have gA' : i ≤ c1 := by omega
            have gB' : i ≤ c2 := by omega
            have gC' : i ≤ c3 := by omega
            clear hcrc hfl hbx hat2 k1 k2 k3
            go_wp2_with fail
            go_quiet (first | (with_reducible exact Calls.quiet_of_same (HS0.out _ (hk2.drewN _))) | (with_reducible exact Calls.quiet_of_same (HS1.out _ (hk2.drewN _))) | (with_reducible exact Calls.quiet_of_same (HS2.out _ (hk2.drewN _))) | (with_reducible exact Calls.quiet_of_same (HS3.out _ (hk2.drewN _))))
            go_wp2_with fail
            go_ret
            exact ⟨rfl, belowDrewN hbr nq⟩
      · have g20 : decide (2000 < (n1 : Int)) = true := by simp; omega
        go_wp2_with fail
        go_ret
        exact ⟨rfl, hb1⟩
end Go.Proofs.Ytegkmkglagmdiaa
