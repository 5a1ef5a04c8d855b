/-
  What is proved here: what good reads off a sector
-/
import Derived.Test.YtegkmkglagmdiaaRows
import Derived.Test.YtegkmkglagmdiaaBaseB
import Derived.Test.YtegkmkglagmdiaaCrc
import Derived.Test.YtegkmkglagmdiaaWalP
import Derived.Test.YtegkmkglagmdiaaWalA
import Derived.Test.YtegkmkglagmdiaaWalB
import Derived.Test.YtegkmkglagmdiaaWalC
import Derived.Test.YtegkmkglagmdiaaWalD
import Derived.Test.YtegkmkglagmdiaaWalE
import Derived.Test.YtegkmkglagmdiaaDiskF
import Derived.Laws.BitsAllLaws
import Derived.Deep.RegionHeld3
import Derived.Deep.RegionLaw
import Derived.Deep.DeepCutAuto
import Derived.Deep.QuietTactic
import Derived.BigQuiet
import Derived.Laws.EntriesVeiled
import Derived.Deep.MidRow
import Derived.Laws.CopyRow
namespace Go.Proofs.Ytegkmkglagmdiaa
open Go.RowKit Go.VS
theorem bs_all {D : Gh} {a : Option Addr} {n c : Nat} {bs : List UInt8} (h : BS D (.slice a n c) bs) (h0 : 0 < bs.length) :
    ∃ b o, a = some ⟨b, o, none⟩ ∧ ∀ k w, k < bs.length → Keeps D w → w.cell? ⟨b, o + k, none⟩ = some (.int .u8 ((bs.getD k 0).toNat : Int)) := by
  obtain ⟨a', c', hv, h1, h2, h3, h4⟩ := h
  cases hv
  obtain ⟨b, o, ha, hc⟩ := h4 (by simpa using h0)
  exact ⟨b, o, ha, fun k w hk hw => hw _ _ _ (hc k _ (by simp [List.getElem?_eq_getElem hk, bv, List.getD]))⟩
theorem okS_1 (b : List UInt8) (k : Nat) (h : ¬ (num4 b ≠ 0 ∧ num4 (b.drop 124) = num4 b ∧ num4 (b.drop 4) = crcF ((b.drop 8).take 116))) : okS b k = false := by
  unfold okS; rw [decide_eq_false h]; rfl
theorem okS_2 (b : List UInt8) (k : Nat) (h : ¬ ((b.getD 8 0).toNat * 256 + (b.getD 9 0).toNat = k ∧ flagS b ≤ 3 ∧ lenS b ≤ 112)) : okS b k = false := by
  unfold okS; rw [decide_eq_false h]; simp
def sec0 : Value := .agg #[.int .u32 0, .int .i64 0, .slice none 0 0]
/-- what good returns. -/
def GPost (D : Gh) (w : World) (b : List UInt8) (k : Nat) (e : Ending) (w' : World) : Prop :=
  Below w.heap.size w w' ∧ ((okS b k = true ∧ ∃ A' c', e = .returned (.tuple #[.agg #[.int .u32 (num4 b : Nat), .int .i64 (flagS b : Nat), .slice A' (lenS b) c'], .bool true]) ∧ BS D (.slice A' (lenS b) c') (dataS b)) ∨
    (okS b k = false ∧ e = .returned (.tuple #[sec0, .bool false])))
theorem sl_lo (b o c k : Nat) (hc : 128 ≤ c) (hk : k < 128) (W : World) : (Instr.slice 32 (.slice (some ⟨b, o, none⟩) 128 c) (some (.int .i64 k)) none none).run Try.prog W = .ok (.slice (some ⟨b, o + k, none⟩) (128 - k) (c - k)) W := by
  have h := run_slice_low (P := Try.prog) Try.underlying32 size5 b o 128 c k (by omega) W
  rw [if_neg (by omega)] at h
  exact h
theorem slice_mid {P : Program} {t e : TypeId} (ht : P.underlying t = some (.slice e)) (hi : (P.info? e).map (·.size) = some 1) (b o n c lo hi' : Nat) (h1 : lo ≤ hi') (h2 : hi' ≤ c) (h3 : lo < c) (w : World) :
    (Instr.slice t (.slice (some ⟨b, o, none⟩) n c) (some (.int .i64 lo)) (some (.int .i64 hi')) none).run P w = .ok (.slice (some ⟨b, o + lo, none⟩) (hi' - lo) (c - lo)) w := by
  obtain ⟨i, hi', hs⟩ : ∃ i, P.info? e = some i ∧ i.size = 1 := by
    cases h : P.info? e with
    | none => rw [h] at hi; cases hi
    | some i => rw [h] at hi; exact ⟨i, rfl, by simpa using hi⟩
  have h4 : ¬ c = lo := by omega
  simp [Instr.slice, run_underlying ht, Instr.sliceBounds, Instr.sliceBound, asIntOf, h1, h2, h4, sizeOf, typeInfo, hi', hs, Addr.add_lit]
theorem i64_or_nat (a b : Nat) (ha : a < 65536) (hb : b < 65536) : bits .or .i64 (a : Int) (b : Int) = ((a ||| b : Nat) : Int) := by
  have hx : a ||| b < 2 ^ 16 := Nat.or_lt_two_pow (by omega) (by omega)
  show IntKind.i64.wrap ((BitVec.ofInt 64 (a : Int) ||| BitVec.ofInt 64 (b : Int)).toNat : Int) = _
  rw [BitVec.toNat_or, BitVec.ofInt_natCast, BitVec.toNat_ofNat, BitVec.ofInt_natCast, BitVec.toNat_ofNat, Nat.mod_eq_of_lt (by omega), Nat.mod_eq_of_lt (by omega), IntKind.wrap_i64]
  omega
theorem or_2b (x y : Nat) (hx : x < 256) (hy : y < 256) : bits .or .i64 ((x : Int) * 256) (y : Int) = (x : Int) * 256 + (y : Int) := by
  have h := i64_or_nat (x * 256) y (by omega) (by omega)
  rw [show x * 256 ||| y = x * 256 + y by
    have := or_add x y 8 0 (by omega)
    rw [show x * 2 ^ 8 = x * 256 by omega, show y * 2 ^ 0 = y by omega] at this
    exact this] at h
  rw [show (x : Int) * 256 = ((x * 256 : Nat) : Int) by simp, h]
  simp
theorem okS_3 (b : List UInt8) (k n j : Nat) (hn : lenS b = n) (hbl : b.length = 128) (hj : j < 112 - n) (h : b.getD (12 + n + j) 0 ≠ 0) : okS b k = false := by
  unfold okS
  rw [hn]
  have : ((b.drop (12 + n)).take (112 - n)).all (· == 0) = false := by
    rw [Bool.eq_false_iff]
    intro ha
    rw [List.all_eq_true] at ha
    have hm : b.getD (12 + n + j) 0 ∈ (b.drop (12 + n)).take (112 - n) := by
      rw [List.getD_eq_getElem?_getD, List.getElem?_eq_getElem (by omega), Option.getD_some]
      rw [List.mem_take_iff_getElem]
      exact ⟨j, by simp; omega, by simp⟩
    exact h (by simpa using ha _ hm)
  rw [this]; simp
theorem all_zero (b : List UInt8) (n : Nat) (hbl : b.length = 128) (h : ∀ j, j < 112 - n → b.getD (12 + n + j) 0 = 0) : ((b.drop (12 + n)).take (112 - n)).all (· == 0) = true := by
  rw [List.all_eq_true]
  intro x hx
  rw [List.mem_take_iff_getElem] at hx
  obtain ⟨j, hj, rfl⟩ := hx
  have hj2 : j < 112 - n := by omega
  have := h j hj2
  rw [List.getD_eq_getElem?_getD, List.getElem?_eq_getElem (by simp at hj; omega), Option.getD_some] at this
  simpa using this
theorem okS_4 (b : List UInt8) (k : Nat) (h1 : num4 b ≠ 0 ∧ num4 (b.drop 124) = num4 b ∧ num4 (b.drop 4) = crcF ((b.drop 8).take 116)) (h2 : (b.getD 8 0).toNat * 256 + (b.getD 9 0).toNat = k ∧ flagS b ≤ 3 ∧ lenS b ≤ 112)
    (h3 : ((b.drop (12 + lenS b)).take (112 - lenS b)).all (· == 0) = true) : okS b k = decide ((2 ≤ flagS b ∨ lenS b = 112) ∧ (flagS b % 2 = 1 ∨ lenS b ≠ 0)) := by
  unfold okS; rw [decide_eq_true h1, decide_eq_true h2, h3]; simp
theorem and_21 (x : Nat) (hx : x ≤ 3) : ∃ A B : Nat, bits .and .i64 (x : Int) 2 = (A : Int) ∧ bits .and .i64 (x : Int) 1 = (B : Int) ∧ (A = 0 ↔ ¬ 2 ≤ x) ∧ (B = 0 ↔ ¬ x % 2 = 1) := by
  obtain rfl | rfl | rfl | rfl : x = 0 ∨ x = 1 ∨ x = 2 ∨ x = 3 := by omega
  · exact ⟨0, 0, by decide, by decide, by decide, by decide⟩
  · exact ⟨0, 1, by decide, by decide, by decide, by decide⟩
  · exact ⟨2, 0, by decide, by decide, by decide, by decide⟩
  · exact ⟨2, 1, by decide, by decide, by decide, by decide⟩
theorem bs_sub {D : Gh} {b o n c : Nat} {bs : List UInt8} (h : BS D (.slice (some ⟨b, o, none⟩) n c) bs) (k m : Nat) (hk : k + m ≤ n) : BS D (.slice (some ⟨b, o + k, none⟩) m (c - k)) ((bs.drop k).take m) := by
  have h1 : Sl D (.slice (some ⟨b, o + k, none⟩) (n - k) (c - k)) ((bs.map bv).drop k) := Sl.drop h (by omega)
  have h2 := Sl.take h1 (k := m) (by omega)
  unfold BS
  rw [List.map_take, List.map_drop]
  exact h2
set_option maxRecDepth 100000 in
set_option maxHeartbeats 20000000 in
theorem good_c (A : Option Addr) (c : Nat) (b : List UInt8) (k : Nat) (_hk16 : k < 65536) (D : Gh) (w : World) (hk : Keeps D w) (hs : BS D (.slice A 128 c) b) :
    Calls Try.prog 65 #[.slice A 128 c, .int .i64 k] w (GPost D w b k) := by
  obtain ⟨hn1, hn2, hn3⟩ := hs.len
  have hbl : b.length = 128 := hn1.symm
  unfold maxLen at hn3
  obtain ⟨bb, o, rfl, hcell⟩ := bs_all hs (by omega)
  have HBL := Lib.hid hbl
  clear hn1 hbl
  have hB := Box.new hk 84 #[.int .u32 0, .int .i64 0, .slice none 0 0]
  have hk0 := hk.alloc (.cells #[.int .u32 0, .int .i64 0, .slice none 0 0] 84)
  have hbel0 : Below w.heap.size w (w.alloc (.cells #[.int .u32 0, .int .i64 0, .slice none 0 0] 84)) := (by repeat (first | (with_reducible exact Below.refl _ _) | (with_reducible refine Below.drew ?_) | (with_reducible refine belowDrewN ?_ _) | (with_reducible refine belowAlloc ?_ _) | ((with_reducible refine belowSet2 ?_ ?_); omega) | (with_reducible assumption) | (with_reducible refine belowVia (by assumption) ?_) | (with_reducible refine belowVia (Grow.below (by assumption)) ?_)))
  have q0 := hB.cell 0
  have q1 := hB.cell 1
  have q2 := hB.cell 2
  have f := hB.frozen
  go_enter Try.func65, Try.ntmps65
  go_wp2_with fail
  refine (number_c _ 128 c b (by omega) D _ hk0 hs).mono ?_
  rintro e w1 ⟨rfl, mm, rfl⟩
  have hk1 := hk0.drewN mm
  have hbel1 := belowDrewN hbel0 mm
  have hBd : Box ((w.alloc (.cells #[.int .u32 0, .int .i64 0, .slice none 0 0] 84)).drewN mm) D w.heap.size 84 #[.int .u32 0, .int .i64 0, .slice none 0 0] := ⟨hB.heap, hB.off⟩
  clear q0 q1 q2 f hk0 hbel0 hB
  generalize (w.alloc (.cells #[.int .u32 0, .int .i64 0, .slice none 0 0] 84)).drewN mm = W1 at *
  have q0 := hBd.cell 0
  have f := hBd.frozen
  go_wp2_with fail
  have hbs1 : BS D (.slice (some ⟨bb, o + 124, none⟩) 4 (c - 124)) ((b.drop 124).take 4) := bs_sub hs 124 4 (by omega)
  have hbs2 : BS D (.slice (some ⟨bb, o + 4, none⟩) 124 (c - 4)) ((b.drop 4).take 124) := bs_sub hs 4 124 (by omega)
  have hbs3 : BS D (.slice (some ⟨bb, o + 8, none⟩) 116 (c - 8)) ((b.drop 8).take 116) := bs_sub hs 8 116 (by omega)
  have e124 : (b.drop 124).take 4 = b.drop 124 := List.take_of_length_le (by rw [List.length_drop, HBL.out]; omega)
  have e4 : (b.drop 4).take 124 = b.drop 4 := List.take_of_length_le (by rw [List.length_drop, HBL.out]; omega)
  rw [e124] at hbs1
  rw [e4] at hbs2
  have HN1 := Lib.hid (fun W hW => number_c _ 4 _ (b.drop 124) (by omega) D W hW hbs1)
  have HN2 := Lib.hid (fun W hW => number_c _ 124 _ (b.drop 4) (by omega) D W hW hbs2)
  have HSM := Lib.hid (fun W hW => (sum_c _ 116 _ ((b.drop 8).take 116) D W hW hbs3).mono (fun _ _ h => (⟨h.1, h.2.symm⟩ : _ ∧ _)))
  have hsl1 : ∀ W, (Instr.slice 32 (.slice (some ⟨bb, o, none⟩) 128 c) (some (.int .i64 124)) none none).run Try.prog W = .ok (.slice (some ⟨bb, o + 124, none⟩) 4 (c - 124)) W := fun W => sl_lo bb o c 124 hn2 (by omega) W
  have hsl2 : ∀ W, (Instr.slice 32 (.slice (some ⟨bb, o, none⟩) 128 c) (some (.int .i64 4)) none none).run Try.prog W = .ok (.slice (some ⟨bb, o + 4, none⟩) 124 (c - 4)) W := fun W => sl_lo bb o c 4 hn2 (by omega) W
  have hsl3 : ∀ W, (Instr.slice 32 (.slice (some ⟨bb, o, none⟩) 128 c) (some (.int .i64 8)) (some (.int .i64 124)) none).run Try.prog W = .ok (.slice (some ⟨bb, o + 8, none⟩) 116 (c - 8)) W := fun W => slice_mid (P := Try.prog) Try.underlying32 size5 bb o 128 c 8 124 (by omega) (by omega) (by omega) W
  have hBx : Box (W1.setCell ⟨w.heap.size, 0, none⟩ (.int .u32 (num4 b : Nat))) D w.heap.size 84 #[.int .u32 (num4 b : Nat), .int .i64 0, .slice none 0 0] := hBd.set_ 0 _
  have hkx : Keeps D (W1.setCell ⟨w.heap.size, 0, none⟩ (.int .u32 (num4 b : Nat))) := hk1.setCell (p := ⟨w.heap.size, 0, none⟩) hBd.off _
  have hbelx : Below w.heap.size w (W1.setCell ⟨w.heap.size, 0, none⟩ (.int .u32 (num4 b : Nat))) := hbel1.setCell (p := ⟨w.heap.size, 0, none⟩) (Nat.le_refl _) _
  have hok1 := okS_1 b k
  have HOK1 := Lib.hid hok1
  have HS := Lib.hid hs
  clear hbs1 hbs2 hbs3 e124 e4 hBd hk1 hbel1 q0 f hok1 hs
  have hc0 := hBx.cell 0
  generalize hG : num4 b = G at *
  generalize hE1 : num4 (b.drop 124) = E1 at *
  generalize hE2 : num4 (b.drop 4) = E2 at *
  generalize hCR : crcF ((b.drop 8).take 116) = CR at *
  have HG := Lib.hid hG
  have HE1 := Lib.hid hE1
  have HE2 := Lib.hid hE2
  have HCR := Lib.hid hCR
  clear hG hE1 hE2 hCR
  by_cases h0 : G = 0
  · have hok := HOK1.out (fun h => h.1 h0)
    have g0 : ((G : Int) == 0) = true := by simp [h0]
    clear h0
    go_quiet (first | (with_reducible exact Calls.quiet_of (HN1.out _ (hkx.drewN _))) | (with_reducible exact Calls.quiet_of (HN2.out _ (hkx.drewN _))) | (with_reducible exact Calls.quiet_of_same (HSM.out _ (hkx.drewN _))))
    have hky := hkx.drewN nq
    have hBy : Box ((W1.setCell ⟨w.heap.size, 0, none⟩ (.int .u32 (G : Int))).drewN nq) D w.heap.size 84 #[.int .u32 (G : Int), .int .i64 0, .slice none 0 0] := ⟨hBx.heap, hBx.off⟩
    have hbely := belowDrewN hbelx nq
    generalize (W1.setCell ⟨w.heap.size, 0, none⟩ (.int .u32 (G : Int))).drewN nq = W2 at *
    clear hkx hBx hbelx
    have hz84 : (Try.prog.info? 84).map (·.size) = some (#[Value.int .u32 0, .int .i64 0, .slice none 0 0] : Array Value).size := by kernel_rfl
    have ho84 : (#[Value.int .u32 0, .int .i64 0, .slice none 0 0] : Array Value).all (·.oneCell') = true := by kernel_rfl
    go_wp2_with (refine wpList_store_row rfl 84 _ _ rfl w.heap.size #[.int .u32 0, .int .i64 0, .slice none 0 0] rfl rfl 84 _ hBy.heap hz84 rfl ho84 ?_)
    have hBz := setRowW hBy #[.int .u32 0, .int .i64 0, .slice none 0 0]
    have hbelz : Below w.heap.size w (W2.setRow w.heap.size #[.int .u32 0, .int .i64 0, .slice none 0 0]) := belowRowW hbely (Nat.le_refl _) _
    generalize W2.setRow w.heap.size #[.int .u32 0, .int .i64 0, .slice none 0 0] = W3 at *
    have q0 : W3.cell? ⟨w.heap.size, 0, none⟩ = some (.int .u32 0) := hBz.cell 0
    have q1 : W3.cell? ⟨w.heap.size, 1, none⟩ = some (.int .i64 0) := hBz.cell 1
    have q2 : W3.cell? ⟨w.heap.size, 2, none⟩ = some (.slice none 0 0) := hBz.cell 2
    have HOK := Lib.hid hok
    clear hok
    go_wp2_with fail
    exact bodyPost_ret (v := .tuple #[sec0, .bool false]) (by simp [results, Try.results65, go_sem, q0, q1, q2, sec0]; try rfl) rfl ⟨hbelz, .inr ⟨HOK.out, rfl⟩⟩
  have g0 : ((G : Int) == 0) = false := by simp; exact h0
  by_cases h1 : ¬ E1 = G
  · have hok := HOK1.out (fun h => h1 h.2.1)
    have g1 : ((E1 : Int) != (G : Int)) = true := by simp; omega
    clear h0 h1
    go_quiet (first | (with_reducible exact Calls.quiet_of (HN1.out _ (hkx.drewN _))) | (with_reducible exact Calls.quiet_of (HN2.out _ (hkx.drewN _))) | (with_reducible exact Calls.quiet_of_same (HSM.out _ (hkx.drewN _))))
    have hky := hkx.drewN nq
    have hBy : Box ((W1.setCell ⟨w.heap.size, 0, none⟩ (.int .u32 (G : Int))).drewN nq) D w.heap.size 84 #[.int .u32 (G : Int), .int .i64 0, .slice none 0 0] := ⟨hBx.heap, hBx.off⟩
    have hbely := belowDrewN hbelx nq
    generalize (W1.setCell ⟨w.heap.size, 0, none⟩ (.int .u32 (G : Int))).drewN nq = W2 at *
    clear hkx hBx hbelx
    have hz84 : (Try.prog.info? 84).map (·.size) = some (#[Value.int .u32 0, .int .i64 0, .slice none 0 0] : Array Value).size := by kernel_rfl
    have ho84 : (#[Value.int .u32 0, .int .i64 0, .slice none 0 0] : Array Value).all (·.oneCell') = true := by kernel_rfl
    go_wp2_with (refine wpList_store_row rfl 84 _ _ rfl w.heap.size #[.int .u32 0, .int .i64 0, .slice none 0 0] rfl rfl 84 _ hBy.heap hz84 rfl ho84 ?_)
    have hBz := setRowW hBy #[.int .u32 0, .int .i64 0, .slice none 0 0]
    have hbelz : Below w.heap.size w (W2.setRow w.heap.size #[.int .u32 0, .int .i64 0, .slice none 0 0]) := belowRowW hbely (Nat.le_refl _) _
    generalize W2.setRow w.heap.size #[.int .u32 0, .int .i64 0, .slice none 0 0] = W3 at *
    have q0 : W3.cell? ⟨w.heap.size, 0, none⟩ = some (.int .u32 0) := hBz.cell 0
    have q1 : W3.cell? ⟨w.heap.size, 1, none⟩ = some (.int .i64 0) := hBz.cell 1
    have q2 : W3.cell? ⟨w.heap.size, 2, none⟩ = some (.slice none 0 0) := hBz.cell 2
    have HOK := Lib.hid hok
    clear hok
    go_wp2_with fail
    exact bodyPost_ret (v := .tuple #[sec0, .bool false]) (by simp [results, Try.results65, go_sem, q0, q1, q2, sec0]; try rfl) rfl ⟨hbelz, .inr ⟨HOK.out, rfl⟩⟩
  have h1' := Classical.not_not.mp h1
  clear h1
  subst h1'
  by_cases h2 : ¬ E2 = CR
  · have hok := HOK1.out (fun h => h2 h.2.2)
    have g2 : ((E2 : Int) != (CR : Int)) = true := by simp; omega
    clear h0 h2
    go_quiet (first | (with_reducible exact Calls.quiet_of (HN1.out _ (hkx.drewN _))) | (with_reducible exact Calls.quiet_of (HN2.out _ (hkx.drewN _))) | (with_reducible exact Calls.quiet_of_same (HSM.out _ (hkx.drewN _))))
    have hky := hkx.drewN nq
    have hBy : Box ((W1.setCell ⟨w.heap.size, 0, none⟩ (.int .u32 (E1 : Int))).drewN nq) D w.heap.size 84 #[.int .u32 (E1 : Int), .int .i64 0, .slice none 0 0] := ⟨hBx.heap, hBx.off⟩
    have hbely := belowDrewN hbelx nq
    generalize (W1.setCell ⟨w.heap.size, 0, none⟩ (.int .u32 (E1 : Int))).drewN nq = W2 at *
    clear hkx hBx hbelx
    have hz84 : (Try.prog.info? 84).map (·.size) = some (#[Value.int .u32 0, .int .i64 0, .slice none 0 0] : Array Value).size := by kernel_rfl
    have ho84 : (#[Value.int .u32 0, .int .i64 0, .slice none 0 0] : Array Value).all (·.oneCell') = true := by kernel_rfl
    go_wp2_with (refine wpList_store_row rfl 84 _ _ rfl w.heap.size #[.int .u32 0, .int .i64 0, .slice none 0 0] rfl rfl 84 _ hBy.heap hz84 rfl ho84 ?_)
    have hBz := setRowW hBy #[.int .u32 0, .int .i64 0, .slice none 0 0]
    have hbelz : Below w.heap.size w (W2.setRow w.heap.size #[.int .u32 0, .int .i64 0, .slice none 0 0]) := belowRowW hbely (Nat.le_refl _) _
    generalize W2.setRow w.heap.size #[.int .u32 0, .int .i64 0, .slice none 0 0] = W3 at *
    have q0 : W3.cell? ⟨w.heap.size, 0, none⟩ = some (.int .u32 0) := hBz.cell 0
    have q1 : W3.cell? ⟨w.heap.size, 1, none⟩ = some (.int .i64 0) := hBz.cell 1
    have q2 : W3.cell? ⟨w.heap.size, 2, none⟩ = some (.slice none 0 0) := hBz.cell 2
    have HOK := Lib.hid hok
    clear hok
    go_wp2_with fail
    exact bodyPost_ret (v := .tuple #[sec0, .bool false]) (by simp [results, Try.results65, go_sem, q0, q1, q2, sec0]; try rfl) rfl ⟨hbelz, .inr ⟨HOK.out, rfl⟩⟩
  have h2' := Classical.not_not.mp h2
  clear h2
  subst h2'
  go_quiet (first | (with_reducible exact Calls.quiet_of (HN1.out _ (hkx.drewN _))) | (with_reducible exact Calls.quiet_of (HN2.out _ (hkx.drewN _))) | (with_reducible exact Calls.quiet_of_same (HSM.out _ (hkx.drewN _))))
  have hky := hkx.drewN nq
  have hBy : Box ((W1.setCell ⟨w.heap.size, 0, none⟩ (.int .u32 (E1 : Int))).drewN nq) D w.heap.size 84 #[.int .u32 (E1 : Int), .int .i64 0, .slice none 0 0] := ⟨hBx.heap, hBx.off⟩
  have hbely := belowDrewN hbelx nq
  generalize (W1.setCell ⟨w.heap.size, 0, none⟩ (.int .u32 (E1 : Int))).drewN nq = W2 at *
  clear hkx hBx hbelx
  go_wp2_with fail
  have hbl := HBL.out
  have c8 : W2.cell? ⟨bb, o + 8, none⟩ = some (.int .u8 ((b.getD 8 0).toNat : Int)) := hcell 8 W2 (by omega) hky
  have c9 : W2.cell? ⟨bb, o + 9, none⟩ = some (.int .u8 ((b.getD 9 0).toNat : Int)) := hcell 9 W2 (by omega) hky
  have c10 : W2.cell? ⟨bb, o + 10, none⟩ = some (.int .u8 ((b.getD 10 0).toNat : Int)) := hcell 10 W2 (by omega) hky
  have c11 : W2.cell? ⟨bb, o + 11, none⟩ = some (.int .u8 ((b.getD 11 0).toNat : Int)) := hcell 11 W2 (by omega) hky
  have b8 := (b.getD 8 0).toNat_lt
  have b9 := (b.getD 9 0).toNat_lt
  have b10 := (b.getD 10 0).toNat_lt
  have b11 := (b.getD 11 0).toNat_lt
  have hok2 : ¬ ((b.getD 8 0).toNat * 256 + (b.getD 9 0).toNat = k ∧ (b.getD 10 0).toNat ≤ 3 ∧ (b.getD 11 0).toNat ≤ 112) → okS b k = false := okS_2 b k
  have HOK2 := Lib.hid hok2
  have HF := Lib.hid (show flagS b = (b.getD 10 0).toNat from rfl)
  have HL := Lib.hid (show lenS b = (b.getD 11 0).toNat from rfl)
  clear hbl hok2
  clear HN1 HN2 HSM HOK1 hsl1 hsl2 hsl3
  generalize hx8 : (b.getD 8 0).toNat = x8 at c8 b8 HOK2
  generalize hx9 : (b.getD 9 0).toNat = x9 at c9 b9 HOK2
  have HK8 := Lib.hid hx8
  have HK9 := Lib.hid hx9
  clear hx8 hx9
  generalize (b.getD 10 0).toNat = x10 at c10 b10 HOK2 HF
  generalize (b.getD 11 0).toNat = x11 at c11 b11 HOK2 HL
  have v8 : IntKind.i64.wrap (x8 : Int) = x8 := by rw [IntKind.wrap_i64]; omega
  have v9 : IntKind.i64.wrap (x9 : Int) = x9 := by rw [IntKind.wrap_i64]; omega
  have v8' : IntKind.i64.wrap ((x8 : Int) * 256) = (x8 : Int) * 256 := by rw [IntKind.wrap_i64]; omega
  have e89 := or_2b x8 x9 b8 b9
  by_cases h3 : ¬ x8 * 256 + x9 = k
  · have hok := HOK2.out (fun h => h3 h.1)
    have g3 : ((x8 : Int) * 256 + (x9 : Int) != (k : Int)) = true := by simp; omega
    clear h3 b8 b9 b10 b11
    go_quiet (fail)
    have hkx := hky.drewN nq
    have hBx : Box (W2.drewN nq) D w.heap.size 84 #[.int .u32 (E1 : Int), .int .i64 0, .slice none 0 0] := ⟨hBy.heap, hBy.off⟩
    have hbelx := belowDrewN hbely nq
    generalize W2.drewN nq = W3 at *
    clear hky hBy hbely
    have hz84 : (Try.prog.info? 84).map (·.size) = some (#[Value.int .u32 0, .int .i64 0, .slice none 0 0] : Array Value).size := by kernel_rfl
    have ho84 : (#[Value.int .u32 0, .int .i64 0, .slice none 0 0] : Array Value).all (·.oneCell') = true := by kernel_rfl
    go_wp2_with (refine wpList_store_row rfl 84 _ _ rfl w.heap.size #[.int .u32 0, .int .i64 0, .slice none 0 0] rfl rfl 84 _ hBx.heap hz84 rfl ho84 ?_)
    have hBz := setRowW hBx #[.int .u32 0, .int .i64 0, .slice none 0 0]
    have hbelz : Below w.heap.size w (W3.setRow w.heap.size #[.int .u32 0, .int .i64 0, .slice none 0 0]) := belowRowW hbelx (Nat.le_refl _) _
    generalize W3.setRow w.heap.size #[.int .u32 0, .int .i64 0, .slice none 0 0] = W4 at *
    have q0 : W4.cell? ⟨w.heap.size, 0, none⟩ = some (.int .u32 0) := hBz.cell 0
    have q1 : W4.cell? ⟨w.heap.size, 1, none⟩ = some (.int .i64 0) := hBz.cell 1
    have q2 : W4.cell? ⟨w.heap.size, 2, none⟩ = some (.slice none 0 0) := hBz.cell 2
    have HOK := Lib.hid hok
    clear hok
    go_wp2_with fail
    exact bodyPost_ret (v := .tuple #[sec0, .bool false]) (by simp [results, Try.results65, go_sem, q0, q1, q2, sec0]; try rfl) rfl ⟨hbelz, .inr ⟨HOK.out, rfl⟩⟩
  have h3' := Classical.not_not.mp h3
  have g3 : ((x8 : Int) * 256 + (x9 : Int) != (k : Int)) = false := by simp; omega
  clear h3
  by_cases h4 : ¬ x10 ≤ 3
  · have hok := HOK2.out (fun h => h4 h.2.1)
    have g4 : decide (3 < (x10 : Int)) = true := by simp; omega
    clear h4 h3' b8 b9 b10 b11
    go_quiet (fail)
    have hkx := hky.drewN nq
    have hBx : Box (W2.drewN nq) D w.heap.size 84 #[.int .u32 (E1 : Int), .int .i64 0, .slice none 0 0] := ⟨hBy.heap, hBy.off⟩
    have hbelx := belowDrewN hbely nq
    generalize W2.drewN nq = W3 at *
    clear hky hBy hbely
    have hz84 : (Try.prog.info? 84).map (·.size) = some (#[Value.int .u32 0, .int .i64 0, .slice none 0 0] : Array Value).size := by kernel_rfl
    have ho84 : (#[Value.int .u32 0, .int .i64 0, .slice none 0 0] : Array Value).all (·.oneCell') = true := by kernel_rfl
    go_wp2_with (refine wpList_store_row rfl 84 _ _ rfl w.heap.size #[.int .u32 0, .int .i64 0, .slice none 0 0] rfl rfl 84 _ hBx.heap hz84 rfl ho84 ?_)
    have hBz := setRowW hBx #[.int .u32 0, .int .i64 0, .slice none 0 0]
    have hbelz : Below w.heap.size w (W3.setRow w.heap.size #[.int .u32 0, .int .i64 0, .slice none 0 0]) := belowRowW hbelx (Nat.le_refl _) _
    generalize W3.setRow w.heap.size #[.int .u32 0, .int .i64 0, .slice none 0 0] = W4 at *
    have q0 : W4.cell? ⟨w.heap.size, 0, none⟩ = some (.int .u32 0) := hBz.cell 0
    have q1 : W4.cell? ⟨w.heap.size, 1, none⟩ = some (.int .i64 0) := hBz.cell 1
    have q2 : W4.cell? ⟨w.heap.size, 2, none⟩ = some (.slice none 0 0) := hBz.cell 2
    have HOK := Lib.hid hok
    clear hok
    go_wp2_with fail
    exact bodyPost_ret (v := .tuple #[sec0, .bool false]) (by simp [results, Try.results65, go_sem, q0, q1, q2, sec0]; try rfl) rfl ⟨hbelz, .inr ⟨HOK.out, rfl⟩⟩
  have h4' := Classical.not_not.mp h4
  have g4 : decide (3 < (x10 : Int)) = false := by simp; omega
  clear h4
  by_cases h5 : ¬ x11 ≤ 112
  · have hok := HOK2.out (fun h => h5 h.2.2)
    have g5 : decide (112 < (x11 : Int)) = true := by simp; omega
    clear h5 h4' h3' b8 b9 b10 b11
    go_quiet (fail)
    have hkx := hky.drewN nq
    have hBx : Box (W2.drewN nq) D w.heap.size 84 #[.int .u32 (E1 : Int), .int .i64 0, .slice none 0 0] := ⟨hBy.heap, hBy.off⟩
    have hbelx := belowDrewN hbely nq
    generalize W2.drewN nq = W3 at *
    clear hky hBy hbely
    have hz84 : (Try.prog.info? 84).map (·.size) = some (#[Value.int .u32 0, .int .i64 0, .slice none 0 0] : Array Value).size := by kernel_rfl
    have ho84 : (#[Value.int .u32 0, .int .i64 0, .slice none 0 0] : Array Value).all (·.oneCell') = true := by kernel_rfl
    go_wp2_with (refine wpList_store_row rfl 84 _ _ rfl w.heap.size #[.int .u32 0, .int .i64 0, .slice none 0 0] rfl rfl 84 _ hBx.heap hz84 rfl ho84 ?_)
    have hBz := setRowW hBx #[.int .u32 0, .int .i64 0, .slice none 0 0]
    have hbelz : Below w.heap.size w (W3.setRow w.heap.size #[.int .u32 0, .int .i64 0, .slice none 0 0]) := belowRowW hbelx (Nat.le_refl _) _
    generalize W3.setRow w.heap.size #[.int .u32 0, .int .i64 0, .slice none 0 0] = W4 at *
    have q0 : W4.cell? ⟨w.heap.size, 0, none⟩ = some (.int .u32 0) := hBz.cell 0
    have q1 : W4.cell? ⟨w.heap.size, 1, none⟩ = some (.int .i64 0) := hBz.cell 1
    have q2 : W4.cell? ⟨w.heap.size, 2, none⟩ = some (.slice none 0 0) := hBz.cell 2
    have HOK := Lib.hid hok
    clear hok
    go_wp2_with fail
    exact bodyPost_ret (v := .tuple #[sec0, .bool false]) (by simp [results, Try.results65, go_sem, q0, q1, q2, sec0]; try rfl) rfl ⟨hbelz, .inr ⟨HOK.out, rfl⟩⟩
  have h5' := Classical.not_not.mp h5
  have g5 : decide (112 < (x11 : Int)) = false := by simp; omega
  clear h5 b11
  go_quiet (fail)
  have hkx := hky.drewN nq
  have hBx : Box (W2.drewN nq) D w.heap.size 84 #[.int .u32 (E1 : Int), .int .i64 0, .slice none 0 0] := ⟨hBy.heap, hBy.off⟩
  have hbelx := belowDrewN hbely nq
  generalize W2.drewN nq = W3 at *
  clear hky hBy hbely
  have hbl := HBL.out
  have c10 : W3.cell? ⟨bb, o + 10, none⟩ = some (.int .u8 (x10 : Int)) := by
    have h := hcell 10 W3 (by omega) hkx
    rw [show (b.getD 10 0).toNat = x10 from HF.out] at h
    exact h
  have v10 : IntKind.i64.wrap (x10 : Int) = x10 := by rw [IntKind.wrap_i64]; omega
  have v11 : IntKind.i64.wrap (x11 : Int) = x11 := by rw [IntKind.wrap_i64]; omega
  have v12 : IntKind.i64.wrap (12 + (x11 : Int)) = 12 + (x11 : Int) := by rw [IntKind.wrap_i64]; omega
  have f := hBx.frozen
  have q1 : W3.cell? ⟨w.heap.size, 1, none⟩ = some (.int .i64 0) := hBx.cell 1
  have q2 : W3.cell? ⟨w.heap.size, 2, none⟩ = some (.slice none 0 0) := hBx.cell 2
  have hB4 : Box (W3.setCell ⟨w.heap.size, 1, none⟩ (.int .i64 (x10 : Int))) D w.heap.size 84 #[.int .u32 (E1 : Int), .int .i64 (x10 : Int), .slice none 0 0] := hBx.set_ 1 (.int .i64 (x10 : Int))
  have hk4 := hkx.setCell (p := ⟨w.heap.size, 1, none⟩) hBx.off (.int .i64 (x10 : Int))
  have hbel4 := hbelx.setCell (p := ⟨w.heap.size, 1, none⟩) (Nat.le_refl _) (.int .i64 (x10 : Int))
  have c11 : (W3.setCell ⟨w.heap.size, 1, none⟩ (.int .i64 (x10 : Int))).cell? ⟨bb, o + 11, none⟩ = some (.int .u8 (x11 : Int)) := by
    have h := hcell 11 _ (by omega) hk4
    rw [show (b.getD 11 0).toNat = x11 from HL.out] at h
    exact h
  clear hbl c8 c9
  have hsl4 : ∀ W, (Instr.slice 32 (.slice (some ⟨bb, o, none⟩) 128 c) (some (.int .i64 12)) (some (.int .i64 (12 + (x11 : Int)))) none).run Try.prog W = .ok (.slice (some ⟨bb, o + 12, none⟩) x11 (c - 12)) W := fun W => by
    have h := slice_mid (P := Try.prog) Try.underlying32 size5 bb o 128 c 12 (12 + x11) (by omega) (by omega) (by omega) W
    rw [show 12 + x11 - 12 = x11 by omega] at h
    simpa using h
  have hsl5 : ∀ W, (Instr.slice 32 (.slice (some ⟨bb, o, none⟩) 128 c) (some (.int .i64 (12 + (x11 : Int)))) (some (.int .i64 124)) none).run Try.prog W = .ok (.slice (some ⟨bb, o + (12 + x11), none⟩) (112 - x11) (c - (12 + x11))) W := fun W => by
    have h := slice_mid (P := Try.prog) Try.underlying32 size5 bb o 128 c (12 + x11) 124 (by omega) (by omega) (by omega) W
    rw [show 124 - (12 + x11) = 112 - x11 by omega] at h
    simpa using h
  have hB5 : Box ((W3.setCell ⟨w.heap.size, 1, none⟩ (.int .i64 (x10 : Int))).setCell ⟨w.heap.size, 2, none⟩ (.slice (some ⟨bb, o + 12, none⟩) x11 (c - 12))) D w.heap.size 84 #[.int .u32 (E1 : Int), .int .i64 (x10 : Int), .slice (some ⟨bb, o + 12, none⟩) x11 (c - 12)] := hB4.set_ 2 _
  have hk5 := hk4.setCell (p := ⟨w.heap.size, 2, none⟩) hB4.off (.slice (some ⟨bb, o + 12, none⟩) x11 (c - 12))
  have hbel5 := hbel4.setCell (p := ⟨w.heap.size, 2, none⟩) (Nat.le_refl _) (.slice (some ⟨bb, o + 12, none⟩) x11 (c - 12))
  go_wp2_with fail
  clear q1 q2 f hB4 hk4 hbel4 c10 c11 hBx hkx hbelx hsl4 hsl5
  generalize (W3.setCell ⟨w.heap.size, 1, none⟩ (.int .i64 (x10 : Int))).setCell ⟨w.heap.size, 2, none⟩ (.slice (some ⟨bb, o + 12, none⟩) x11 (c - 12)) = W5 at *
  go_loop [77] (fun y => ∃ i : Nat, i ≤ 112 - x11 ∧ y = .int .i64 i ∧ Hid (∀ j, j < i → b.getD (12 + x11 + j) 0 = 0)) (fun y => 112 - x11 - (intOf y).toNat)
  case atStart => exact ⟨0, by omega, rfl, Lib.hid (fun j hj => absurd hj (by omega))⟩
  case round =>
    obtain ⟨i, hi, rfl, hz⟩ := hrel
    by_cases hlt : i < 112 - x11
    · have hbl := HBL.out
      have ci := hcell (12 + x11 + i) W5 (by omega) hk5
      rw [← Nat.add_assoc] at ci
      clear hbl
      have HY := Lib.hid (okS_3 b k x11 i HL.out HBL.out hlt)
      have HZ := Lib.hid (fun (h : b.getD (12 + x11 + i) 0 = 0) => (by
        intro j hj
        by_cases e : j = i
        · rw [e]; exact h
        · exact hz.out j (by omega) : ∀ j, j < i + 1 → b.getD (12 + x11 + j) 0 = 0))
      generalize b.getD (12 + x11 + i) 0 = y at *
      have hy0 : y = 0 ↔ y.toNat = 0 := by
        constructor
        · rintro rfl; rfl
        · intro h; exact UInt8.toNat_inj.mp h
      have HY0 := Lib.hid hy0
      clear hy0 hz
      generalize y.toNat = z at *
      have g1 : (i : Int) < ((112 - x11 : Nat) : Int) := by omega
      have g0 : (0 : Int) ≤ (i : Int) := by omega
      by_cases hz0 : z = 0
      · have HZ' := HZ.out (HY0.out.mpr hz0)
        have HZZ := Lib.hid HZ'
        have g2 : ((z : Int) != 0) = false := by simp; exact hz0
        clear hz0 HZ'
        go_wp2
        go_round
        case rel => exact ⟨i + 1, by omega, by go_num, HZZ⟩
        case measure => simp [intOf]; omega
      · have hok := HY.out (fun h => hz0 (HY0.out.mp h))
        have g2 : ((z : Int) != 0) = true := by simp; exact hz0
        clear hz0
        have hz84 : (Try.prog.info? 84).map (·.size) = some (#[Value.int .u32 0, .int .i64 0, .slice none 0 0] : Array Value).size := by kernel_rfl
        have ho84 : (#[Value.int .u32 0, .int .i64 0, .slice none 0 0] : Array Value).all (·.oneCell') = true := by kernel_rfl
        go_wp2_with (refine wpList_store_row rfl 84 _ _ rfl w.heap.size #[.int .u32 0, .int .i64 0, .slice none 0 0] rfl rfl 84 _ hB5.heap hz84 rfl ho84 ?_)
        have hBz := setRowW hB5 #[.int .u32 0, .int .i64 0, .slice none 0 0]
        have hbelz : Below w.heap.size w (W5.setRow w.heap.size #[.int .u32 0, .int .i64 0, .slice none 0 0]) := belowRowW hbel5 (Nat.le_refl _) _
        generalize W5.setRow w.heap.size #[.int .u32 0, .int .i64 0, .slice none 0 0] = W6 at *
        have q0 : W6.cell? ⟨w.heap.size, 0, none⟩ = some (.int .u32 0) := hBz.cell 0
        have q1 : W6.cell? ⟨w.heap.size, 1, none⟩ = some (.int .i64 0) := hBz.cell 1
        have q2 : W6.cell? ⟨w.heap.size, 2, none⟩ = some (.slice none 0 0) := hBz.cell 2
        have HOK := Lib.hid hok
        clear hok
        go_wp2_with fail
        exact bodyPost_ret (v := .tuple #[sec0, .bool false]) (by simp [results, Try.results65, go_sem, q0, q1, q2, sec0]; try rfl) rfl ⟨hbelz, .inr ⟨HOK.out, rfl⟩⟩
    · obtain rfl : i = 112 - x11 := by omega
      have hv := okS_4 b k ⟨by rw [HG.out]; exact h0, by rw [HE1.out, HG.out], by rw [HE2.out, HCR.out]⟩ ⟨by rw [HK8.out, HK9.out]; exact h3', by rw [HF.out]; exact h4', by rw [HL.out]; exact h5'⟩ (by rw [HL.out]; exact all_zero b x11 HBL.out hz.out)
      rw [HF.out, HL.out] at hv
      have HV := Lib.hid hv
      have hdat : BS D (.slice (some ⟨bb, o + 12, none⟩) x11 (c - 12)) (dataS b) := by
        have h := bs_sub HS.out 12 x11 (by omega)
        unfold dataS
        rw [HL.out]
        exact h
      have GOODP := Lib.hid (show ∃ A' c', Ending.returned (.tuple #[.agg #[.int .u32 (E1 : Int), .int .i64 (x10 : Int), .slice (some ⟨bb, o + 12, none⟩) x11 (c - 12)], .bool true]) = .returned (.tuple #[.agg #[.int .u32 (num4 b : Nat), .int .i64 (flagS b : Nat), .slice A' (lenS b) c'], .bool true]) ∧ BS D (.slice A' (lenS b) c') (dataS b) from by
        rw [HG.out, HF.out, HL.out]
        exact ⟨_, _, rfl, hdat⟩)
      clear hv hdat hz hi h0
      obtain ⟨A2, A1, e2, e1, j2, j1⟩ := and_21 x10 h4'
      have J2 := Lib.hid j2
      have J1 := Lib.hid j1
      clear j1 j2 h3' h4' b8 b9 b10 g3 g4 g5 v8 v9 v8' e89
      have q0 : W5.cell? ⟨w.heap.size, 0, none⟩ = some (.int .u32 (E1 : Int)) := hB5.cell 0
      have q1 : W5.cell? ⟨w.heap.size, 1, none⟩ = some (.int .i64 (x10 : Int)) := hB5.cell 1
      have q2 : W5.cell? ⟨w.heap.size, 2, none⟩ = some (.slice (some ⟨bb, o + 12, none⟩) x11 (c - 12)) := hB5.cell 2
      have hz84 : (Try.prog.info? 84).map (·.size) = some (#[Value.int .u32 (E1 : Int), .int .i64 (x10 : Int), .slice (some ⟨bb, o + 12, none⟩) x11 (c - 12)] : Array Value).size := by kernel_rfl
      have ho84 : (#[Value.int .u32 (E1 : Int), .int .i64 (x10 : Int), .slice (some ⟨bb, o + 12, none⟩) x11 (c - 12)] : Array Value).all (·.oneCell') = true := by kernel_rfl
      by_cases z2 : A2 = 0
      · have g2 : ((A2 : Int) == 0) = true := by simp; exact z2
        by_cases y112 : x11 = 112
        · have g112 : ((x11 : Int) != 112) = false := by simp; omega
          have g0 : ((x11 : Int) == 0) = false := by simp; omega
          have hok : okS b k = true := by rw [HV.out]; exact decide_eq_true ⟨.inr y112, .inr (by omega)⟩
          by_cases z1 : A1 = 0
          · have g1 : ((A1 : Int) == 0) = true := by simp; exact z1
            clear z1 z2 y112 h5'
            go_wp2_with (refine wpList_store_row rfl 84 _ _ rfl w.heap.size #[.int .u32 (E1 : Int), .int .i64 (x10 : Int), .slice (some ⟨bb, o + 12, none⟩) x11 (c - 12)] rfl rfl 84 _ hB5.heap hz84 rfl ho84 ?_)
            have hBz := setRowW hB5 #[.int .u32 (E1 : Int), .int .i64 (x10 : Int), .slice (some ⟨bb, o + 12, none⟩) x11 (c - 12)]
            have hbelz : Below w.heap.size w (W5.setRow w.heap.size #[.int .u32 (E1 : Int), .int .i64 (x10 : Int), .slice (some ⟨bb, o + 12, none⟩) x11 (c - 12)]) := belowRowW hbel5 (Nat.le_refl _) _
            generalize W5.setRow w.heap.size #[.int .u32 (E1 : Int), .int .i64 (x10 : Int), .slice (some ⟨bb, o + 12, none⟩) x11 (c - 12)] = W6 at *
            clear q0 q1 q2
            have q0 : W6.cell? ⟨w.heap.size, 0, none⟩ = some (.int .u32 (E1 : Int)) := hBz.cell 0
            have q1 : W6.cell? ⟨w.heap.size, 1, none⟩ = some (.int .i64 (x10 : Int)) := hBz.cell 1
            have q2 : W6.cell? ⟨w.heap.size, 2, none⟩ = some (.slice (some ⟨bb, o + 12, none⟩) x11 (c - 12)) := hBz.cell 2
            have HOK := Lib.hid hok
            clear hok
            go_wp2_with fail
            exact bodyPost_ret (v := .tuple #[.agg #[.int .u32 (E1 : Int), .int .i64 (x10 : Int), .slice (some ⟨bb, o + 12, none⟩) x11 (c - 12)], .bool true]) (by simp [results, Try.results65, go_sem, q0, q1, q2]; try rfl) rfl ⟨hbelz, .inl ⟨HOK.out, GOODP.out⟩⟩
          · have g1 : ((A1 : Int) == 0) = false := by simp; exact z1
            clear z1 z2 y112 h5'
            go_wp2_with (refine wpList_store_row rfl 84 _ _ rfl w.heap.size #[.int .u32 (E1 : Int), .int .i64 (x10 : Int), .slice (some ⟨bb, o + 12, none⟩) x11 (c - 12)] rfl rfl 84 _ hB5.heap hz84 rfl ho84 ?_)
            have hBz := setRowW hB5 #[.int .u32 (E1 : Int), .int .i64 (x10 : Int), .slice (some ⟨bb, o + 12, none⟩) x11 (c - 12)]
            have hbelz : Below w.heap.size w (W5.setRow w.heap.size #[.int .u32 (E1 : Int), .int .i64 (x10 : Int), .slice (some ⟨bb, o + 12, none⟩) x11 (c - 12)]) := belowRowW hbel5 (Nat.le_refl _) _
            generalize W5.setRow w.heap.size #[.int .u32 (E1 : Int), .int .i64 (x10 : Int), .slice (some ⟨bb, o + 12, none⟩) x11 (c - 12)] = W6 at *
            clear q0 q1 q2
            have q0 : W6.cell? ⟨w.heap.size, 0, none⟩ = some (.int .u32 (E1 : Int)) := hBz.cell 0
            have q1 : W6.cell? ⟨w.heap.size, 1, none⟩ = some (.int .i64 (x10 : Int)) := hBz.cell 1
            have q2 : W6.cell? ⟨w.heap.size, 2, none⟩ = some (.slice (some ⟨bb, o + 12, none⟩) x11 (c - 12)) := hBz.cell 2
            have HOK := Lib.hid hok
            clear hok
            go_wp2_with fail
            exact bodyPost_ret (v := .tuple #[.agg #[.int .u32 (E1 : Int), .int .i64 (x10 : Int), .slice (some ⟨bb, o + 12, none⟩) x11 (c - 12)], .bool true]) (by simp [results, Try.results65, go_sem, q0, q1, q2]; try rfl) rfl ⟨hbelz, .inl ⟨HOK.out, GOODP.out⟩⟩
        · have g112 : ((x11 : Int) != 112) = true := by simp; omega
          have hok : okS b k = false := by rw [HV.out]; exact decide_eq_false (fun h => h.1.elim (J2.out.mp z2) y112)
          clear z2 y112 h5' hz84 ho84 q0 q1 q2
          have q1 : W5.cell? ⟨w.heap.size, 1, none⟩ = some (.int .i64 (x10 : Int)) := hB5.cell 1
          have hz84 : (Try.prog.info? 84).map (·.size) = some (#[Value.int .u32 0, .int .i64 0, .slice none 0 0] : Array Value).size := by kernel_rfl
          have ho84 : (#[Value.int .u32 0, .int .i64 0, .slice none 0 0] : Array Value).all (·.oneCell') = true := by kernel_rfl
          go_wp2_with (refine wpList_store_row rfl 84 _ _ rfl w.heap.size #[.int .u32 0, .int .i64 0, .slice none 0 0] rfl rfl 84 _ hB5.heap hz84 rfl ho84 ?_)
          have hBz := setRowW hB5 #[.int .u32 0, .int .i64 0, .slice none 0 0]
          have hbelz : Below w.heap.size w (W5.setRow w.heap.size #[.int .u32 0, .int .i64 0, .slice none 0 0]) := belowRowW hbel5 (Nat.le_refl _) _
          generalize W5.setRow w.heap.size #[.int .u32 0, .int .i64 0, .slice none 0 0] = W6 at *
          have q0 : W6.cell? ⟨w.heap.size, 0, none⟩ = some (.int .u32 0) := hBz.cell 0
          have q1 : W6.cell? ⟨w.heap.size, 1, none⟩ = some (.int .i64 0) := hBz.cell 1
          have q2 : W6.cell? ⟨w.heap.size, 2, none⟩ = some (.slice none 0 0) := hBz.cell 2
          have HOK := Lib.hid hok
          clear hok
          go_wp2_with fail
          exact bodyPost_ret (v := .tuple #[sec0, .bool false]) (by simp [results, Try.results65, go_sem, q0, q1, q2, sec0]; try rfl) rfl ⟨hbelz, .inr ⟨HOK.out, rfl⟩⟩
      · have g2 : ((A2 : Int) == 0) = false := by simp; exact z2
        by_cases z1 : A1 = 0
        · have g1 : ((A1 : Int) == 0) = true := by simp; exact z1
          by_cases y0 : x11 = 0
          · have g0 : ((x11 : Int) == 0) = true := by simp; omega
            have hok : okS b k = false := by rw [HV.out]; exact decide_eq_false (fun h => h.2.elim (J1.out.mp z1) (fun h' => h' y0))
            clear z1 z2 y0 h5' hz84 ho84 q0 q1 q2
            have q1 : W5.cell? ⟨w.heap.size, 1, none⟩ = some (.int .i64 (x10 : Int)) := hB5.cell 1
            have hz84 : (Try.prog.info? 84).map (·.size) = some (#[Value.int .u32 0, .int .i64 0, .slice none 0 0] : Array Value).size := by kernel_rfl
            have ho84 : (#[Value.int .u32 0, .int .i64 0, .slice none 0 0] : Array Value).all (·.oneCell') = true := by kernel_rfl
            go_wp2_with (refine wpList_store_row rfl 84 _ _ rfl w.heap.size #[.int .u32 0, .int .i64 0, .slice none 0 0] rfl rfl 84 _ hB5.heap hz84 rfl ho84 ?_)
            have hBz := setRowW hB5 #[.int .u32 0, .int .i64 0, .slice none 0 0]
            have hbelz : Below w.heap.size w (W5.setRow w.heap.size #[.int .u32 0, .int .i64 0, .slice none 0 0]) := belowRowW hbel5 (Nat.le_refl _) _
            generalize W5.setRow w.heap.size #[.int .u32 0, .int .i64 0, .slice none 0 0] = W6 at *
            have q0 : W6.cell? ⟨w.heap.size, 0, none⟩ = some (.int .u32 0) := hBz.cell 0
            have q1 : W6.cell? ⟨w.heap.size, 1, none⟩ = some (.int .i64 0) := hBz.cell 1
            have q2 : W6.cell? ⟨w.heap.size, 2, none⟩ = some (.slice none 0 0) := hBz.cell 2
            have HOK := Lib.hid hok
            clear hok
            go_wp2_with fail
            exact bodyPost_ret (v := .tuple #[sec0, .bool false]) (by simp [results, Try.results65, go_sem, q0, q1, q2, sec0]; try rfl) rfl ⟨hbelz, .inr ⟨HOK.out, rfl⟩⟩
          · have g0 : ((x11 : Int) == 0) = false := by simp; omega
            have hok : okS b k = true := by rw [HV.out]; exact decide_eq_true ⟨.inl (Classical.byContradiction fun h => z2 (J2.out.mpr h)), .inr y0⟩
            clear z1 z2 y0 h5'
            go_wp2_with (refine wpList_store_row rfl 84 _ _ rfl w.heap.size #[.int .u32 (E1 : Int), .int .i64 (x10 : Int), .slice (some ⟨bb, o + 12, none⟩) x11 (c - 12)] rfl rfl 84 _ hB5.heap hz84 rfl ho84 ?_)
            have hBz := setRowW hB5 #[.int .u32 (E1 : Int), .int .i64 (x10 : Int), .slice (some ⟨bb, o + 12, none⟩) x11 (c - 12)]
            have hbelz : Below w.heap.size w (W5.setRow w.heap.size #[.int .u32 (E1 : Int), .int .i64 (x10 : Int), .slice (some ⟨bb, o + 12, none⟩) x11 (c - 12)]) := belowRowW hbel5 (Nat.le_refl _) _
            generalize W5.setRow w.heap.size #[.int .u32 (E1 : Int), .int .i64 (x10 : Int), .slice (some ⟨bb, o + 12, none⟩) x11 (c - 12)] = W6 at *
            clear q0 q1 q2
            have q0 : W6.cell? ⟨w.heap.size, 0, none⟩ = some (.int .u32 (E1 : Int)) := hBz.cell 0
            have q1 : W6.cell? ⟨w.heap.size, 1, none⟩ = some (.int .i64 (x10 : Int)) := hBz.cell 1
            have q2 : W6.cell? ⟨w.heap.size, 2, none⟩ = some (.slice (some ⟨bb, o + 12, none⟩) x11 (c - 12)) := hBz.cell 2
            have HOK := Lib.hid hok
            clear hok
            go_wp2_with fail
            exact bodyPost_ret (v := .tuple #[.agg #[.int .u32 (E1 : Int), .int .i64 (x10 : Int), .slice (some ⟨bb, o + 12, none⟩) x11 (c - 12)], .bool true]) (by simp [results, Try.results65, go_sem, q0, q1, q2]; try rfl) rfl ⟨hbelz, .inl ⟨HOK.out, GOODP.out⟩⟩
        · have g1 : ((A1 : Int) == 0) = false := by simp; exact z1
          have hok : okS b k = true := by rw [HV.out]; exact decide_eq_true ⟨.inl (Classical.byContradiction fun h => z2 (J2.out.mpr h)), .inl (Classical.byContradiction fun h => z1 (J1.out.mpr h))⟩
          clear z1 z2 h5'
          go_wp2_with (refine wpList_store_row rfl 84 _ _ rfl w.heap.size #[.int .u32 (E1 : Int), .int .i64 (x10 : Int), .slice (some ⟨bb, o + 12, none⟩) x11 (c - 12)] rfl rfl 84 _ hB5.heap hz84 rfl ho84 ?_)
          have hBz := setRowW hB5 #[.int .u32 (E1 : Int), .int .i64 (x10 : Int), .slice (some ⟨bb, o + 12, none⟩) x11 (c - 12)]
          have hbelz : Below w.heap.size w (W5.setRow w.heap.size #[.int .u32 (E1 : Int), .int .i64 (x10 : Int), .slice (some ⟨bb, o + 12, none⟩) x11 (c - 12)]) := belowRowW hbel5 (Nat.le_refl _) _
          generalize W5.setRow w.heap.size #[.int .u32 (E1 : Int), .int .i64 (x10 : Int), .slice (some ⟨bb, o + 12, none⟩) x11 (c - 12)] = W6 at *
          clear q0 q1 q2
          have q0 : W6.cell? ⟨w.heap.size, 0, none⟩ = some (.int .u32 (E1 : Int)) := hBz.cell 0
          have q1 : W6.cell? ⟨w.heap.size, 1, none⟩ = some (.int .i64 (x10 : Int)) := hBz.cell 1
          have q2 : W6.cell? ⟨w.heap.size, 2, none⟩ = some (.slice (some ⟨bb, o + 12, none⟩) x11 (c - 12)) := hBz.cell 2
          have HOK := Lib.hid hok
          clear hok
          go_wp2_with fail
          exact bodyPost_ret (v := .tuple #[.agg #[.int .u32 (E1 : Int), .int .i64 (x10 : Int), .slice (some ⟨bb, o + 12, none⟩) x11 (c - 12)], .bool true]) (by simp [results, Try.results65, go_sem, q0, q1, q2]; try rfl) rfl ⟨hbelz, .inl ⟨HOK.out, GOODP.out⟩⟩
end Go.Proofs.Ytegkmkglagmdiaa
