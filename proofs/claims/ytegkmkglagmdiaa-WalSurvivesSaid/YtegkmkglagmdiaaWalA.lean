/-
  What is proved here: wal: the checksum, how many blocks, a number of four bytes
-/
import Derived.Test.YtegkmkglagmdiaaRows
import Derived.Test.YtegkmkglagmdiaaBaseB
import Derived.Test.YtegkmkglagmdiaaWalR
import Derived.Laws.BitsAllLaws
import Derived.Deep.RegionHeld3
import Derived.Deep.RegionLaw
import Derived.Deep.DeepCutAuto
import Derived.Deep.QuietTactic
import Derived.BigQuiet
import Derived.Laws.EntriesVeiled
namespace Go.Proofs.Ytegkmkglagmdiaa
open Go.RowKit Go.VS
theorem crcSteps_succ : ∀ (k n : Nat), crcSteps (k + 1) n = crcStep (crcSteps k n)
  | 0, _ => rfl
  | k + 1, n => by rw [crcSteps, crcSteps_succ k, crcSteps]
theorem crcReg_take (bs : List UInt8) (i : Nat) (c : UInt8) (h : bs[i]? = some c) (n : Nat) : crcReg n (bs.take (i + 1)) = crcByte (crcReg n (bs.take i)) c := by
  unfold crcReg
  rw [List.take_add_one, h, List.foldl_append]
  rfl
set_option maxRecDepth 100000 in
set_option maxHeartbeats 1000000 in
theorem sum_c (A : Option Addr) (n c : Nat) (bs : List UInt8) (D : Gh) (w : World) (hk : Keeps D w) (hb : BS D (.slice A n c) bs) :
    Calls Try.prog 45 #[.slice A n c] w fun e w' => e = .returned (.int .u32 (crcF bs)) ∧ w = w' := by
  obtain ⟨hn, hnc, hcm⟩ := hb.len
  unfold maxLen at hcm
  have HN := Lib.hid hn
  clear hn
  go_enter Try.func45, Try.ntmps45
  go_wp2_with fail
  go_loop [2, 8] (fun r y => ∃ i : Nat, i ≤ n ∧ r = .int .u32 (crcReg 4294967295 (bs.take i)) ∧ y = .int .i64 i) (fun _ y => n - (intOf y).toNat)
  case atStart => exact ⟨0, by omega, rfl, rfl⟩
  case round =>
    obtain ⟨i, hi, rfl, rfl⟩ := hrel
    have hrl := crcReg_lt (bs.take i) 4294967295 (by omega)
    by_cases hlt : i < n
    · obtain ⟨b, o, rfl, hcell⟩ := hb.at_ hk (k := i) (by rw [← HN.out]; exact hlt)
      have hci : bs[i]? = some (bs[i]'(by rw [← HN.out]; exact hlt)) := List.getElem?_eq_getElem _
      have HT := Lib.hid (crcReg_take bs i _ hci 4294967295)
      generalize bs[i]'(by rw [← HN.out]; exact hlt) = x at *
      generalize crcReg 4294967295 (bs.take i) = r at *
      have hx := x.toNat_lt
      have hxor : bits .xor .u32 (r : Int) (x.toNat : Int) = ((r ^^^ x.toNat : Nat) : Int) := u32_xor_nat r x.toNat hrl (by omega)
      have hX : r ^^^ x.toNat < 4294967296 := Nat.xor_lt_two_pow (n := 32) hrl (by omega)
      have HB := Lib.hid (show crcByte r x = crcSteps 8 (r ^^^ x.toNat) from rfl)
      have g1 : (i : Int) < (n : Int) := by omega
      have g0 : (0 : Int) ≤ (i : Int) := by omega
      clear hci
      go_wp2_with fail
      generalize r ^^^ x.toNat = X at *
      clear hxor
      go_loop [2, 16] (fun r y => ∃ j : Nat, j ≤ 8 ∧ r = .int .u32 (crcSteps j X) ∧ y = .int .i64 j) (fun _ y => 8 - (intOf y).toNat)
      case atStart => exact ⟨0, by omega, rfl, rfl⟩
      case round =>
        obtain ⟨j, hj, rfl, rfl⟩ := hrel
        by_cases hj8 : j < 8
        · have HS := Lib.hid (crcSteps_succ j X)
          have hsl := crcSteps_lt j X hX
          generalize crcSteps j X = y at *
          have hand : bits .and .u32 (y : Int) 1 = ((y % 2 : Nat) : Int) := by
            have h := u32_and_nat y 1 hsl (by omega)
            rw [Nat.and_one_is_mod] at h
            exact h
          have hxp : bits .xor .u32 ((y : Int) / 2) 3988292384 = ((y / 2 ^^^ 3988292384 : Nat) : Int) := by
            have h := u32_xor_nat (y / 2) 3988292384 (by omega) (by omega)
            rw [← h]; rfl
          have g2 : (j : Int) < 8 := by omega
          rcases Nat.mod_two_eq_zero_or_one y with hp | hp
          · have HC := Lib.hid (show crcStep y = y / 2 by unfold crcStep; rw [if_neg (by omega)])
            rw [hp] at hand
            clear hp
            go_wp2
            go_round
            case rel => exact ⟨j + 1, by omega, by rw [HS.out, HC.out]; simp, by go_num⟩
            case measure => simp [intOf]; omega
          · have HC := Lib.hid (show crcStep y = y / 2 ^^^ 3988292384 by unfold crcStep; rw [if_pos hp])
            rw [hp] at hand
            clear hp
            go_wp2
            go_round
            case rel => exact ⟨j + 1, by omega, by rw [HS.out, HC.out], by go_num⟩
            case measure => simp [intOf]; omega
        · obtain rfl : j = 8 := by omega
          have g2 : ¬ ((8 : Int) < 8) := by omega
          rw [show ((8 : Nat) : Int) = 8 from rfl, ← HB.out, ← HT.out]
          go_wp2
          go_round
          case rel => exact ⟨i + 1, by omega, rfl, by go_num⟩
          case measure => simp [intOf]; omega
    · obtain rfl : i = n := by omega
      rw [show bs.take i = bs from List.take_of_length_le (by rw [← HN.out]; exact Nat.le_refl _)] at *
      have HF := Lib.hid (show crcF bs = crcReg 4294967295 bs ^^^ 4294967295 from rfl)
      generalize crcReg 4294967295 bs = r at *
      have hxp : bits .xor .u32 IntKind.u32.max (r : Int) = ((r ^^^ 4294967295 : Nat) : Int) := by
        have h := u32_xor_nat 4294967295 r (by omega) hrl
        rw [Nat.xor_comm] at h
        rw [← h]; rfl
      go_wp2_with fail
      go_ret
      exact ⟨by rw [HF.out]; rfl, rfl⟩
set_option maxRecDepth 100000 in
theorem occ_c (n : Nat) (hn : n ≤ 1000000000000) (w : World) : Calls Try.prog 53 #[.int .i64 n] w fun e w' => e = .returned (.int .i64 (occ n : Nat)) ∧ w = w' := by
  have HO := Lib.hid (show ((occ n : Nat) : Int) = max 1 (((n : Int) + 111) / 112) by unfold occ; omega)
  go_enter Try.func53, Try.ntmps53
  go_wp2
  all_goals
    go_ret
    exact ⟨congrArg (fun z => Ending.returned (Value.int .i64 z)) (by have := HO.out; show _ = ((occ n : Nat) : Int); omega), rfl⟩
theorem occs_take (xs : List (List UInt8)) (i : Nat) (x : List UInt8) (h : xs[i]? = some x) : occs (xs.take (i + 1)) = occs (xs.take i) + occ x.length := by
  rw [List.take_add_one, h, occs_append]
  simp [occs]
theorem occs_le (xs : List (List UInt8)) (i : Nat) : occs (xs.take i) ≤ occs xs := by
  have : occs xs = occs (xs.take i) + occs (xs.drop i) := by rw [← occs_append, List.take_append_drop]
  omega
set_option maxRecDepth 100000 in
set_option maxHeartbeats 1000000 in
theorem allocc_c (A : Option Addr) (n c : Nat) (xs : List (List UInt8)) (D : Gh) (w : World) (hk : Keeps D w) (hs : SS D (.slice A n c) xs) (hl : ∀ x ∈ xs, x.length ≤ 1000000000000) (ho : occs xs ≤ 10000000000000000) :
    Calls Try.prog 54 #[.slice A n c] w fun e w' => e = .returned (.int .i64 (occs xs : Nat)) ∧ w = w' := by
  obtain ⟨hn, hnc, hcm⟩ := hs.len
  unfold maxLen at hcm
  have HN := Lib.hid hn
  clear hn
  go_enter Try.func54, Try.ntmps54
  go_wp2_with fail
  go_loop [2, 7] (fun r y => ∃ i : Nat, i ≤ n ∧ r = .int .i64 (occs (xs.take i) : Nat) ∧ y = .int .i64 i) (fun _ y => n - (intOf y).toNat)
  case atStart => exact ⟨0, by omega, rfl, rfl⟩
  case round =>
    obtain ⟨i, hi, rfl, rfl⟩ := hrel
    by_cases hlt : i < n
    · obtain ⟨b, o, a', c', rfl, hcu, hbs⟩ := hs.at_ hk (k := i) (by rw [← HN.out]; exact hlt)
      have hxi : xs[i]? = some (xs[i]'(by rw [← HN.out]; exact hlt)) := List.getElem?_eq_getElem _
      have HT := Lib.hid (occs_take xs i _ hxi)
      have hle := occs_le xs (i + 1)
      rw [HT.out] at hle
      have hlx := hl _ (List.getElem_mem (by rw [← HN.out]; exact hlt))
      generalize xs[i]'(by rw [← HN.out]; exact hlt) = x at *
      have HOC := Lib.hid (fun W => occ_c x.length hlx W)
      generalize occ x.length = ox at *
      generalize x.length = lx at *
      generalize occs (xs.take i) = os at *
      have g1 : (i : Int) < (n : Int) := by omega
      have g0 : (0 : Int) ≤ (i : Int) := by omega
      clear hxi hbs
      go_wp2_with fail
      refine (HOC.out _).mono ?_
      rintro e w1 ⟨rfl, rfl⟩
      go_wp2
      go_round
      case rel => exact ⟨i + 1, by omega, by rw [HT.out]; go_num, by go_num⟩
      case measure => simp [intOf]; omega
    · obtain rfl : i = n := by omega
      rw [show xs.take i = xs from List.take_of_length_le (by rw [← HN.out]; exact Nat.le_refl _)]
      go_wp2
      go_ret
      exact ⟨rfl, rfl⟩
/-- bits that do not meet are added. -/
theorem or_add (a b i j : Nat) (hb : b * 2 ^ j < 2 ^ i) : a * 2 ^ i ||| b * 2 ^ j = a * 2 ^ i + b * 2 ^ j := by
  have h := Nat.two_pow_add_eq_or_of_lt hb a
  rw [Nat.mul_comm] at h
  exact h.symm
theorem cast2 (x0 x1 : Nat) : ((x0 * 16777216 + x1 * 65536 : Nat) : Int) = (x0 : Int) * 16777216 + (x1 : Int) * 65536 := by omega
theorem cast3 (x0 x1 x2 : Nat) : ((x0 * 16777216 + x1 * 65536 + x2 * 256 : Nat) : Int) = (x0 : Int) * 16777216 + (x1 : Int) * 65536 + (x2 : Int) * 256 := by omega
theorem cast4 (x0 x1 x2 x3 : Nat) : ((x0 * 16777216 + x1 * 65536 + x2 * 256 + x3 : Nat) : Int) = (x0 : Int) * 16777216 + (x1 : Int) * 65536 + (x2 : Int) * 256 + (x3 : Int) := by omega
set_option maxRecDepth 100000 in
set_option maxHeartbeats 1000000 in
theorem number_c (A : Option Addr) (n c : Nat) (bs : List UInt8) (hn : 4 ≤ n) (D : Gh) (w : World) (hk : Keeps D w) (hb : BS D (.slice A n c) bs) :
    Calls Try.prog 66 #[.slice A n c] w fun e w' => e = .returned (.int .u32 (num4 bs : Nat)) ∧ ∃ m, w' = w.drewN m := by
  obtain ⟨hl, hnc, hcm⟩ := hb.len
  unfold maxLen at hcm
  have hget : ∀ k, k < 4 → bs[k]? = some (bs.getD k 0) := fun k hk => by
    rw [List.getD_eq_getElem?_getD, List.getElem?_eq_getElem (by omega)]; rfl
  obtain ⟨hm, _, _, hcell⟩ := Sl.cells hk hb
  obtain ⟨b, o, rfl, hc⟩ := hcell (by omega)
  have c0 := hc 0 (bv (bs.getD 0 0)) (by rw [List.getElem?_map, hget 0 (by omega)]; rfl)
  have c1 := hc 1 (bv (bs.getD 1 0)) (by rw [List.getElem?_map, hget 1 (by omega)]; rfl)
  have c2 := hc 2 (bv (bs.getD 2 0)) (by rw [List.getElem?_map, hget 2 (by omega)]; rfl)
  have c3 := hc 3 (bv (bs.getD 3 0)) (by rw [List.getElem?_map, hget 3 (by omega)]; rfl)
  have HNM := Lib.hid (show num4 bs = (bs.getD 0 0).toNat * 16777216 + (bs.getD 1 0).toNat * 65536 + (bs.getD 2 0).toNat * 256 + (bs.getD 3 0).toNat from rfl)
  have b0 := (bs.getD 0 0).toNat_lt
  have b1 := (bs.getD 1 0).toNat_lt
  have b2 := (bs.getD 2 0).toNat_lt
  have b3 := (bs.getD 3 0).toNat_lt
  unfold bv at c0 c1 c2 c3
  generalize (bs.getD 0 0).toNat = x0 at *
  generalize (bs.getD 1 0).toNat = x1 at *
  generalize (bs.getD 2 0).toNat = x2 at *
  generalize (bs.getD 3 0).toNat = x3 at *
  rw [Nat.add_zero] at c0
  clear hget hm hcell hc hl
  have e1 : bits .or .u32 ((x0 : Int) * 16777216) ((x1 : Int) * 65536) = ((x0 * 16777216 + x1 * 65536 : Nat) : Int) := by
    have h := u32_or_nat (x0 * 16777216) (x1 * 65536) (by omega) (by omega)
    rw [show x0 * 16777216 ||| x1 * 65536 = x0 * 16777216 + x1 * 65536 from or_add x0 x1 24 16 (by omega)] at h
    rw [← h]; simp
  have e2 : bits .or .u32 ((x0 * 16777216 + x1 * 65536 : Nat) : Int) ((x2 : Int) * 256) = ((x0 * 16777216 + x1 * 65536 + x2 * 256 : Nat) : Int) := by
    have h := u32_or_nat (x0 * 16777216 + x1 * 65536) (x2 * 256) (by omega) (by omega)
    rw [show (x0 * 16777216 + x1 * 65536) ||| x2 * 256 = x0 * 16777216 + x1 * 65536 + x2 * 256 by
      have := or_add (x0 * 256 + x1) x2 16 8 (by omega)
      rw [show (x0 * 256 + x1) * 2 ^ 16 = x0 * 16777216 + x1 * 65536 by omega, show x2 * 2 ^ 8 = x2 * 256 by omega] at this
      exact this] at h
    rw [← h]; simp
  have e3 : bits .or .u32 ((x0 * 16777216 + x1 * 65536 + x2 * 256 : Nat) : Int) (x3 : Int) = ((x0 * 16777216 + x1 * 65536 + x2 * 256 + x3 : Nat) : Int) := by
    have h := u32_or_nat (x0 * 16777216 + x1 * 65536 + x2 * 256) x3 (by omega) (by omega)
    rw [show (x0 * 16777216 + x1 * 65536 + x2 * 256) ||| x3 = x0 * 16777216 + x1 * 65536 + x2 * 256 + x3 by
      have := or_add (x0 * 65536 + x1 * 256 + x2) x3 8 0 (by omega)
      rw [show (x0 * 65536 + x1 * 256 + x2) * 2 ^ 8 = x0 * 16777216 + x1 * 65536 + x2 * 256 by omega, show x3 * 2 ^ 0 = x3 by omega] at this
      exact this] at h
    exact h
  have z1 := cast2 x0 x1
  have z2 := cast3 x0 x1 x2
  have z3 := cast4 x0 x1 x2 x3
  have Z3 := Lib.hid z3
  rw [z1] at e1 e2
  rw [z2] at e2 e3
  rw [z3] at e3
  clear z1 z2 z3
  have n0 : 0 < n := by omega
  have n1 : 1 < n := by omega
  have n2 : 2 < n := by omega
  have n3 : 3 < n := by omega
  have m1 : (1 : Int) < (n : Int) := by omega
  have m2 : (2 : Int) < (n : Int) := by omega
  have m3 : (3 : Int) < (n : Int) := by omega
  have w0 : IntKind.u32.wrap ((x0 : Int) * 16777216) = (x0 : Int) * 16777216 := by rw [IntKind.wrap_u32']; omega
  have w1 : IntKind.u32.wrap ((x1 : Int) * 65536) = (x1 : Int) * 65536 := by rw [IntKind.wrap_u32']; omega
  have w2 : IntKind.u32.wrap ((x2 : Int) * 256) = (x2 : Int) * 256 := by rw [IntKind.wrap_u32']; omega
  have v0 : IntKind.u32.wrap (x0 : Int) = x0 := by rw [IntKind.wrap_u32']; omega
  have v1 : IntKind.u32.wrap (x1 : Int) = x1 := by rw [IntKind.wrap_u32']; omega
  have v2 : IntKind.u32.wrap (x2 : Int) = x2 := by rw [IntKind.wrap_u32']; omega
  have v3 : IntKind.u32.wrap (x3 : Int) = x3 := by rw [IntKind.wrap_u32']; omega
  go_enter Try.func66, Try.ntmps66
  go_wp2_with fail
  go_quiet (fail)
  go_wp2_with fail
  go_ret
  refine ⟨?_, _, rfl⟩
  rw [HNM.out, Z3.out]; rfl
end Go.Proofs.Ytegkmkglagmdiaa
