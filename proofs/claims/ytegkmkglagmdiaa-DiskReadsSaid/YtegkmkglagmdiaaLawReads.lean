/-
  What is proved here: the walk of DiskReads: it returns true and writes nothing that was there.
-/
import Derived.Test.YtegkmkglagmdiaaRows
import Derived.Test.YtegkmkglagmdiaaDiskP
import Derived.Test.YtegkmkglagmdiaaBaseB
import Derived.Test.YtegkmkglagmdiaaArg
import Derived.Deep.RegionHeld3
import Derived.Deep.RegionLaw
import Derived.Deep.DeepCutAuto
import Derived.Deep.QuietTactic
import Derived.BigQuiet
import Derived.Laws.EntriesVeiled
namespace Go.Proofs.Ytegkmkglagmdiaa
open Go.RowKit Go.VS

theorem reads_write (ls : List UInt8) (j : Nat) (cb : UInt8) (tv : Int) (h4 : ls.length = 4) (ht0 : 0 ≤ tv) (ht1 : tv ≤ 128) (hj : j < 4) : writeF ⟨ls.map wholeB, -1, tv, false⟩ (j : Int) (wholeB cb) = (⟨(ls.set j cb).map wholeB, -1, tv, false⟩, 0) := by
  have h0 : chkAt ⟨ls.map wholeB, -1, tv, false⟩ (j : Int) = 0 := by
    unfold chkAt
    rw [if_pos]
    refine ⟨?_, by simp [inR]; omega⟩
    unfold chk
    rw [if_pos]
    simp [okB, h4, ht0, ht1]
    intro a _
    simp [wholeB]
  unfold writeF
  rw [if_neg (by simp [h0, wholeB]), if_neg (by simp), if_neg (by simp)]
  simp [List.map_set]
theorem reads_read (ls : List UInt8) (i : Nat) (tv : Int) (h4 : ls.length = 4) (ht0 : 0 ≤ tv) (ht1 : tv ≤ 128) (hi : i < 4) : readF ⟨ls.map wholeB, -1, tv, false⟩ (i : Int) = (wholeB (ls[i]'(by omega)), 0) := by
  have h0 : chkAt ⟨ls.map wholeB, -1, tv, false⟩ (i : Int) = 0 := by
    unfold chkAt
    rw [if_pos]
    refine ⟨?_, by simp [inR]; omega⟩
    unfold chk
    rw [if_pos]
    simp [okB, h4, ht0, ht1]
    intro a _
    simp [wholeB]
  unfold readF
  rw [if_neg (by simp [h0]), if_neg (by simp)]
  have : i < ls.length := by omega
  simp [this]

set_option maxRecDepth 100000 in
set_option maxHeartbeats 4000000 in
theorem reads_walk (sA : Option Addr) (sn sc : Nat) (bs : List UInt8) (w : World) (hs : BS (oldD w) (.slice sA sn sc) bs) :
    Calls Try.prog 5 #[.slice sA sn sc] w fun e w' => e = .returned (.bool true) ∧ Below w.heap.size w w' := by
  obtain ⟨hsn, hsnc, hscm⟩ := hs.len
  unfold maxLen at hscm
  have HK := Lib.hid (keepsOldD w)
  have HSN := Lib.hid hsn
  clear hsn
  have HS := Lib.hid hs
  clear hs
  by_cases hlen : 100 < sn
  · have hl : decide (100 < (sn : Int)) = true := by simp; omega
    go_enter Try.func5, Try.ntmps5
    go_wp2_with fail
    refine (sane41_c _).mono ?_
    rintro e w1 ⟨rfl, hb1⟩
    go_wp2
    go_ret
    exact ⟨rfl, (by repeat (first | (with_reducible exact Below.refl _ _) | (with_reducible refine Below.drew ?_) | (with_reducible refine belowDrewN ?_ _) | (with_reducible refine belowAlloc ?_ _) | ((with_reducible refine belowSet2 ?_ ?_); omega) | (with_reducible assumption) | (with_reducible refine belowVia (by assumption) ?_) | (with_reducible refine belowVia (Grow.below (by assumption)) ?_)))⟩
  · have hl : decide (100 < (sn : Int)) = false := by simp; omega
    have hl6 : sn ≤ 100 := by omega
    clear hlen
    go_enter Try.func5, Try.ntmps5
    go_wp2_with fail
    refine (sane41_c _).mono ?_
    rintro e w1 ⟨rfl, hb1⟩
    have hg1 := Grow.of_below HK.out hb1
    go_wp2_with fail
    refine (diskOf_c (-1) 0 (oldD w) _ hg1.keeps).mono ?_
    rintro e w2 ⟨A2, c2, D2, tv, rfl, hg2, hs2, ht0, ht1⟩
    go_wp2_with fail
    go_loopw [6, 7, 8, 9, 10, 11, 21] (fun _ _ _ _ _ _ i wr => ∃ (k : Nat) (D' : Gh) (ls : List UInt8) (A : Option Addr) (n c : Nat), k ≤ sn ∧ i = .int .i64 k ∧ Hid (ls.length = 4) ∧ Grow w (oldD w) wr D' ∧ Box wr D' w2.heap.size 26 #[.slice A n c, .int .i64 (-1), .int .i64 tv, .bool false] ∧ SS D' (.slice A n c) (ls.map wholeB) ∧ Box wr D' (w2.heap.size + 1) 38 (ls.map bv).toArray) (fun _ _ _ _ _ _ i _ => sn - (intOf i).toNat)
    case atStart => 
      refine ⟨0, D2, [100, 101, 102, 103], A2, 4, c2, Nat.zero_le _, rfl, Lib.hid rfl, ((hg1.trans hg2).alloc _).alloc _, (Box.new hg2.keeps _ _).alloc _, hs2, ?_⟩
      have := Box.new (hg2.keeps.alloc (.cells #[.slice A2 4 c2, .int .i64 (-1), .int .i64 tv, .bool false] 26)) 38 #[.int .u8 100, .int .u8 101, .int .u8 102, .int .u8 103]
      rw [World.size_alloc] at this
      exact this
    case round =>
      obtain ⟨k, D3, ls, A, n, c, hk, rfl, H4, hg3, bd3, hs3, bl3⟩ := hrel
      by_cases hlt : k < sn
      · obtain ⟨b, o, rfl, hcell⟩ := (HS.out.le hg3.le).at_ (k := k) hg3.keeps (by have := HSN.out; omega)
        have hlc : decide ((k : Int) < (sn : Int)) = true := by simp; omega
        obtain ⟨cb, hcb⟩ : ∃ x, bs[k]'(by have := HSN.out; omega) = x := ⟨_, rfl⟩
        rw [hcb] at hcell
        clear hcb
        have hk3 := hg3.keeps
        obtain ⟨j, hj, HJ⟩ : ∃ j : Nat, j < 4 ∧ Hid ((cb.toNat : Int).tmod 4 = (j : Int)) := ⟨cb.toNat % 4, by omega, Lib.hid (by rw [Int.tmod_eq_emod_of_nonneg (by omega)]; omega)⟩
        have HW : Hid (IntKind.i64.wrap ((cb.toNat : Int).tmod 4) = (j : Int)) := Lib.hid (by rw [HJ.out]; unfold IntKind.wrap; simp [IntKind.bits, IntKind.signed]; omega)
        have HF := Lib.hid (reads_write ls j cb tv H4.out ht0 ht1 hj)
        go_wp2_with fail
        go_cut [7, 8] (fun x e wx => ∃ (D' : Gh) (gx : Nat) (xA : Option Addr) (xn xc : Nat), x = .pointer (some ⟨gx, 0, none⟩) ∧ e = .int .i64 0 ∧ Grow (wr) D3 wx D' ∧ Box wx D' gx 26 #[.slice xA xn xc, .int .i64 (-1), .int .i64 tv, .bool false] ∧ SS D' (.slice xA xn xc) ((ls.set j cb).map wholeB))
        case first =>
          have SH : Hid (∀ W D', Box W D' (w2.heap.size) 26 #[.slice A n c, .int .i64 (-1), .int .i64 tv, .bool false] → (W.cell? ⟨w2.heap.size, 0, none⟩ = some (.slice A n c) ∧ W.cell? ⟨w2.heap.size, 1, none⟩ = some (.int .i64 (-1)) ∧ W.cell? ⟨w2.heap.size, 2, none⟩ = some (.int .i64 tv) ∧ W.cell? ⟨w2.heap.size, 3, none⟩ = some (.bool false))) := fun W D' h => h.cells4
          obtain ⟨q0, q1, q2, q3⟩ := bd3.cells4
          have hlx := bd3.lt
          go_region_held3 (fun W => W.cell? ⟨w2.heap.size, 0, none⟩ = some (.slice A n c) ∧ W.cell? ⟨w2.heap.size, 1, none⟩ = some (.int .i64 (-1)) ∧ W.cell? ⟨w2.heap.size, 2, none⟩ = some (.int .i64 tv) ∧ W.cell? ⟨w2.heap.size, 3, none⟩ = some (.bool false))
            (first | (refine SH.out _ D3 ?_; (repeat (first | (with_reducible assumption) | (with_reducible refine Box.drew ?_) | (with_reducible refine Box.alloc ?_ _) | ((with_reducible refine Box.far2 ?_ ?_); omega))); done) | (refine SH.out _ Da1 ?_; (repeat (first | (with_reducible assumption) | (with_reducible refine Box.drew ?_) | (with_reducible refine Box.alloc ?_ _) | ((with_reducible refine Box.far2 ?_ ?_); omega))); done) | (refine SH.out _ Db1 ?_; (repeat (first | (with_reducible assumption) | (with_reducible refine Box.drew ?_) | (with_reducible refine Box.alloc ?_ _) | ((with_reducible refine Box.far2 ?_ ?_); omega))); done) | go_keep)
            (first
              | (go_at_call 20; refine (whole_c cb D3 _ (by repeat (with_reducible first | assumption | refine Keeps.drew ?_ | refine Keeps.drewN ?_ _ | refine Keeps.alloc ?_ _ | exact Grow.keeps (by assumption)))).mono ?_; rintro e wa1 ⟨a8, Da1, rfl, hg8, hb8⟩; have bx8 : Box wa1 Da1 (w2.heap.size) 26 #[.slice A n c, .int .i64 (-1), .int .i64 tv, .bool false] := Box.grow (by (repeat (with_reducible first | assumption | refine Box.drew ?_ | refine Box.alloc ?_ _)); done) hg8; have hl8 := bx8.lt; have hz8 := hg8.below.size; simp only [World.size_drew, World.size_alloc] at hz8; (try have hz8' : (wr).heap.size < wa1.heap.size := by omega); obtain ⟨hcw8, hfw8⟩ := bcell hg8.below)
              | (go_at_call 19; rw [HW.out]; refine (write_c A n c (ls.map wholeB) (-1) tv _ false _ 128 _ (wholeB cb) Da1 _ (by repeat (with_reducible first | assumption | refine Keeps.drew ?_ | refine Keeps.drewN ?_ _ | refine Keeps.alloc ?_ _ | exact Grow.keeps (by assumption))) (hs3.le hg8.le) hb8 (by omega)).mono ?_; rintro e wb1 ⟨a9, n9, c9, Db1, rfl, hg9, hs9⟩; rw [HF.out] at hs9 ⊢; have bx9 : Box wb1 Db1 (w2.heap.size) 26 #[.slice A n c, .int .i64 (-1), .int .i64 tv, .bool false] := Box.grow (by (repeat (with_reducible first | assumption | refine Box.drew ?_ | refine Box.alloc ?_ _)); done) hg9; obtain ⟨hcw9, hfw9⟩ := bcell hg9.below))
          · go_wp2_with fail
            go_meet
            exact ⟨Db1, _, a9, n9, c9, rfl, rfl, Grow.alloc (by repeat (with_reducible first | assumption | exact Grow.refl (by assumption) | refine Grow.drew ?_ | refine Grow.drewN ?_ _ | refine Grow.alloc ?_ _ | refine Grow.trans ?_ (by assumption))) _, Box.new hg9.keeps _ _, hs9⟩
          · go_wp2_with fail
            go_meet
            have hB := (Box.new hg8.keeps 26 #[.slice none 0 0, .int .i64 0, .int .i64 0, .bool false]).grow hg9
            exact ⟨Db1, _, a9, n9, c9, rfl, rfl, Grow.set4 (by repeat (with_reducible first | assumption | exact Grow.refl (by assumption) | refine Grow.drew ?_ | refine Grow.drewN ?_ _ | refine Grow.alloc ?_ _ | refine Grow.trans ?_ (by assumption))) (by omega) hB.off _ _ _ _, hB.set4 _ _ _ _, hs9⟩
          · go_wp2_with fail
            go_meet
            have hB := ((Box.new hk3 26 #[.slice none 0 0, .int .i64 0, .int .i64 0, .bool false]).drew.grow hg8).grow hg9
            exact ⟨Db1, _, a9, n9, c9, rfl, rfl, Grow.set4 (by repeat (with_reducible first | assumption | exact Grow.refl (by assumption) | refine Grow.drew ?_ | refine Grow.drewN ?_ _ | refine Grow.alloc ?_ _ | refine Grow.trans ?_ (by assumption))) (by omega) hB.off _ _ _ _, hB.set4 _ _ _ _, hs9⟩
        case rest =>
          obtain ⟨D4, gx, xA, xn, xc, rfl, rfl, hg4, bx4, hx4⟩ := hcut
          have bd4 := bd3.grow hg4
          have bl4 := bl3.grow hg4
          rename World => w4
          have hj4 := HJ.out
          have q1 := bd4.cell
          have f1 := bd4.frozen
          obtain ⟨lo, q2⟩ : ∃ x : UInt8, w4.cell? ⟨w2.heap.size + 1, j, none⟩ = some (.int .u8 (x.toNat : Int)) := by
            have h : j < ls.length := by have := H4.out; omega
            exact ⟨ls[j], by rw [bl4.cell]; simp [h, bv]⟩
          have f2 := bl4.frozen
          have q3 := bx4.cell
          have hj0 : (0 : Int) ≤ (j : Int) := by omega
          have hj1 : (j : Int) < 4 := by omega
          go_wp2_with fail
          have hlg : w.heap.size ≤ w2.heap.size := Nat.le_trans hg1.below.size hg2.below.size
          have H4' : Hid ((ls.set j cb).length = 4) := Lib.hid (by simp [H4.out])
          have hN1 : ¬ (w2.heap.size + 1 = w2.heap.size) := by omega
          have bd5 := (bd4.set4 (.slice xA xn xc) (.int .i64 (-1)) (.int .i64 tv) (.bool false)).far (p := ⟨w2.heap.size + 1, j, none⟩) (by simp) (.int .u8 (cb.toNat : Int))
          have bl5 := ((((bl4.far (p := ⟨w2.heap.size, 0, none⟩) hN1 (.slice xA xn xc)).far (p := ⟨w2.heap.size, 1, none⟩) hN1 (.int .i64 (-1))).far (p := ⟨w2.heap.size, 2, none⟩) hN1 (.int .i64 tv)).far (p := ⟨w2.heap.size, 3, none⟩) hN1 (.bool false)).set_ j (.int .u8 (cb.toNat : Int))
          have hg5 := ((hg3.trans hg4).set4 hlg bd4.off (.slice xA xn xc) (.int .i64 (-1)) (.int .i64 tv) (.bool false)).setNew (p := ⟨w2.heap.size + 1, j, none⟩) (by simp; omega) bl4.off (.int .u8 (cb.toNat : Int))
          have bl5' : (List.map bv ls).toArray.setIfInBounds j (.int .u8 (cb.toNat : Int)) = (List.map bv (ls.set j cb)).toArray := by simp [List.map_set, bv]
          rw [bl5'] at bl5
          clear bl5' q1 q2 q3 f1 f2
          generalize ls.set j cb = ls' at *
          go_loopw [9, 10, 11, 42] (fun _ _ _ i wr => ∃ (m : Nat) (D' : Gh), m ≤ 4 ∧ i = .int .i64 m ∧ Grow w (oldD w) wr D' ∧ Box wr D' w2.heap.size 26 #[.slice xA xn xc, .int .i64 (-1), .int .i64 tv, .bool false] ∧ SS D' (.slice xA xn xc) (ls'.map wholeB) ∧ Box wr D' (w2.heap.size + 1) 38 (ls'.map bv).toArray) (fun _ _ _ i _ => 4 - (intOf i).toNat)
          case atStart => exact ⟨0, D4, Nat.zero_le _, rfl, hg5, bd5, hx4, bl5⟩
          case round =>
            obtain ⟨m, D6, hm, rfl, hg6, bd6, hs6, bl6⟩ := hrel
            by_cases hm4 : m < 4
            · have hmc : (m : Int) < 4 := by omega
              obtain ⟨lb, HL⟩ : ∃ x, Hid (∃ h : m < ls'.length, ls'[m] = x) := ⟨_, Lib.hid ⟨by have := H4'.out; omega, rfl⟩⟩
              have q1 := bd6.cell
              go_wp2_with fail
              refine (read_c xA xn xc (ls'.map wholeB) (-1) tv m false D6 _ hg6.keeps hs6).mono ?_
              rintro e w7 ⟨ra, rn, rc, D7, rfl, hg7, hr7⟩
              rw [reads_read ls' m tv H4'.out ht0 ht1 hm4, HL.out.2] at hr7 ⊢
              have bd7 := bd6.grow hg7
              have bl7 := bl6.grow hg7
              have hk7 := hg7.keeps
              have hm0 : (0 : Int) ≤ (m : Int) := by omega
              have q2 : w7.cell? ⟨w2.heap.size + 1, m, none⟩ = some (.int .u8 (lb.toNat : Int)) := by
                rw [bl7.cell]; obtain ⟨h, h'⟩ := HL.out; simp [h, bv, h']
              clear q1
              go_wp2_with fail
              go_cut [62] (fun v wx => ∃ D', v = .bool false ∧ Grow w7 D7 wx D')
              case first =>
                have SH : Hid (∀ W D', Box W D' (w2.heap.size + 1) 38 (ls'.map bv).toArray → W.cell? ⟨w2.heap.size + 1, m, none⟩ = some (.int .u8 (lb.toNat : Int))) := fun W D' h => by rw [h.cell]; obtain ⟨h, h'⟩ := HL.out; simp [h, bv, h']
                have e1 := run_string_bs (P := Try.prog) hk7 Try.underlying32 Try.underlying5 Try.underlying9 hr7
                have e2 := run_string_bs (P := Try.prog) hk7.drew Try.underlying32 Try.underlying5 Try.underlying9 hr7
                go_region_law
                  (first
                    | (go_simp; go_at_call 20; refine (whole_c lb D7 _ (by repeat (with_reducible first | assumption | refine Keeps.drew ?_ | refine Keeps.drewN ?_ _ | refine Keeps.alloc ?_ _ | exact Grow.keeps (by assumption)))).mono ?_; rintro e w8 ⟨a8, D8, rfl, hg8, hb8⟩; replace hb8 : BS D8 (.slice a8 128 128) (wholeB lb) := hb8; have bx8 : Box w8 D8 (w2.heap.size + 1) 38 (ls'.map bv).toArray := Box.grow (by (repeat (with_reducible first | assumption | refine Box.drew ?_ | refine Box.alloc ?_ _)); done) hg8; have e3 := run_string_bs (P := Try.prog) hg8.keeps Try.underlying32 Try.underlying5 Try.underlying9 hb8; have e4 := run_string_bs (P := Try.prog) hg8.keeps.drew Try.underlying32 Try.underlying5 Try.underlying9 hb8; have e5 := run_string_bs (P := Try.prog) hg8.keeps Try.underlying32 Try.underlying5 Try.underlying9 (hr7.le hg8.le); have e6 := run_string_bs (P := Try.prog) hg8.keeps.drew Try.underlying32 Try.underlying5 Try.underlying9 (hr7.le hg8.le)))
                all_goals
                  go_wp2_with fail
                  go_meet
                  first | exact ⟨D8, rfl, (by repeat (with_reducible first | assumption | exact Grow.refl (by assumption) | refine Grow.drew ?_ | refine Grow.drewN ?_ _ | refine Grow.alloc ?_ _ | refine Grow.trans ?_ (by assumption)))⟩ | exact ⟨rfl, D8, (by repeat (with_reducible first | assumption | exact Grow.refl (by assumption) | refine Grow.drew ?_ | refine Grow.drewN ?_ _ | refine Grow.alloc ?_ _ | refine Grow.trans ?_ (by assumption)))⟩
              case rest =>
                obtain ⟨D8, rfl, hg8⟩ := hcut
                go_wp2
                go_roundw
                case rel => exact ⟨m + 1, D8, by omega, by go_num, (hg6.trans hg7).trans hg8, bd7.grow hg8, hs6.le (hg7.le.trans hg8.le), bl7.grow hg8⟩
                case measure => simp [intOf]; omega
            · obtain rfl : m = 4 := by omega
              go_wp2
              go_roundw
              case rel => exact ⟨k + 1, D6, ls', xA, xn, xc, by omega, by go_num, H4', hg6, bd6, hs6, bl6⟩
              case measure => simp [intOf]; omega
      · have hlc : decide ((k : Int) < (sn : Int)) = false := by simp; omega
        go_wp2
        go_ret
        exact ⟨rfl, hg3.below⟩
end Go.Proofs.Ytegkmkglagmdiaa
