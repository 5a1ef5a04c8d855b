/-
  What is proved here: the walk of DiskScriptSpec (fn 4)
-/
import Derived.Test.YtegkmkglagmdiaaRows
import Derived.Test.YtegkmkglagmdiaaDiskP
import Derived.Test.YtegkmkglagmdiaaBaseB
import Derived.Test.YtegkmkglagmdiaaArg
import Derived.Deep.RegionHeld3
import Derived.Deep.RegionLaw
import Derived.Deep.DeepCutAuto
import Derived.Deep.QuietTactic
import Derived.BigQuiet
import Derived.Laws.EntriesVeiled
namespace Go.Proofs.Ytegkmkglagmdiaa
open Go.RowKit Go.VS

theorem writeF_left (d : Dsk) (at_ : Int) (b : List UInt8) (h : d.left ≤ 9223372036854775807) : (writeF d at_ b).1.left ≤ 9223372036854775807 := by
  unfold writeF
  split
  · simp [zeroD]
  · split
    · exact h
    · split
      · exact h
      · simp only; split <;> omega

theorem writeF_code (d : Dsk) (at_ : Int) (b : List UInt8) : (writeF d at_ b).2 = 0 ∨ (writeF d at_ b).2 = 1 ∨ (writeF d at_ b).2 = 410 := by
  unfold writeF
  split
  · simp
  · split
    · simp
    · split <;> simp

set_option maxRecDepth 100000 in
set_option maxHeartbeats 4000000 in
theorem scriptSpec_walk (a0 a1 : Int) (sA : Option Addr) (sn sc : Nat) (bs : List UInt8) (w : World) (hs : BS (oldD w) (.slice sA sn sc) bs) :
    Calls Try.prog 4 #[.int .i64 a0, .int .i64 a1, .slice sA sn sc] w fun e w' => e = .returned (.bool true) ∧ Below w.heap.size w w' := by
  obtain ⟨hsn, hsnc, hscm⟩ := hs.len
  unfold maxLen at hscm
  have HK := Lib.hid (keepsOldD w)
  have HSN := Lib.hid hsn
  clear hsn
  have HS := Lib.hid hs
  clear hs
  by_cases hlen : 60 < sn
  · have hl : decide (60 < (sn : Int)) = true := by simp; omega
    go_enter Try.func4, Try.ntmps4
    go_wp2_with fail
    refine (sane41_c _).mono ?_
    rintro e w1 ⟨rfl, hb1⟩
    go_wp2
    go_ret
    exact ⟨rfl, (by repeat (first | (with_reducible exact Below.refl _ _) | (with_reducible refine Below.drew ?_) | (with_reducible refine belowDrewN ?_ _) | (with_reducible refine belowAlloc ?_ _) | ((with_reducible refine belowSet2 ?_ ?_); omega) | (with_reducible assumption) | (with_reducible refine belowVia (by assumption) ?_) | (with_reducible refine belowVia (Grow.below (by assumption)) ?_)))⟩
  · have hl : decide (60 < (sn : Int)) = false := by simp; omega
    have hl6 : sn ≤ 60 := by omega
    clear hlen
    go_enter Try.func4, Try.ntmps4
    go_wp2_with fail
    refine (sane41_c _).mono ?_
    rintro e w1 ⟨rfl, hb1⟩
    have hg1 := Grow.of_below HK.out hb1
    go_wp2_with fail
    refine (diskOf_c a0 a1 (oldD w) _ hg1.keeps).mono ?_
    rintro e w2 ⟨A2, c2, D2, tv, rfl, hg2, hs2, ht0, ht1⟩
    have hlw := left_bd a0
    go_wp2_with fail
    go_loopw [9, 10, 11, 12, 13, 24] (fun _ _ _ _ _ i wr => ∃ (k : Nat) (D' : Gh) (xs : List (List UInt8)) (l t : Int) (s : Bool) (A : Option Addr) (n c : Nat), k ≤ sn ∧ i = .int .i64 k ∧ l ≤ 9223372036854775807 ∧ Grow w (oldD w) wr D' ∧ Box wr D' w2.heap.size 26 #[.slice A n c, .int .i64 l, .int .i64 t, .bool s] ∧ SS D' (.slice A n c) xs) (fun _ _ _ _ _ i _ => sn - (intOf i).toNat)
    case atStart => exact ⟨0, D2, _, _, tv, false, A2, 4, c2, Nat.zero_le _, rfl, by omega, (hg1.trans hg2).alloc _, Box.new hg2.keeps _ _, hs2⟩
    case round =>
      obtain ⟨k, D3, xs, l, t, s, A, n, c, hk, rfl, hlb, hg3, bd3, hs3⟩ := hrel
      by_cases hlt : k < sn
      · obtain ⟨b, o, rfl, hcell⟩ := (HS.out.le hg3.le).at_ (k := k) hg3.keeps (by have := HSN.out; omega)
        have hlc : decide ((k : Int) < (sn : Int)) = true := by simp; omega
        obtain ⟨cb, hcb⟩ : ∃ x, bs[k]'(by have := HSN.out; omega) = x := ⟨_, rfl⟩
        rw [hcb] at hcell
        clear hcb
        obtain ⟨ai, HW⟩ : ∃ x : Int, Hid (IntKind.i64.wrap ((cb.toNat : Int).tmod 5) = x) := ⟨_, Lib.hid rfl⟩
        obtain ⟨ys, yl, yt, yp, ec, HF⟩ : ∃ ys yl yt yp ec, Hid (writeF ⟨xs, l, t, s⟩ ai (wholeB cb) = (⟨ys, yl, yt, yp⟩, ec) ∧ yl ≤ 9223372036854775807 ∧ (ec = 0 ∨ ec = 1 ∨ ec = 410)) := by
          refine ⟨_, _, _, _, _, Lib.hid ⟨rfl, writeF_left _ _ _ hlb, writeF_code _ _ _⟩⟩
        have hk3 := hg3.keeps
        go_wp2_with fail
        go_cut [10, 11] (fun x e wx => ∃ (D' : Gh) (gx : Nat) (xA : Option Addr) (xn xc : Nat), x = .pointer (some ⟨gx, 0, none⟩) ∧ e = .int .i64 ec ∧ Grow (wr) D3 wx D' ∧ Box wx D' gx 26 #[.slice xA xn xc, .int .i64 yl, .int .i64 yt, .bool yp] ∧ SS D' (.slice xA xn xc) ys)
        case first =>
          have SH : Hid (∀ W D', Box W D' (w2.heap.size) 26 #[.slice A n c, .int .i64 l, .int .i64 t, .bool s] → (W.cell? ⟨w2.heap.size, 0, none⟩ = some (.slice A n c) ∧ W.cell? ⟨w2.heap.size, 1, none⟩ = some (.int .i64 l) ∧ W.cell? ⟨w2.heap.size, 2, none⟩ = some (.int .i64 t) ∧ W.cell? ⟨w2.heap.size, 3, none⟩ = some (.bool s))) := fun W D' h => h.cells4
          obtain ⟨q0, q1, q2, q3⟩ := bd3.cells4
          have hlx := bd3.lt
          go_region_held3 (fun W => W.cell? ⟨w2.heap.size, 0, none⟩ = some (.slice A n c) ∧ W.cell? ⟨w2.heap.size, 1, none⟩ = some (.int .i64 l) ∧ W.cell? ⟨w2.heap.size, 2, none⟩ = some (.int .i64 t) ∧ W.cell? ⟨w2.heap.size, 3, none⟩ = some (.bool s))
            (first | (refine SH.out _ D3 ?_; (repeat (first | (with_reducible assumption) | (with_reducible refine Box.drew ?_) | (with_reducible refine Box.alloc ?_ _) | ((with_reducible refine Box.far2 ?_ ?_); omega))); done) | (refine SH.out _ Da1 ?_; (repeat (first | (with_reducible assumption) | (with_reducible refine Box.drew ?_) | (with_reducible refine Box.alloc ?_ _) | ((with_reducible refine Box.far2 ?_ ?_); omega))); done) | (refine SH.out _ Db1 ?_; (repeat (first | (with_reducible assumption) | (with_reducible refine Box.drew ?_) | (with_reducible refine Box.alloc ?_ _) | ((with_reducible refine Box.far2 ?_ ?_); omega))); done) | go_keep)
            (first
              | (go_at_call 20; refine (whole_c cb D3 _ (by repeat (with_reducible first | assumption | refine Keeps.drew ?_ | refine Keeps.drewN ?_ _ | refine Keeps.alloc ?_ _ | exact Grow.keeps (by assumption)))).mono ?_; rintro e wa1 ⟨a8, Da1, rfl, hg8, hb8⟩; have bx8 : Box wa1 Da1 (w2.heap.size) 26 #[.slice A n c, .int .i64 l, .int .i64 t, .bool s] := Box.grow (by (repeat (with_reducible first | assumption | refine Box.drew ?_ | refine Box.alloc ?_ _)); done) hg8; have hl8 := bx8.lt; have hz8 := hg8.below.size; simp only [World.size_drew, World.size_alloc] at hz8; (try have hz8' : (wr).heap.size < wa1.heap.size := by omega); obtain ⟨hcw8, hfw8⟩ := bcell hg8.below)
              | (go_at_call 19; rw [HW.out]; refine (write_c A n c xs l t _ s _ 128 _ (wholeB cb) Da1 _ (by repeat (with_reducible first | assumption | refine Keeps.drew ?_ | refine Keeps.drewN ?_ _ | refine Keeps.alloc ?_ _ | exact Grow.keeps (by assumption))) (hs3.le hg8.le) hb8 hlb).mono ?_; rintro e wb1 ⟨a9, n9, c9, Db1, rfl, hg9, hs9⟩; rw [HF.out.1] at hs9 ⊢; have bx9 : Box wb1 Db1 (w2.heap.size) 26 #[.slice A n c, .int .i64 l, .int .i64 t, .bool s] := Box.grow (by (repeat (with_reducible first | assumption | refine Box.drew ?_ | refine Box.alloc ?_ _)); done) hg9; obtain ⟨hcw9, hfw9⟩ := bcell hg9.below))
          · go_wp2_with fail
            go_meet
            exact ⟨Db1, _, a9, n9, c9, rfl, rfl, Grow.alloc (by repeat (with_reducible first | assumption | exact Grow.refl (by assumption) | refine Grow.drew ?_ | refine Grow.drewN ?_ _ | refine Grow.alloc ?_ _ | refine Grow.trans ?_ (by assumption))) _, Box.new hg9.keeps _ _, hs9⟩
          · go_wp2_with fail
            go_meet
            have hB := (Box.new hg8.keeps 26 #[.slice none 0 0, .int .i64 0, .int .i64 0, .bool false]).grow hg9
            exact ⟨Db1, _, a9, n9, c9, rfl, rfl, Grow.set4 (by repeat (with_reducible first | assumption | exact Grow.refl (by assumption) | refine Grow.drew ?_ | refine Grow.drewN ?_ _ | refine Grow.alloc ?_ _ | refine Grow.trans ?_ (by assumption))) (by omega) hB.off _ _ _ _, hB.set4 _ _ _ _, hs9⟩
          · go_wp2_with fail
            go_meet
            have hB := ((Box.new hk3 26 #[.slice none 0 0, .int .i64 0, .int .i64 0, .bool false]).drew.grow hg8).grow hg9
            exact ⟨Db1, _, a9, n9, c9, rfl, rfl, Grow.set4 (by repeat (with_reducible first | assumption | exact Grow.refl (by assumption) | refine Grow.drew ?_ | refine Grow.drewN ?_ _ | refine Grow.alloc ?_ _ | refine Grow.trans ?_ (by assumption))) (by omega) hB.off _ _ _ _, hB.set4 _ _ _ _, hs9⟩
        case rest =>
          obtain ⟨D4, gx, xA, xn, xc, rfl, rfl, hg4, bx4, hx4⟩ := hcut
          have bd4 := bd3.grow hg4
          have hs4 := hs3.le hg4.le
          have hk4 := hg4.keeps
          rename World => w4
          go_wp2_with fail
          go_cut [12, 13] (fun x e wx => ∃ (D' : Gh) (gx : Nat) (xA : Option Addr) (xn xc : Nat), x = .pointer (some ⟨gx, 0, none⟩) ∧ e = .int .i64 ec ∧ Grow (w4) D4 wx D' ∧ Box wx D' gx 26 #[.slice xA xn xc, .int .i64 yl, .int .i64 yt, .bool yp] ∧ SS D' (.slice xA xn xc) ys)
          case first =>
            have SH : Hid (∀ W D', Box W D' (w2.heap.size) 26 #[.slice A n c, .int .i64 l, .int .i64 t, .bool s] → (W.cell? ⟨w2.heap.size, 0, none⟩ = some (.slice A n c) ∧ W.cell? ⟨w2.heap.size, 1, none⟩ = some (.int .i64 l) ∧ W.cell? ⟨w2.heap.size, 2, none⟩ = some (.int .i64 t) ∧ W.cell? ⟨w2.heap.size, 3, none⟩ = some (.bool s))) := fun W D' h => h.cells4
            obtain ⟨q0, q1, q2, q3⟩ := bd4.cells4
            have hlx := bd4.lt
            go_region_held3 (fun W => W.cell? ⟨w2.heap.size, 0, none⟩ = some (.slice A n c) ∧ W.cell? ⟨w2.heap.size, 1, none⟩ = some (.int .i64 l) ∧ W.cell? ⟨w2.heap.size, 2, none⟩ = some (.int .i64 t) ∧ W.cell? ⟨w2.heap.size, 3, none⟩ = some (.bool s))
              (first | (refine SH.out _ D4 ?_; (repeat (first | (with_reducible assumption) | (with_reducible refine Box.drew ?_) | (with_reducible refine Box.alloc ?_ _) | ((with_reducible refine Box.far2 ?_ ?_); omega))); done) | (refine SH.out _ Da2 ?_; (repeat (first | (with_reducible assumption) | (with_reducible refine Box.drew ?_) | (with_reducible refine Box.alloc ?_ _) | ((with_reducible refine Box.far2 ?_ ?_); omega))); done) | (refine SH.out _ Db2 ?_; (repeat (first | (with_reducible assumption) | (with_reducible refine Box.drew ?_) | (with_reducible refine Box.alloc ?_ _) | ((with_reducible refine Box.far2 ?_ ?_); omega))); done) | go_keep)
              (first
                | (go_at_call 20; refine (whole_c cb D4 _ (by repeat (with_reducible first | assumption | refine Keeps.drew ?_ | refine Keeps.drewN ?_ _ | refine Keeps.alloc ?_ _ | exact Grow.keeps (by assumption)))).mono ?_; rintro e wa2 ⟨a8, Da2, rfl, hg8, hb8⟩; have bx8 : Box wa2 Da2 (w2.heap.size) 26 #[.slice A n c, .int .i64 l, .int .i64 t, .bool s] := Box.grow (by (repeat (with_reducible first | assumption | refine Box.drew ?_ | refine Box.alloc ?_ _)); done) hg8; have hl8 := bx8.lt; have hz8 := hg8.below.size; simp only [World.size_drew, World.size_alloc] at hz8; (try have hz8' : (w4).heap.size < wa2.heap.size := by omega); obtain ⟨hcw8, hfw8⟩ := bcell hg8.below)
                | (go_at_call 21; rw [HW.out]; refine (refWrite_c A n c xs l t _ s _ 128 _ (wholeB cb) Da2 _ (by repeat (with_reducible first | assumption | refine Keeps.drew ?_ | refine Keeps.drewN ?_ _ | refine Keeps.alloc ?_ _ | exact Grow.keeps (by assumption))) (hs4.le hg8.le) hb8 hlb).mono ?_; rintro e wb2 ⟨a9, n9, c9, Db2, rfl, hg9, hs9⟩; rw [HF.out.1] at hs9 ⊢; have bx9 : Box wb2 Db2 (w2.heap.size) 26 #[.slice A n c, .int .i64 l, .int .i64 t, .bool s] := Box.grow (by (repeat (with_reducible first | assumption | refine Box.drew ?_ | refine Box.alloc ?_ _)); done) hg9; obtain ⟨hcw9, hfw9⟩ := bcell hg9.below))
            · go_wp2_with fail
              go_meet
              exact ⟨Db2, _, a9, n9, c9, rfl, rfl, Grow.alloc (by repeat (with_reducible first | assumption | exact Grow.refl (by assumption) | refine Grow.drew ?_ | refine Grow.drewN ?_ _ | refine Grow.alloc ?_ _ | refine Grow.trans ?_ (by assumption))) _, Box.new hg9.keeps _ _, hs9⟩
            · go_wp2_with fail
              go_meet
              have hB := (Box.new hg8.keeps 26 #[.slice none 0 0, .int .i64 0, .int .i64 0, .bool false]).grow hg9
              exact ⟨Db2, _, a9, n9, c9, rfl, rfl, Grow.set4 (by repeat (with_reducible first | assumption | exact Grow.refl (by assumption) | refine Grow.drew ?_ | refine Grow.drewN ?_ _ | refine Grow.alloc ?_ _ | refine Grow.trans ?_ (by assumption))) (by omega) hB.off _ _ _ _, hB.set4 _ _ _ _, hs9⟩
            · go_wp2_with fail
              go_meet
              have hB := ((Box.new hk4 26 #[.slice none 0 0, .int .i64 0, .int .i64 0, .bool false]).drew.grow hg8).grow hg9
              exact ⟨Db2, _, a9, n9, c9, rfl, rfl, Grow.set4 (by repeat (with_reducible first | assumption | exact Grow.refl (by assumption) | refine Grow.drew ?_ | refine Grow.drewN ?_ _ | refine Grow.alloc ?_ _ | refine Grow.trans ?_ (by assumption))) (by omega) hB.off _ _ _ _, hB.set4 _ _ _ _, hs9⟩
          case rest =>
            obtain ⟨D5, gy, yA, yn, yc, rfl, rfl, hg5, by5, hy5⟩ := hcut
            have bd5 := bd4.grow hg5
            have bx5 := bx4.grow hg5
            have hx5 := hx4.le hg5.le
            rename World => w5
            have q2 := bx5.cell
            have q3 := by5.cell
            have hyl := HF.out.2.1
            have hlg : w.heap.size ≤ w2.heap.size := Nat.le_trans hg1.below.size hg2.below.size
            go_wp2_with fail
            refine (same_c xA yA xn xc yn yc ys yl yt yp D5 _ hg5.keeps hx5 hy5).mono ?_
            rintro e w6 ⟨rfl, hb6⟩
            have bd6 := bd5.below hb6 bd5.lt
            have by6 := by5.below hb6 by5.lt
            have hg6 := (hg3.trans (hg4.trans hg5)).trans (Grow.of_below hg5.keeps hb6)
            have q4 := by6.cell
            have q5 := bd6.cell
            have f5 := bd6.frozen
            clear q2 q3
            rcases HF.out.2.2 with rfl | rfl | rfl
            · have bd7 := bd6.set4 (.slice yA yn yc) (.int .i64 yl) (.int .i64 yt) (.bool yp)
              have hg7 := hg6.set4 hlg bd6.off (.slice yA yn yc) (.int .i64 yl) (.int .i64 yt) (.bool yp)
              by_cases h240 : 240 < cb.toNat
              · have hc2 : decide (240 < (cb.toNat : Int)) = true := by simp; omega
                have q7 := bd7.cell
                have f7 := bd7.frozen
                go_wp2_with fail
                refine (refRestart_c yA yn yc yl yt yp _).mono ?_
                rintro e w8 ⟨rfl, hb8⟩
                have bd8 := bd7.below hb8 bd7.lt
                have hg8 := hg7.trans (Grow.of_below hg7.keeps hb8)
                have q8 := bd8.cell
                have f8 := bd8.frozen
                go_wp2
                go_roundw
                case rel => exact ⟨k + 1, D5, ys, -1, 0, false, yA, yn, yc, by omega, by go_num, by omega, hg8.set4 hlg bd8.off _ _ _ _, bd8.set4 _ _ _ _, hy5⟩
                case measure => simp [intOf]; omega
              · have hc2 : decide (240 < (cb.toNat : Int)) = false := by simp; omega
                go_wp2
                go_roundw
                case rel => exact ⟨k + 1, D5, ys, yl, yt, yp, yA, yn, yc, by omega, by go_num, hyl, hg7, bd7, hy5⟩
                case measure => simp [intOf]; omega
            · have bd7 := bd6
              have hg7 := hg6
              by_cases h240 : 240 < cb.toNat
              · have hc2 : decide (240 < (cb.toNat : Int)) = true := by simp; omega
                have q7 := bd7.cell
                have f7 := bd7.frozen
                go_wp2_with fail
                refine (refRestart_c A n c l t s _).mono ?_
                rintro e w8 ⟨rfl, hb8⟩
                have bd8 := bd7.below hb8 bd7.lt
                have hg8 := hg7.trans (Grow.of_below hg7.keeps hb8)
                have q8 := bd8.cell
                have f8 := bd8.frozen
                go_wp2
                go_roundw
                case rel => exact ⟨k + 1, D5, xs, -1, 0, false, A, n, c, by omega, by go_num, by omega, hg8.set4 hlg bd8.off _ _ _ _, bd8.set4 _ _ _ _, (hs4.le hg5.le)⟩
                case measure => simp [intOf]; omega
              · have hc2 : decide (240 < (cb.toNat : Int)) = false := by simp; omega
                go_wp2
                go_roundw
                case rel => exact ⟨k + 1, D5, xs, l, t, s, A, n, c, by omega, by go_num, hlb, hg7, bd7, (hs4.le hg5.le)⟩
                case measure => simp [intOf]; omega
            · have bd7 := bd6.set4 (.slice yA yn yc) (.int .i64 yl) (.int .i64 yt) (.bool yp)
              have hg7 := hg6.set4 hlg bd6.off (.slice yA yn yc) (.int .i64 yl) (.int .i64 yt) (.bool yp)
              by_cases h240 : 240 < cb.toNat
              · have hc2 : decide (240 < (cb.toNat : Int)) = true := by simp; omega
                have q7 := bd7.cell
                have f7 := bd7.frozen
                go_wp2_with fail
                refine (refRestart_c yA yn yc yl yt yp _).mono ?_
                rintro e w8 ⟨rfl, hb8⟩
                have bd8 := bd7.below hb8 bd7.lt
                have hg8 := hg7.trans (Grow.of_below hg7.keeps hb8)
                have q8 := bd8.cell
                have f8 := bd8.frozen
                go_wp2
                go_roundw
                case rel => exact ⟨k + 1, D5, ys, -1, 0, false, yA, yn, yc, by omega, by go_num, by omega, hg8.set4 hlg bd8.off _ _ _ _, bd8.set4 _ _ _ _, hy5⟩
                case measure => simp [intOf]; omega
              · have hc2 : decide (240 < (cb.toNat : Int)) = false := by simp; omega
                go_wp2
                go_roundw
                case rel => exact ⟨k + 1, D5, ys, yl, yt, yp, yA, yn, yc, by omega, by go_num, hyl, hg7, bd7, hy5⟩
                case measure => simp [intOf]; omega
      · have hlc : decide ((k : Int) < (sn : Int)) = false := by simp; omega
        go_wp2
        go_ret
        exact ⟨rfl, hg3.below⟩
end Go.Proofs.Ytegkmkglagmdiaa
