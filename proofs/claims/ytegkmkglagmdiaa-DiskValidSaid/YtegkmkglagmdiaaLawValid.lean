/-
  What is proved here: the walk of DiskValid: it returns true and writes nothing that was there.
-/
import Derived.Test.YtegkmkglagmdiaaRows
import Derived.Test.YtegkmkglagmdiaaDiskP
import Derived.Test.YtegkmkglagmdiaaBaseB
import Derived.Test.YtegkmkglagmdiaaArg
import Derived.Deep.RegionHeld3
import Derived.Deep.RegionLaw
import Derived.Deep.DeepCutAuto
import Derived.Deep.QuietTactic
import Derived.BigQuiet
import Derived.Laws.EntriesVeiled
namespace Go.Proofs.Ytegkmkglagmdiaa
open Go.RowKit Go.VS

theorem valid_stop (d : Dsk) (l t : Int) (h3 : d.secs.length = 3) (hl : l ≤ 100) : ((stopF d l t).2 = 0 ∨ (stopF d l t).2 = 1 ∨ (stopF d l t).2 = 410) ∧ ((stopF d l t).2 = 0 → chk (stopF d l t).1 = 0 ∧ (stopF d l t).1.secs.length = 3 ∧ (stopF d l t).1.left ≤ 100) := by
  unfold stopF
  split
  · simp
  · rename_i h1
    split
    · simp
    · rename_i h2
      have h0 : chk d = 0 := by rcases chk01 d with h | h; · exact h
                                · exact absurd (.inl (by omega)) h1
      have := chk_len h0
      refine ⟨by simp, fun _ => ⟨chk_ok ⟨this.1, this.2.1, this.2.2.1, by show -1 ≤ l; omega, by show 0 ≤ t; omega, by show t ≤ 128; omega, fun h => absurd h h2⟩, h3, hl⟩⟩
theorem valid_write (d : Dsk) (i : Int) (b : List UInt8) (h0 : chk d = 0) (h3 : d.secs.length = 3) (hl : d.left ≤ 100) : ((writeF d i b).2 = 0 ∨ (writeF d i b).2 = 1 ∨ (writeF d i b).2 = 410) ∧ (¬ (writeF d i b).2 = 1 → chk (writeF d i b).1 = 0 ∧ (writeF d i b).1.secs.length = 3 ∧ (writeF d i b).1.left ≤ 100) := by
  have hc := chk_len h0
  unfold writeF
  split
  · simp
  · rename_i h1
    have hb : b.length = 128 := by omega
    split
    · exact ⟨by simp, fun _ => ⟨h0, h3, hl⟩⟩
    · rename_i h2
      have hi : i.toNat < d.secs.length := by
        rcases chkAt01 d i with h | h
        · have := chkAt0 h; omega
        · omega
      split
      · rename_i h4
        refine ⟨by simp, fun _ => ⟨chk_ok ⟨by simp; omega, by simp; omega, ?_, hc.2.2.2.1, hc.2.2.2.2.1, hc.2.2.2.2.2.1, fun _ => h4⟩, by simpa using h3, hl⟩⟩
        intro x hx
        rcases List.mem_or_eq_of_mem_set hx with hx | rfl
        · exact hc.2.2.1 x hx
        · have := hc.2.2.1 _ (List.getElem_mem hi)
          simp [List.getElem?_eq_getElem hi]
          omega
      · rename_i h4
        refine ⟨by simp, fun _ => ⟨chk_ok ⟨by simp; omega, by simp; omega, ?_, by show -1 ≤ ite _ _ _; split <;> omega, hc.2.2.2.2.1, hc.2.2.2.2.2.1, fun h => absurd h h2⟩, by simpa using h3, by show ite _ _ _ ≤ (100 : Int); split <;> omega⟩⟩
        intro x hx
        rcases List.mem_or_eq_of_mem_set hx with hx | rfl
        · exact hc.2.2.1 x hx
        · exact hb
theorem valid_restart (d : Dsk) (h0 : chk d = 0) : chk ⟨d.secs, -1, 0, false⟩ = 0 := by
  have hc := chk_len h0
  exact chk_ok ⟨hc.1, hc.2.1, hc.2.2.1, by simp, by simp, by simp, by simp⟩

set_option maxRecDepth 100000 in
set_option maxHeartbeats 4000000 in
theorem valid_walk (sA : Option Addr) (sn sc : Nat) (bs : List UInt8) (w : World) (hs : BS (oldD w) (.slice sA sn sc) bs) :
    Calls Try.prog 8 #[.slice sA sn sc] w fun e w' => e = .returned (.bool true) ∧ Below w.heap.size w w' := by
  obtain ⟨hsn, hsnc, hscm⟩ := hs.len
  unfold maxLen at hscm
  have HK := Lib.hid (keepsOldD w)
  have HSN := Lib.hid hsn
  clear hsn
  have HS := Lib.hid hs
  clear hs
  by_cases hlen : 100 < sn
  · have hl : decide (100 < (sn : Int)) = true := by simp; omega
    go_enter Try.func8, Try.ntmps8
    go_wp2_with fail
    refine (sane41_c _).mono ?_
    rintro e w1 ⟨rfl, hb1⟩
    go_wp2
    go_ret
    exact ⟨rfl, (by repeat (first | (with_reducible exact Below.refl _ _) | (with_reducible refine Below.drew ?_) | (with_reducible refine belowDrewN ?_ _) | (with_reducible refine belowAlloc ?_ _) | ((with_reducible refine belowSet2 ?_ ?_); omega) | (with_reducible assumption) | (with_reducible refine belowVia (by assumption) ?_) | (with_reducible refine belowVia (Grow.below (by assumption)) ?_)))⟩
  · have hl : decide (100 < (sn : Int)) = false := by simp; omega
    have hl6 : sn ≤ 100 := by omega
    clear hlen
    go_enter Try.func8, Try.ntmps8
    go_wp2_with fail
    refine (sane41_c _).mono ?_
    rintro e w1 ⟨rfl, hb1⟩
    have hg1 := Grow.of_below HK.out hb1
    go_wp2_with fail
    refine (new_ok 3 (oldD w) _ hg1.keeps (by omega) (by omega)).mono ?_
    rintro e w2 ⟨A2, c2, D2, rfl, hg2, hs2⟩
    go_wp2_with fail
    go_loopw [6, 7, 8, 9, 10, 24] (fun _ _ _ _ _ i wr => ∃ (k : Nat) (D' : Gh) (xs : List (List UInt8)) (l t : Int) (s : Bool) (A : Option Addr) (n c : Nat), k ≤ sn ∧ i = .int .i64 k ∧ Hid (chk ⟨xs, l, t, s⟩ = 0 ∧ xs.length = 3 ∧ l ≤ 100) ∧ Grow w (oldD w) wr D' ∧ Box wr D' w2.heap.size 26 #[.slice A n c, .int .i64 l, .int .i64 t, .bool s] ∧ SS D' (.slice A n c) xs) (fun _ _ _ _ _ i _ => sn - (intOf i).toNat)
    case atStart => exact ⟨0, D2, _, -1, 0, false, A2, 3, c2, Nat.zero_le _, rfl, Lib.hid (by decide +kernel), (hg1.trans hg2).alloc _, Box.new hg2.keeps _ _, hs2⟩
    case round =>
      obtain ⟨k, D3, xs, l, t, s, A, n, c, hk, rfl, HV, hg3, bd3, hs3⟩ := hrel
      by_cases hlt : k < sn
      · obtain ⟨b, o, rfl, hcell⟩ := (HS.out.le hg3.le).at_ (k := k) hg3.keeps (by have := HSN.out; omega)
        have hlc : decide ((k : Int) < (sn : Int)) = true := by simp; omega
        obtain ⟨cb, hcb⟩ : ∃ x, bs[k]'(by have := HSN.out; omega) = x := ⟨_, rfl⟩
        rw [hcb] at hcell
        clear hcb
        have hk3 := hg3.keeps
        have hlg : w.heap.size ≤ w2.heap.size := Nat.le_trans hg1.below.size hg2.below.size
        have hc256 := cb.toNat_lt
        rcases (show cb.toNat % 5 = 0 ∨ cb.toNat % 5 = 1 ∨ (¬ cb.toNat % 5 = 0 ∧ ¬ cb.toNat % 5 = 1) by omega) with h5 | h5 | ⟨h5, h5'⟩
        · have t0 : ((cb.toNat : Int) % 5 == 0) = true := by simp; omega
          clear h5
          have q3 := bd3.cell
          obtain ⟨ys, yl, yt, yp, ec, HF⟩ : ∃ ys yl yt yp ec, Hid (stopF ⟨xs, l, t, s⟩ ((cb.toNat : Int) / 5 % 4 - 1) ((cb.toNat : Int) % 130) = (⟨ys, yl, yt, yp⟩, ec) ∧ (ec = 0 ∨ ec = 1 ∨ ec = 410) ∧ (ec = 0 → chk ⟨ys, yl, yt, yp⟩ = 0 ∧ ys.length = 3 ∧ yl ≤ 100)) := by
            have := valid_stop ⟨xs, l, t, s⟩ ((cb.toNat : Int) / 5 % 4 - 1) ((cb.toNat : Int) % 130) HV.out.2.1 (by omega)
            exact ⟨_, _, _, _, _, Lib.hid ⟨rfl, this⟩⟩
          go_wp2_with fail
          refine (stop_c A n c xs l t s _ _ D3 _ hk3 hs3).mono ?_
          rintro e w4 ⟨a4, n4, c4, rfl, hb4, hs4⟩
          rw [HF.out.1] at hs4 ⊢
          have bd4 := bd3.below hb4 bd3.lt
          have hg4 := hg3.trans (Grow.of_below hk3 hb4)
          have q4 := bd4.cell
          have f4 := bd4.frozen
          have l4 := bd4.lt
          have bd4a := bd4.alloc (.cells #[.slice a4 n4 c4, .int .i64 yl, .int .i64 yt, .bool yp] 26)
          have hg4a := hg4.alloc (.cells #[.slice a4 n4 c4, .int .i64 yl, .int .i64 yt, .bool yp] 26)
          clear q3
          rcases HF.out.2.1 with rfl | rfl | rfl
          · have H5 := Lib.hid (HF.out.2.2 rfl)
            have bd5 := (bd4.set4 (.slice a4 n4 c4) (.int .i64 yl) (.int .i64 yt) (.bool yp)).alloc (.cells #[.slice a4 n4 c4, .int .i64 yl, .int .i64 yt, .bool yp] 26)
            have hg5 := (hg4.set4 hlg bd4.off (.slice a4 n4 c4) (.int .i64 yl) (.int .i64 yt) (.bool yp)).alloc (.cells #[.slice a4 n4 c4, .int .i64 yl, .int .i64 yt, .bool yp] 26)
            have qz := bd5.cell
            have hkz := hg5.keeps
            go_wp2_with fail
            refine (check_c a4 n4 c4 ys yl yt yp D3 _ (by repeat (with_reducible first | assumption | refine Keeps.drew ?_ | refine Keeps.drewN ?_ _ | refine Keeps.alloc ?_ _ | exact Grow.keeps (by assumption))) hs4).mono ?_
            rintro e w9 ⟨rfl, hb9⟩
            rw [H5.out.1]
            have bz := bd5.below hb9 bd5.lt
            have gz := hg5.trans (Grow.of_below hg5.keeps hb9)
            obtain rfl : n4 = 3 := by have := hs4.len; have := H5.out.2.1; omega
            have qz9 := bz.cell
            clear qz
            go_wp2
            go_roundw
            case rel => exact ⟨k + 1, D3, ys, yl, yt, yp, a4, 3, c4, by omega, by go_num, H5, gz, bz, hs4⟩
            case measure => simp [intOf]; omega
          · skip
            have qz := bd4a.cell
            have hkz := hg4a.keeps
            go_wp2_with fail
            refine (check_c A n c xs l t s D3 _ (by repeat (with_reducible first | assumption | refine Keeps.drew ?_ | refine Keeps.drewN ?_ _ | refine Keeps.alloc ?_ _ | exact Grow.keeps (by assumption))) hs3).mono ?_
            rintro e w9 ⟨rfl, hb9⟩
            rw [HV.out.1]
            have bz := bd4a.below hb9 bd4a.lt
            have gz := hg4a.trans (Grow.of_below hg4a.keeps hb9)
            obtain rfl : n = 3 := by have := hs3.len; have := HV.out.2.1; omega
            have qz9 := bz.cell
            clear qz
            go_wp2
            go_roundw
            case rel => exact ⟨k + 1, D3, xs, l, t, s, A, 3, c, by omega, by go_num, HV, gz, bz, hs3⟩
            case measure => simp [intOf]; omega
          · skip
            have qz := bd4a.cell
            have hkz := hg4a.keeps
            go_wp2_with fail
            refine (check_c A n c xs l t s D3 _ (by repeat (with_reducible first | assumption | refine Keeps.drew ?_ | refine Keeps.drewN ?_ _ | refine Keeps.alloc ?_ _ | exact Grow.keeps (by assumption))) hs3).mono ?_
            rintro e w9 ⟨rfl, hb9⟩
            rw [HV.out.1]
            have bz := bd4a.below hb9 bd4a.lt
            have gz := hg4a.trans (Grow.of_below hg4a.keeps hb9)
            obtain rfl : n = 3 := by have := hs3.len; have := HV.out.2.1; omega
            have qz9 := bz.cell
            clear qz
            go_wp2
            go_roundw
            case rel => exact ⟨k + 1, D3, xs, l, t, s, A, 3, c, by omega, by go_num, HV, gz, bz, hs3⟩
            case measure => simp [intOf]; omega
        · have t0 : ((cb.toNat : Int) % 5 == 0) = false := by simp; omega
          have t1 : ((cb.toNat : Int) % 5 == 1) = true := by simp; omega
          clear h5
          have q3 := bd3.cell
          go_wp2_with fail
          refine (restart_c A n c l t s _).mono ?_
          rintro e w4 ⟨rfl, hb4⟩
          have bd4 := bd3.below hb4 bd3.lt
          have hg4 := hg3.trans (Grow.of_below hk3 hb4)
          have q4 := bd4.cell
          have f4 := bd4.frozen
          have l4 := bd4.lt
          clear q3
          have bd5 := bd4.set4 (.slice A n c) (.int .i64 (-1)) (.int .i64 0) (.bool false)
          have hg5 := hg4.set4 hlg bd4.off (.slice A n c) (.int .i64 (-1)) (.int .i64 0) (.bool false)
          have H5 : Hid (chk ⟨xs, -1, 0, false⟩ = 0 ∧ xs.length = 3 ∧ (-1 : Int) ≤ 100) := Lib.hid ⟨valid_restart ⟨xs, l, t, s⟩ HV.out.1, HV.out.2.1, by omega⟩
          have qz := bd5.cell
          have hkz := hg5.keeps
          go_wp2_with fail
          refine (check_c A n c xs (-1) 0 false D3 _ (by repeat (with_reducible first | assumption | refine Keeps.drew ?_ | refine Keeps.drewN ?_ _ | refine Keeps.alloc ?_ _ | exact Grow.keeps (by assumption))) hs3).mono ?_
          rintro e w9 ⟨rfl, hb9⟩
          rw [H5.out.1]
          have bz := bd5.below hb9 bd5.lt
          have gz := hg5.trans (Grow.of_below hg5.keeps hb9)
          obtain rfl : n = 3 := by have := hs3.len; have := H5.out.2.1; omega
          have qz9 := bz.cell
          clear qz
          go_wp2
          go_roundw
          case rel => exact ⟨k + 1, D3, xs, (-1), 0, false, A, 3, c, by omega, by go_num, H5, gz, bz, hs3⟩
          case measure => simp [intOf]; omega
        · have t0 : ((cb.toNat : Int) % 5 == 0) = false := by simp; omega
          have t1 : ((cb.toNat : Int) % 5 == 1) = false := by simp; omega
          clear h5 h5'
          obtain ⟨ai, HW⟩ : ∃ x : Int, Hid ((IntKind.i64.wrap (cb.toNat : Int)).tmod 4 = x) := ⟨_, Lib.hid rfl⟩
          obtain ⟨ys, yl, yt, yp, ec, HF⟩ : ∃ ys yl yt yp ec, Hid (writeF ⟨xs, l, t, s⟩ ai (wholeB cb) = (⟨ys, yl, yt, yp⟩, ec) ∧ (ec = 0 ∨ ec = 1 ∨ ec = 410) ∧ (¬ ec = 1 → chk ⟨ys, yl, yt, yp⟩ = 0 ∧ ys.length = 3 ∧ yl ≤ 100)) := by
            have := valid_write ⟨xs, l, t, s⟩ ai (wholeB cb) HV.out.1 HV.out.2.1 HV.out.2.2
            exact ⟨_, _, _, _, _, Lib.hid ⟨rfl, this⟩⟩
          have hl100 := HV.out.2.2
          go_wp2_with fail
          go_cut [9, 10] (fun x e wx => ∃ (D' : Gh) (gx : Nat) (xA : Option Addr) (xn xc : Nat), x = .pointer (some ⟨gx, 0, none⟩) ∧ e = .int .i64 ec ∧ Grow (wr) D3 wx D' ∧ Box wx D' gx 26 #[.slice xA xn xc, .int .i64 yl, .int .i64 yt, .bool yp] ∧ SS D' (.slice xA xn xc) ys)
          case first =>
            have SH : Hid (∀ W D', Box W D' (w2.heap.size) 26 #[.slice A n c, .int .i64 l, .int .i64 t, .bool s] → (W.cell? ⟨w2.heap.size, 0, none⟩ = some (.slice A n c) ∧ W.cell? ⟨w2.heap.size, 1, none⟩ = some (.int .i64 l) ∧ W.cell? ⟨w2.heap.size, 2, none⟩ = some (.int .i64 t) ∧ W.cell? ⟨w2.heap.size, 3, none⟩ = some (.bool s))) := fun W D' h => h.cells4
            obtain ⟨q0, q1, q2, q3⟩ := bd3.cells4
            have hlx := bd3.lt
            go_region_held3 (fun W => W.cell? ⟨w2.heap.size, 0, none⟩ = some (.slice A n c) ∧ W.cell? ⟨w2.heap.size, 1, none⟩ = some (.int .i64 l) ∧ W.cell? ⟨w2.heap.size, 2, none⟩ = some (.int .i64 t) ∧ W.cell? ⟨w2.heap.size, 3, none⟩ = some (.bool s))
              (first | (refine SH.out _ D3 ?_; (repeat (first | (with_reducible assumption) | (with_reducible refine Box.drew ?_) | (with_reducible refine Box.alloc ?_ _) | ((with_reducible refine Box.far2 ?_ ?_); omega))); done) | (refine SH.out _ Da1 ?_; (repeat (first | (with_reducible assumption) | (with_reducible refine Box.drew ?_) | (with_reducible refine Box.alloc ?_ _) | ((with_reducible refine Box.far2 ?_ ?_); omega))); done) | (refine SH.out _ Db1 ?_; (repeat (first | (with_reducible assumption) | (with_reducible refine Box.drew ?_) | (with_reducible refine Box.alloc ?_ _) | ((with_reducible refine Box.far2 ?_ ?_); omega))); done) | go_keep)
              (first
                | (go_at_call 20; refine (whole_c cb D3 _ (by repeat (with_reducible first | assumption | refine Keeps.drew ?_ | refine Keeps.drewN ?_ _ | refine Keeps.alloc ?_ _ | exact Grow.keeps (by assumption)))).mono ?_; rintro e wa1 ⟨a8, Da1, rfl, hg8, hb8⟩; have bx8 : Box wa1 Da1 (w2.heap.size) 26 #[.slice A n c, .int .i64 l, .int .i64 t, .bool s] := Box.grow (by (repeat (with_reducible first | assumption | refine Box.drew ?_ | refine Box.alloc ?_ _)); done) hg8; have hl8 := bx8.lt; have hz8 := hg8.below.size; simp only [World.size_drew, World.size_alloc] at hz8; (try have hz8' : (wr).heap.size < wa1.heap.size := by omega); obtain ⟨hcw8, hfw8⟩ := bcell hg8.below)
                | (go_at_call 19; rw [HW.out]; refine (write_c A n c xs l t _ s _ 128 _ (wholeB cb) Da1 _ (by repeat (with_reducible first | assumption | refine Keeps.drew ?_ | refine Keeps.drewN ?_ _ | refine Keeps.alloc ?_ _ | exact Grow.keeps (by assumption))) (hs3.le hg8.le) hb8 (by omega)).mono ?_; rintro e wb1 ⟨a9, n9, c9, Db1, rfl, hg9, hs9⟩; rw [HF.out.1] at hs9 ⊢; have bx9 : Box wb1 Db1 (w2.heap.size) 26 #[.slice A n c, .int .i64 l, .int .i64 t, .bool s] := Box.grow (by (repeat (with_reducible first | assumption | refine Box.drew ?_ | refine Box.alloc ?_ _)); done) hg9; obtain ⟨hcw9, hfw9⟩ := bcell hg9.below))
            · go_wp2_with fail
              go_meet
              exact ⟨Db1, _, a9, n9, c9, rfl, rfl, Grow.alloc (by repeat (with_reducible first | assumption | exact Grow.refl (by assumption) | refine Grow.drew ?_ | refine Grow.drewN ?_ _ | refine Grow.alloc ?_ _ | refine Grow.trans ?_ (by assumption))) _, Box.new hg9.keeps _ _, hs9⟩
            · go_wp2_with fail
              go_meet
              have hB := (Box.new hg8.keeps 26 #[.slice none 0 0, .int .i64 0, .int .i64 0, .bool false]).grow hg9
              exact ⟨Db1, _, a9, n9, c9, rfl, rfl, Grow.set4 (by repeat (with_reducible first | assumption | exact Grow.refl (by assumption) | refine Grow.drew ?_ | refine Grow.drewN ?_ _ | refine Grow.alloc ?_ _ | refine Grow.trans ?_ (by assumption))) (by omega) hB.off _ _ _ _, hB.set4 _ _ _ _, hs9⟩
            · go_wp2_with fail
              go_meet
              have hB := ((Box.new hk3 26 #[.slice none 0 0, .int .i64 0, .int .i64 0, .bool false]).drew.grow hg8).grow hg9
              exact ⟨Db1, _, a9, n9, c9, rfl, rfl, Grow.set4 (by repeat (with_reducible first | assumption | exact Grow.refl (by assumption) | refine Grow.drew ?_ | refine Grow.drewN ?_ _ | refine Grow.alloc ?_ _ | refine Grow.trans ?_ (by assumption))) (by omega) hB.off _ _ _ _, hB.set4 _ _ _ _, hs9⟩
          case rest =>
            obtain ⟨D4, gx, xA, xn, xc, rfl, rfl, hg4, bx4, hx4⟩ := hcut
            have bd4 := bd3.grow hg4
            have hs4 := hs3.le hg4.le
            rename World => w4
            have hg4' := hg3.trans hg4
            have q4 := bx4.cell
            have q4' := bd4.cell
            have f4 := bd4.frozen
            rcases HF.out.2.1 with rfl | rfl | rfl
            · have H5 := Lib.hid (HF.out.2.2 (by omega))
              have bd5 := bd4.set4 (.slice xA xn xc) (.int .i64 yl) (.int .i64 yt) (.bool yp)
              have hg5 := hg4'.set4 hlg bd4.off (.slice xA xn xc) (.int .i64 yl) (.int .i64 yt) (.bool yp)
              have qz := bd5.cell
              have hkz := hg5.keeps
              go_wp2_with fail
              refine (check_c xA xn xc ys yl yt yp D4 _ (by repeat (with_reducible first | assumption | refine Keeps.drew ?_ | refine Keeps.drewN ?_ _ | refine Keeps.alloc ?_ _ | exact Grow.keeps (by assumption))) hx4).mono ?_
              rintro e w9 ⟨rfl, hb9⟩
              rw [H5.out.1]
              have bz := bd5.below hb9 bd5.lt
              have gz := hg5.trans (Grow.of_below hg5.keeps hb9)
              obtain rfl : xn = 3 := by have := hx4.len; have := H5.out.2.1; omega
              have qz9 := bz.cell
              clear qz
              go_wp2
              go_roundw
              case rel => exact ⟨k + 1, D4, ys, yl, yt, yp, xA, 3, xc, by omega, by go_num, H5, gz, bz, hx4⟩
              case measure => simp [intOf]; omega
            · skip
              have qz := bd4.cell
              have hkz := hg4'.keeps
              go_wp2_with fail
              refine (check_c A n c xs l t s D4 _ (by repeat (with_reducible first | assumption | refine Keeps.drew ?_ | refine Keeps.drewN ?_ _ | refine Keeps.alloc ?_ _ | exact Grow.keeps (by assumption))) hs4).mono ?_
              rintro e w9 ⟨rfl, hb9⟩
              rw [HV.out.1]
              have bz := bd4.below hb9 bd4.lt
              have gz := hg4'.trans (Grow.of_below hg4'.keeps hb9)
              obtain rfl : n = 3 := by have := hs4.len; have := HV.out.2.1; omega
              have qz9 := bz.cell
              clear qz
              go_wp2
              go_roundw
              case rel => exact ⟨k + 1, D4, xs, l, t, s, A, 3, c, by omega, by go_num, HV, gz, bz, hs4⟩
              case measure => simp [intOf]; omega
            · have H5 := Lib.hid (HF.out.2.2 (by omega))
              have bd5 := bd4.set4 (.slice xA xn xc) (.int .i64 yl) (.int .i64 yt) (.bool yp)
              have hg5 := hg4'.set4 hlg bd4.off (.slice xA xn xc) (.int .i64 yl) (.int .i64 yt) (.bool yp)
              have qz := bd5.cell
              have hkz := hg5.keeps
              go_wp2_with fail
              refine (check_c xA xn xc ys yl yt yp D4 _ (by repeat (with_reducible first | assumption | refine Keeps.drew ?_ | refine Keeps.drewN ?_ _ | refine Keeps.alloc ?_ _ | exact Grow.keeps (by assumption))) hx4).mono ?_
              rintro e w9 ⟨rfl, hb9⟩
              rw [H5.out.1]
              have bz := bd5.below hb9 bd5.lt
              have gz := hg5.trans (Grow.of_below hg5.keeps hb9)
              obtain rfl : xn = 3 := by have := hx4.len; have := H5.out.2.1; omega
              have qz9 := bz.cell
              clear qz
              go_wp2
              go_roundw
              case rel => exact ⟨k + 1, D4, ys, yl, yt, yp, xA, 3, xc, by omega, by go_num, H5, gz, bz, hx4⟩
              case measure => simp [intOf]; omega
      · have hlc : decide ((k : Int) < (sn : Int)) = false := by simp; omega
        go_wp2
        go_ret
        exact ⟨rfl, hg3.below⟩
end Go.Proofs.Ytegkmkglagmdiaa
