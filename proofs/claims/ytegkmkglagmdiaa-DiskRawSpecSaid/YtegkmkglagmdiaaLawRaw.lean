/-
  What is proved here: the walk of DiskRawSpec: it returns true and writes nothing that was there.
-/
import Derived.Test.YtegkmkglagmdiaaRows
import Derived.Test.YtegkmkglagmdiaaDiskP
import Derived.Test.YtegkmkglagmdiaaBaseB
import Derived.Test.YtegkmkglagmdiaaArg
import Derived.Test.YtegkmkglagmdiaaArgB
import Derived.Deep.RegionHeld3
import Derived.Deep.RegionLaw
import Derived.Deep.DeepCutAuto
import Derived.Deep.CutBlock
import Derived.Deep.QuietTactic
import Derived.BigQuiet
import Derived.Laws.EntriesVeiled
namespace Go.Proofs.Ytegkmkglagmdiaa
open Go.RowKit Go.VS

def RB (w0 : World) (D : Gh) (g1 g2 g3 g4 : Nat) (c1 c2 c3 c4 : Array Value) (W : World) : Prop := Below w0.heap.size w0 W ∧ Keeps D W ∧ Box W D g1 26 c1 ∧ Box W D g2 26 c2 ∧ Box W D g3 26 c3 ∧ Box W D g4 26 c4
theorem RB.below {w0 : World} {D : Gh} {g1 g2 g3 g4 : Nat} {c1 c2 c3 c4 : Array Value} {W W' : World} (h : RB w0 D g1 g2 g3 g4 c1 c2 c3 c4 W) (hb : Below W.heap.size W W') : RB w0 D g1 g2 g3 g4 c1 c2 c3 c4 W' :=
  ⟨h.1.trans (hb.mono h.1.size), h.2.1.below hb (Nat.le_refl _), h.2.2.1.below hb h.2.2.1.lt, h.2.2.2.1.below hb h.2.2.2.1.lt, h.2.2.2.2.1.below hb h.2.2.2.2.1.lt, h.2.2.2.2.2.below hb h.2.2.2.2.2.lt⟩
theorem RB.drew {w0 : World} {D : Gh} {g1 g2 g3 g4 : Nat} {c1 c2 c3 c4 : Array Value} {W : World} (h : RB w0 D g1 g2 g3 g4 c1 c2 c3 c4 W) : RB w0 D g1 g2 g3 g4 c1 c2 c3 c4 W.drew :=
  ⟨h.1.drew, h.2.1.drew, h.2.2.1.drew, h.2.2.2.1.drew, h.2.2.2.2.1.drew, h.2.2.2.2.2.drew⟩
theorem RB.keeps {w0 : World} {D : Gh} {g1 g2 g3 g4 : Nat} {c1 c2 c3 c4 : Array Value} {W : World} (h : RB w0 D g1 g2 g3 g4 c1 c2 c3 c4 W) : Keeps D W := h.2.1
theorem RB.bel {w0 : World} {D : Gh} {g1 g2 g3 g4 : Nat} {c1 c2 c3 c4 : Array Value} {W : World} (h : RB w0 D g1 g2 g3 g4 c1 c2 c3 c4 W) : Below w0.heap.size w0 W := h.1

set_option maxRecDepth 100000 in
set_option maxHeartbeats 4000000 in
theorem raw_walk (A : Option Addr) (n c : Nat) (xs : List (List UInt8)) (l t : Int) (s : Bool) (at_ : Int) (bA : Option Addr) (bn bc : Nat) (bs : List UInt8) (lf tr : Int) (w : World) (hs : SS (oldD w) (.slice A n c) xs) (hb : BS (oldD w) (.slice bA bn bc) bs) (hlw : l ≤ 9223372036854775807) :
    Calls Try.prog 6 #[.agg #[.slice A n c, .int .i64 l, .int .i64 t, .bool s], .int .i64 at_, .slice bA bn bc, .int .i64 lf, .int .i64 tr] w fun e w' => e = .returned (.bool true) ∧ Below w.heap.size w w' := by
  obtain ⟨hbn, hbnc, hbcm⟩ := hb.len
  unfold maxLen at hbcm
  have hk0 := keepsOldD w
  have HN := Lib.hid (And.intro hbn (hs.len))
  clear hbn
  obtain ⟨i5, hi5, hz50, hz51, hz52⟩ := info_parts info5
  have bd0 := Box.new hk0 26 #[.slice A n c, .int .i64 l, .int .i64 t, .bool s]
  go_enter Try.func6, Try.ntmps6
  go_wp2_with fail
  refine (sane41_c _).mono ?_
  rintro e w1 ⟨rfl, hb1⟩
  have bd1 := bd0.below hb1 bd0.lt
  have hg1 : Grow w (oldD w) w1 (oldD w) := ((Grow.refl hk0).alloc _).trans (Grow.of_below (hk0.alloc _) hb1)
  have q1 := bd1.cell
  go_wp2_with fail
  refine (few_c A n c xs l t s (oldD w) _ hg1.keeps hs).mono ?_
  rintro e w2 ⟨rfl, hb2⟩
  have bd2 := bd1.below hb2 bd1.lt
  have hg2 := hg1.trans (Grow.of_below hg1.keeps hb2)
  have q2 := bd2.cell
  clear q1
  cases hfw : fewB xs
  · clear hfw
    go_wp2
    go_ret
    exact ⟨rfl, hg2.below⟩
  have HFW : Hid ((∀ x ∈ xs, x.length ≤ 256) ∧ xs.length ≤ 12) := Lib.hid (by simpa [fewB] using hfw)
  clear hfw
  by_cases hlen : 300 < bn
  · have hl : decide (300 < (bn : Int)) = true := by simp; omega
    go_wp2
    go_ret
    exact ⟨rfl, hg2.below⟩
  have hl : decide (300 < (bn : Int)) = false := by simp; omega
  have hbn3 : bn ≤ 300 := by omega
  clear hlen
  go_wp2_with fail
  refine (copy_c A n c xs l t s (oldD w) _ hg2.keeps hs (by have := HN.out.2.1; have := HFW.out.2; omega) HFW.out.1).mono ?_
  rintro e w3 ⟨A3, n3, c3, D3, rfl, hg3, hs3⟩
  have bd3 := (bd2.grow hg3).alloc (.cells #[.slice A3 n3 c3, .int .i64 l, .int .i64 t, .bool s] 26)
  have bo3 := Box.new hg3.keeps 26 #[.slice A3 n3 c3, .int .i64 l, .int .i64 t, .bool s]
  have hg3' := (hg2.trans hg3).alloc (.cells #[.slice A3 n3 c3, .int .i64 l, .int .i64 t, .bool s] 26)
  have hb3 := hb.le hg3'.le
  have hk3 := hg3'.keeps
  have hz3 : w.heap.size ≤ w3.heap.size := (hg2.trans hg3).below.size
  clear q2
  go_wp2_with (at_builtin; refine wpList_append_sl (o := ⟨some 43, _, _, _, _, _⟩) _ rfl _ _ 32 rfl w.heap.size 5 i5 (.int .u8 0) 1 Try.underlying32 hi5 hz50 hz51 hz52 rfl _ 0 [] rfl (own_empty (by omega) (heap_new2 _ _ _)) D3 (hk3.alloc _) _ _ _ _ rfl hb3 (bv_one _) ?c1 ?c2 ?c3 ?_)
  case c1 => unfold maxLen; omega
  case c2 => omega
  case c3 => simp; omega
  intro A4 c4 w4 hown4 hgr4 hat4
  replace hown4 : w4.ownsRow w.heap.size 5 1 (.slice A4 bn c4) bn (bs.map bv) := by simpa using hown4
  replace hat4 : Value.ownBlock (.slice A4 bn c4) = Value.ownBlock (.slice (some ⟨w3.heap.size + 1, 0, none⟩) 0 0) ∨ Value.ownBlock (.slice A4 bn c4) = some (((w3.alloc (.cells #[.slice A3 n3 c3, .int .i64 l, .int .i64 t, .bool s] 26)).alloc (.cells #[] 5)).heap.size) := by simpa using hat4
  have hoE : ∀ g, Value.ownBlock (.slice (some ⟨w3.heap.size + 1, 0, none⟩) 0 0) = some g → D3.off g := fun g h => by injection h with h; subst h; exact hk3.offNew (by simp)
  have hoS4 := off_append (hk3.alloc (.cells #[] 5)) hoE hat4
  have hG4 : Grow w (oldD w) w4 D3 := Grow.row (hg3'.alloc _) hgr4 (fun g h => by injection h with h; dsimp only at h; omega) hoE
  have hk4 := hG4.keeps
  have bd4 : Box w4 D3 w.heap.size 26 #[.slice A n c, .int .i64 l, .int .i64 t, .bool s] := (bd3.alloc _).grown hgr4 (fun e => by injection e with e; dsimp only at e; omega)
  have bo4 : Box w4 D3 w3.heap.size 26 #[.slice A3 n3 c3, .int .i64 l, .int .i64 t, .bool s] := (bo3.alloc _).grown hgr4 (fun e => by injection e with e; dsimp only at e; omega)
  go_wp2_with fail
  refine (whole_c 9 D3 _ hk4).mono ?_
  rintro e w5 ⟨a5, D5, rfl, hg5, hb5⟩
  have hown5 := own_below hown4 hg5.below
  have hoS5 : ∀ g, Value.ownBlock (.slice A4 bn c4) = some g → D5.off g := fun g h => hg5.off (hown4.lt g h).2 (hoS4 g h)
  have bd5 := bd4.grow hg5
  have bo5 := bo4.grow hg5
  have hG5 := hG4.trans hg5
  have hz5 := hG5.below.size
  clear hgr4 hat4 hown4
  go_wp2_with (at_builtin; refine wpList_append_sl (o := ⟨some 45, _, _, _, _, _⟩) _ rfl _ _ 32 rfl w.heap.size 5 i5 (.int .u8 0) 1 Try.underlying32 hi5 hz50 hz51 hz52 rfl _ _ _ rfl hown5 D5 hg5.keeps _ _ _ _ rfl hb5 (bv_one _) ?d1 ?d2 ?d3 ?_)
  case d1 => unfold maxLen; omega
  case d2 => omega
  case d3 => omega
  intro A6 c6 w6 hown6 hgr6 hat6
  have hoS6 := off_append hg5.keeps hoS5 hat6
  have hG6 : Grow w (oldD w) w6 D5 := Grow.row hG5 hgr6 (fun g h => (hown5.lt g h).1) hoS5
  obtain ⟨D6, hg6, hle6, hsl6, hof6⟩ := hG6.pub hown6 (Nat.le_refl _) hoS6
  have bd6 : Box w6 D6 w.heap.size 26 #[.slice A n c, .int .i64 l, .int .i64 t, .bool s] := (bd5.grown hgr6 (fun e => bd5.ne_own hown5 (by decide) e.symm)).le (hof6 _ bd5.off (fun e => (bd5.grown hgr6 (fun e => bd5.ne_own hown5 (by decide) e.symm)).ne_own hown6 (by decide) e))
  have bo6 : Box w6 D6 w3.heap.size 26 #[.slice A3 n3 c3, .int .i64 l, .int .i64 t, .bool s] := (bo5.grown hgr6 (fun e => bo5.ne_own hown5 (by decide) e.symm)).le (hof6 _ bo5.off (fun e => (bo5.grown hgr6 (fun e => bo5.ne_own hown5 (by decide) e.symm)).ne_own hown6 (by decide) e))
  have hb6 := hb.le hg6.le
  have hs6 := hs3.le (hg5.le.trans hle6)
  have hk6 := hg6.keeps
  obtain ⟨LB, HLB⟩ : ∃ x, Hid (x = (bs ++ List.replicate 128 9).take 128) := ⟨_, Lib.hid rfl⟩
  have hL6 : BS D6 (.slice A6 128 c6) LB := by
    have h := Sl.take hsl6 (k := 128) (by omega)
    rw [HLB.out]
    unfold BS
    rw [List.map_take, List.map_append]
    exact h
  obtain ⟨hj6, hc6, hm6⟩ := hsl6.cells hk6
  have hc6' : 128 ≤ c6 := by omega
  have hc60 : ¬ c6 = 0 := by omega
  have hc6i : (128 : Int) ≤ (c6 : Int) := by omega
  clear hown5 hgr6 hat6 hown6 hsl6 hof6 hj6 hm6
  obtain ⟨am, hat2⟩ : ∃ am, bits .and .i64 at_ 3 = am := ⟨_, rfl⟩
  go_wp2_with fail
  go_loopw [14, 16, 17, 18, 19, 20, 21, 22, 23, 24, 52] (fun _ _ _ _ _ _ _ _ _ _ i wr => ∃ (k : Nat) (D' : Gh), k ≤ 2 ∧ i = .int .i64 k ∧ Grow w (oldD w) wr D' ∧ D6.le D' ∧ Box wr D' w.heap.size 26 #[.slice A n c, .int .i64 l, .int .i64 t, .bool s] ∧ Box wr D' w3.heap.size 26 #[.slice A3 n3 c3, .int .i64 l, .int .i64 t, .bool s] ∧ Box wr D' w6.heap.size 3 #[.int .i64 at_, .int .i64 am]) (fun _ _ _ _ _ _ _ _ _ _ i _ => 2 - (intOf i).toNat)
  case atStart => exact ⟨0, D6, by omega, rfl, hg6.alloc _, Gh.le.refl _, bd6.alloc _, bo6.alloc _, Box.new hk6 _ _⟩
  case round =>
    obtain ⟨k, D7, hk2, rfl, hg7, hle7, bd7, bo7, bi7⟩ := hrel
    rename World => wo
    by_cases hk2' : k < 2
    · obtain ⟨iv, hiv⟩ : ∃ iv : Int, wo.cell? ⟨w6.heap.size, k, none⟩ = some (.int .i64 iv) := by
        have := bi7.cell k
        rcases (show k = 0 ∨ k = 1 by omega) with rfl | rfl
        · exact ⟨at_, this⟩
        · exact ⟨am, this⟩
      have hkc : (k : Int) < 2 := by omega
      have hk0i : (0 : Int) ≤ (k : Int) := by omega
      have hk7 := hg7.keeps
      go_wp2_with fail
      go_loopw [16, 17, 18, 19, 20, 60] (fun _ _ _ _ _ i wi => ∃ (m : Nat) (D' : Gh), m ≤ 2 ∧ i = .int .i64 m ∧ Grow w (oldD w) wi D' ∧ D6.le D' ∧ Box wi D' w.heap.size 26 #[.slice A n c, .int .i64 l, .int .i64 t, .bool s] ∧ Box wi D' w3.heap.size 26 #[.slice A3 n3 c3, .int .i64 l, .int .i64 t, .bool s] ∧ Box wi D' w6.heap.size 3 #[.int .i64 at_, .int .i64 am] ∧ Box wi D' wo.heap.size 32 #[.slice bA bn bc, .slice A6 128 c6]) (fun _ _ _ _ _ i _ => 2 - (intOf i).toNat)
      case atStart => exact ⟨0, D7, by omega, rfl, hg7.alloc _, hle7, bd7.alloc _, bo7.alloc _, bi7.alloc _, Box.new hk7 _ _⟩
      case round =>
        obtain ⟨m, D8, hm2, rfl, hg8, hle8, bd8, bo8, bi8, bc8⟩ := hrel
        have hk8 := hg8.keeps
        have q8 := bd8.cell
        have hs8 := hs.le hg8.le
        by_cases hm2' : m < 2
        · obtain ⟨cA, cn, cc, cs, hcv, hcs⟩ : ∃ (cA : Option Addr) (cn cc : Nat) (cs : List UInt8), wr.cell? ⟨wo.heap.size, m, none⟩ = some (.slice cA cn cc) ∧ BS D8 (.slice cA cn cc) cs := by
            have := bc8.cell m
            rcases (show m = 0 ∨ m = 1 by omega) with rfl | rfl
            · exact ⟨bA, bn, bc, bs, this, hb.le hg8.le⟩
            · exact ⟨A6, 128, c6, LB, this, hL6.le hle8⟩
          have hmc : (m : Int) < 2 := by omega
          have hm0i : (0 : Int) ≤ (m : Int) := by omega
          obtain ⟨ys, yl, yt, yp, ec, HF⟩ : ∃ ys yl yt yp ec, Hid (writeF ⟨xs, l, t, s⟩ iv cs = (⟨ys, yl, yt, yp⟩, ec)) := ⟨_, _, _, _, _, Lib.hid rfl⟩
          go_wp2_with fail
          refine (write_c A n c xs l t iv s cA cn cc cs D8 _ hk8 hs8 hcs hlw).mono ?_
          rintro e w9 ⟨a9, n9, c9, D9, rfl, hg9, hs9⟩
          rw [HF.out] at hs9 ⊢
          have bx9 := Box.new hg9.keeps 26 #[.slice a9 n9 c9, .int .i64 yl, .int .i64 yt, .bool yp]
          have bd9 := (bd8.grow hg9).alloc (.cells #[.slice a9 n9 c9, .int .i64 yl, .int .i64 yt, .bool yp] 26)
          have hk9 := hg9.keeps.alloc (.cells #[.slice a9 n9 c9, .int .i64 yl, .int .i64 yt, .bool yp] 26)
          have q9 := bd9.cell
          clear q8
          go_wp2_with fail
          refine (refWrite_c A n c xs l t iv s cA cn cc cs D9 _ hk9 (hs8.le hg9.le) (hcs.le hg9.le) hlw).mono ?_
          rintro e w10 ⟨a10, n10, c10, D10, rfl, hg10, hs10⟩
          rw [HF.out] at hs10 ⊢
          have by10 := Box.new hg10.keeps 26 #[.slice a10 n10 c10, .int .i64 yl, .int .i64 yt, .bool yp]
          have bx10 := (bx9.grow hg10).alloc (.cells #[.slice a10 n10 c10, .int .i64 yl, .int .i64 yt, .bool yp] 26)
          have hk10 := hg10.keeps.alloc (.cells #[.slice a10 n10 c10, .int .i64 yl, .int .i64 yt, .bool yp] 26)
          have q10 := bx10.cell
          have q10' := by10.cell
          clear q9
          go_wp2_with fail
          refine (same_c a9 a10 n9 c9 n10 c10 ys yl yt yp D10 _ hk10 (hs9.le hg10.le) hs10).mono ?_
          rintro e w11 ⟨rfl, hb11⟩
          have hgn : Grow wr D8 w11 D10 := ((((hg9.alloc _).trans hg10).alloc _).trans (Grow.of_below hk10 hb11))
          clear q10 q10'
          go_wp2
          go_roundw
          case rel => exact ⟨m + 1, D10, by omega, by go_num, hg8.trans hgn, hle8.trans hgn.le, bd8.grow hgn, bo8.grow hgn, bi8.grow hgn, bc8.grow hgn⟩
          case measure => simp [intOf]; omega
        · obtain rfl : m = 2 := by omega
          obtain ⟨rb, ec, HF⟩ : ∃ rb ec, Hid (readF ⟨xs, l, t, s⟩ iv = (rb, ec)) := ⟨_, _, Lib.hid rfl⟩
          go_wp2_with fail
          refine (read_c A n c xs l t iv s D8 _ hk8 hs8).mono ?_
          rintro e w9 ⟨a9, n9, c9, D9, rfl, hg9, hb9⟩
          rw [HF.out] at hb9 ⊢
          have q9 := (bd8.grow hg9).cell
          clear q8
          go_wp2_with fail
          refine (refRead_c A n c xs l t iv s D9 _ hg9.keeps (hs8.le hg9.le)).mono ?_
          rintro e w10 ⟨a10, n10, c10, D10, rfl, hg10, hb10⟩
          rw [HF.out] at hb10 ⊢
          have e1 := run_string_bs (P := Try.prog) hg10.keeps Try.underlying32 Try.underlying5 Try.underlying9 (hb9.le hg10.le)
          have e2 := run_string_bs (P := Try.prog) hg10.keeps Try.underlying32 Try.underlying5 Try.underlying9 hb10
          have hgn := hg9.trans hg10
          clear q9
          go_wp2
          go_roundw
          case rel => exact ⟨k + 1, D10, by omega, by go_num, hg8.trans hgn, hle8.trans hgn.le, bd8.grow hgn, bo8.grow hgn, bi8.grow hgn⟩
          case measure => simp [intOf]; omega
    · obtain rfl : k = 2 := by omega
      have hk7 := hg7.keeps
      have hs7 := hs.le hg7.le
      have hw7 := hs6.le hle7
      obtain ⟨ys, yl, yt, yp, ec, HF⟩ : ∃ ys yl yt yp ec, Hid (stopF ⟨xs, l, t, s⟩ lf tr = (⟨ys, yl, yt, yp⟩, ec)) := ⟨_, _, _, _, _, Lib.hid rfl⟩
      have q7 := bd7.cell
      go_wp2_with fail
      refine (stop_c A n c xs l t s lf tr D7 _ hk7 hs7).mono ?_
      rintro e w9 ⟨a9, n9, c9, rfl, hb9, hs9⟩
      rw [HF.out] at hs9 ⊢
      have hg9 := Grow.of_below hk7 hb9
      have bx9 := Box.new hg9.keeps 26 #[.slice a9 n9 c9, .int .i64 yl, .int .i64 yt, .bool yp]
      have bd9 := (bd7.grow hg9).alloc (.cells #[.slice a9 n9 c9, .int .i64 yl, .int .i64 yt, .bool yp] 26)
      have bo9 := (bo7.grow hg9).alloc (.cells #[.slice a9 n9 c9, .int .i64 yl, .int .i64 yt, .bool yp] 26)
      have hk9 := hg9.keeps.alloc (.cells #[.slice a9 n9 c9, .int .i64 yl, .int .i64 yt, .bool yp] 26)
      have q9 := bd9.cell
      clear q7
      go_wp2_with fail
      refine (refStop_c A n c xs l t s lf tr D7 _ hk9 hs7).mono ?_
      rintro e w10 ⟨a10, n10, c10, rfl, hb10, hs10⟩
      rw [HF.out] at hs10 ⊢
      have hg10 := Grow.of_below hk9 hb10
      have by10 := Box.new hg10.keeps 26 #[.slice a10 n10 c10, .int .i64 yl, .int .i64 yt, .bool yp]
      have bx10 := (bx9.grow hg10).alloc (.cells #[.slice a10 n10 c10, .int .i64 yl, .int .i64 yt, .bool yp] 26)
      have bd10 := (bd9.grow hg10).alloc (.cells #[.slice a10 n10 c10, .int .i64 yl, .int .i64 yt, .bool yp] 26)
      have bo10 := (bo9.grow hg10).alloc (.cells #[.slice a10 n10 c10, .int .i64 yl, .int .i64 yt, .bool yp] 26)
      have hk10 := hg10.keeps.alloc (.cells #[.slice a10 n10 c10, .int .i64 yl, .int .i64 yt, .bool yp] 26)
      have hgw : Grow w (oldD w) (w10.alloc (.cells #[.slice a10 n10 c10, .int .i64 yl, .int .i64 yt, .bool yp] 26)) D7 := (((hg7.trans hg9).alloc _).trans hg10).alloc _
      clear q9
      go_wp2_with fail
      generalize hW : w10.alloc (.cells #[.slice a10 n10 c10, .int .i64 yl, .int .i64 yt, .bool yp] 26) = wq at *
      clear hW
      have r10 : RB w D7 w.heap.size w3.heap.size w9.heap.size w10.heap.size #[.slice A n c, .int .i64 l, .int .i64 t, .bool s] #[.slice A3 n3 c3, .int .i64 l, .int .i64 t, .bool s] #[.slice a9 n9 c9, .int .i64 yl, .int .i64 yt, .bool yp] #[.slice a10 n10 c10, .int .i64 yl, .int .i64 yt, .bool yp] wq := ⟨hgw.below, hk10, bd10, bo10, bx10, by10⟩
      have RS : Hid (∀ W, RB w D7 w.heap.size w3.heap.size w9.heap.size w10.heap.size #[.slice A n c, .int .i64 l, .int .i64 t, .bool s] #[.slice A3 n3 c3, .int .i64 l, .int .i64 t, .bool s] #[.slice a9 n9 c9, .int .i64 yl, .int .i64 yt, .bool yp] #[.slice a10 n10 c10, .int .i64 yl, .int .i64 yt, .bool yp] W → (W.cell? ⟨w.heap.size, 0, none⟩ = some (.slice A n c) ∧ W.cell? ⟨w.heap.size, 1, none⟩ = some (.int .i64 l) ∧ W.cell? ⟨w.heap.size, 2, none⟩ = some (.int .i64 t) ∧ W.cell? ⟨w.heap.size, 3, none⟩ = some (.bool s) ∧ W.cell? ⟨w3.heap.size, 0, none⟩ = some (.slice A3 n3 c3) ∧ W.cell? ⟨w3.heap.size, 1, none⟩ = some (.int .i64 l) ∧ W.cell? ⟨w3.heap.size, 2, none⟩ = some (.int .i64 t) ∧ W.cell? ⟨w3.heap.size, 3, none⟩ = some (.bool s) ∧ W.cell? ⟨w9.heap.size, 0, none⟩ = some (.slice a9 n9 c9) ∧ W.cell? ⟨w9.heap.size, 1, none⟩ = some (.int .i64 yl) ∧ W.cell? ⟨w9.heap.size, 2, none⟩ = some (.int .i64 yt) ∧ W.cell? ⟨w9.heap.size, 3, none⟩ = some (.bool yp) ∧ W.cell? ⟨w10.heap.size, 0, none⟩ = some (.slice a10 n10 c10) ∧ W.cell? ⟨w10.heap.size, 1, none⟩ = some (.int .i64 yl) ∧ W.cell? ⟨w10.heap.size, 2, none⟩ = some (.int .i64 yt) ∧ W.cell? ⟨w10.heap.size, 3, none⟩ = some (.bool yp))) := Lib.hid (fun W h => ⟨h.2.2.1.cell 0, h.2.2.1.cell 1, h.2.2.1.cell 2, h.2.2.1.cell 3, h.2.2.2.1.cell 0, h.2.2.2.1.cell 1, h.2.2.2.1.cell 2, h.2.2.2.1.cell 3, h.2.2.2.2.1.cell 0, h.2.2.2.2.1.cell 1, h.2.2.2.2.1.cell 2, h.2.2.2.2.1.cell 3, h.2.2.2.2.2.cell 0, h.2.2.2.2.2.cell 1, h.2.2.2.2.2.cell 2, h.2.2.2.2.2.cell 3⟩)
      clear bd10 bo10 bx10 by10 hk10
      go_region_held3 (fun W => W.cell? ⟨w.heap.size, 0, none⟩ = some (.slice A n c) ∧ W.cell? ⟨w.heap.size, 1, none⟩ = some (.int .i64 l) ∧ W.cell? ⟨w.heap.size, 2, none⟩ = some (.int .i64 t) ∧ W.cell? ⟨w.heap.size, 3, none⟩ = some (.bool s) ∧ W.cell? ⟨w3.heap.size, 0, none⟩ = some (.slice A3 n3 c3) ∧ W.cell? ⟨w3.heap.size, 1, none⟩ = some (.int .i64 l) ∧ W.cell? ⟨w3.heap.size, 2, none⟩ = some (.int .i64 t) ∧ W.cell? ⟨w3.heap.size, 3, none⟩ = some (.bool s) ∧ W.cell? ⟨w9.heap.size, 0, none⟩ = some (.slice a9 n9 c9) ∧ W.cell? ⟨w9.heap.size, 1, none⟩ = some (.int .i64 yl) ∧ W.cell? ⟨w9.heap.size, 2, none⟩ = some (.int .i64 yt) ∧ W.cell? ⟨w9.heap.size, 3, none⟩ = some (.bool yp) ∧ W.cell? ⟨w10.heap.size, 0, none⟩ = some (.slice a10 n10 c10) ∧ W.cell? ⟨w10.heap.size, 1, none⟩ = some (.int .i64 yl) ∧ W.cell? ⟨w10.heap.size, 2, none⟩ = some (.int .i64 yt) ∧ W.cell? ⟨w10.heap.size, 3, none⟩ = some (.bool yp))
        (first | (refine RS.out _ ?_; first | (with_reducible assumption) | (refine RB.drew ?_; with_reducible assumption)) | go_keep)
        (first
          | (go_at_call 17; ((with_reducible refine (same_c a9 a10 n9 c9 n10 c10 ys yl yt yp D7 _ (RB.keeps (w0 := w) (g1 := w.heap.size) (g2 := w3.heap.size) (g3 := w9.heap.size) (g4 := w10.heap.size) (c1 := #[.slice A n c, .int .i64 l, .int .i64 t, .bool s]) (c2 := #[.slice A3 n3 c3, .int .i64 l, .int .i64 t, .bool s]) (c3 := #[.slice a9 n9 c9, .int .i64 yl, .int .i64 yt, .bool yp]) (c4 := #[.slice a10 n10 c10, .int .i64 yl, .int .i64 yt, .bool yp]) (by first | (with_reducible assumption) | (refine RB.drew ?_; with_reducible assumption))) hs9 hs10).mono ?_)); rintro e w11 ⟨rfl, hb11⟩; have r11 : RB w D7 w.heap.size w3.heap.size w9.heap.size w10.heap.size #[.slice A n c, .int .i64 l, .int .i64 t, .bool s] #[.slice A3 n3 c3, .int .i64 l, .int .i64 t, .bool s] #[.slice a9 n9 c9, .int .i64 yl, .int .i64 yt, .bool yp] #[.slice a10 n10 c10, .int .i64 yl, .int .i64 yt, .bool yp] w11 := RB.below (by first | (with_reducible assumption) | (refine RB.drew ?_; with_reducible assumption)) hb11)
          | (go_at_call 17; ((with_reducible refine (same_c A A3 n c n3 c3 xs l t s D7 _ (RB.keeps (w0 := w) (g1 := w.heap.size) (g2 := w3.heap.size) (g3 := w9.heap.size) (g4 := w10.heap.size) (c1 := #[.slice A n c, .int .i64 l, .int .i64 t, .bool s]) (c2 := #[.slice A3 n3 c3, .int .i64 l, .int .i64 t, .bool s]) (c3 := #[.slice a9 n9 c9, .int .i64 yl, .int .i64 yt, .bool yp]) (c4 := #[.slice a10 n10 c10, .int .i64 yl, .int .i64 yt, .bool yp]) (by first | (with_reducible assumption) | (refine RB.drew ?_; with_reducible assumption))) hs7 hw7).mono ?_)); rintro e w11 ⟨rfl, hb11⟩; have r11 : RB w D7 w.heap.size w3.heap.size w9.heap.size w10.heap.size #[.slice A n c, .int .i64 l, .int .i64 t, .bool s] #[.slice A3 n3 c3, .int .i64 l, .int .i64 t, .bool s] #[.slice a9 n9 c9, .int .i64 yl, .int .i64 yt, .bool yp] #[.slice a10 n10 c10, .int .i64 yl, .int .i64 yt, .bool yp] w11 := RB.below (by first | (with_reducible assumption) | (refine RB.drew ?_; with_reducible assumption)) hb11)
          | (go_at_call 17; ((with_reducible refine (same_c A A n c n c xs (-1) 0 false D7 _ (RB.keeps (w0 := w) (g1 := w.heap.size) (g2 := w3.heap.size) (g3 := w9.heap.size) (g4 := w10.heap.size) (c1 := #[.slice A n c, .int .i64 l, .int .i64 t, .bool s]) (c2 := #[.slice A3 n3 c3, .int .i64 l, .int .i64 t, .bool s]) (c3 := #[.slice a9 n9 c9, .int .i64 yl, .int .i64 yt, .bool yp]) (c4 := #[.slice a10 n10 c10, .int .i64 yl, .int .i64 yt, .bool yp]) (by first | (with_reducible assumption) | (refine RB.drew ?_; with_reducible assumption))) hs7 hs7).mono ?_)); rintro e w11 ⟨rfl, hb11⟩; have r11 : RB w D7 w.heap.size w3.heap.size w9.heap.size w10.heap.size #[.slice A n c, .int .i64 l, .int .i64 t, .bool s] #[.slice A3 n3 c3, .int .i64 l, .int .i64 t, .bool s] #[.slice a9 n9 c9, .int .i64 yl, .int .i64 yt, .bool yp] #[.slice a10 n10 c10, .int .i64 yl, .int .i64 yt, .bool yp] w11 := RB.below (by first | (with_reducible assumption) | (refine RB.drew ?_; with_reducible assumption)) hb11)
          | (go_at_call 29; ((with_reducible refine (check_c A n c xs l t s D7 _ (RB.keeps (w0 := w) (g1 := w.heap.size) (g2 := w3.heap.size) (g3 := w9.heap.size) (g4 := w10.heap.size) (c1 := #[.slice A n c, .int .i64 l, .int .i64 t, .bool s]) (c2 := #[.slice A3 n3 c3, .int .i64 l, .int .i64 t, .bool s]) (c3 := #[.slice a9 n9 c9, .int .i64 yl, .int .i64 yt, .bool yp]) (c4 := #[.slice a10 n10 c10, .int .i64 yl, .int .i64 yt, .bool yp]) (by first | (with_reducible assumption) | (refine RB.drew ?_; with_reducible assumption))) hs7).mono ?_)); rintro e w11 ⟨rfl, hb11⟩; have r11 : RB w D7 w.heap.size w3.heap.size w9.heap.size w10.heap.size #[.slice A n c, .int .i64 l, .int .i64 t, .bool s] #[.slice A3 n3 c3, .int .i64 l, .int .i64 t, .bool s] #[.slice a9 n9 c9, .int .i64 yl, .int .i64 yt, .bool yp] #[.slice a10 n10 c10, .int .i64 yl, .int .i64 yt, .bool yp] w11 := RB.below (by first | (with_reducible assumption) | (refine RB.drew ?_; with_reducible assumption)) hb11)
          | (go_at_call 30; ((with_reducible refine (refCheck_c A n c xs l t s D7 _ (RB.keeps (w0 := w) (g1 := w.heap.size) (g2 := w3.heap.size) (g3 := w9.heap.size) (g4 := w10.heap.size) (c1 := #[.slice A n c, .int .i64 l, .int .i64 t, .bool s]) (c2 := #[.slice A3 n3 c3, .int .i64 l, .int .i64 t, .bool s]) (c3 := #[.slice a9 n9 c9, .int .i64 yl, .int .i64 yt, .bool yp]) (c4 := #[.slice a10 n10 c10, .int .i64 yl, .int .i64 yt, .bool yp]) (by first | (with_reducible assumption) | (refine RB.drew ?_; with_reducible assumption))) hs7).mono ?_)); rintro e w11 ⟨rfl, hb11⟩; have r11 : RB w D7 w.heap.size w3.heap.size w9.heap.size w10.heap.size #[.slice A n c, .int .i64 l, .int .i64 t, .bool s] #[.slice A3 n3 c3, .int .i64 l, .int .i64 t, .bool s] #[.slice a9 n9 c9, .int .i64 yl, .int .i64 yt, .bool yp] #[.slice a10 n10 c10, .int .i64 yl, .int .i64 yt, .bool yp] w11 := RB.below (by first | (with_reducible assumption) | (refine RB.drew ?_; with_reducible assumption)) hb11)
          | (go_at_call 31; ((with_reducible refine (restart_c A n c l t s _).mono ?_)); rintro e w11 ⟨rfl, hb11⟩; have r11 : RB w D7 w.heap.size w3.heap.size w9.heap.size w10.heap.size #[.slice A n c, .int .i64 l, .int .i64 t, .bool s] #[.slice A3 n3 c3, .int .i64 l, .int .i64 t, .bool s] #[.slice a9 n9 c9, .int .i64 yl, .int .i64 yt, .bool yp] #[.slice a10 n10 c10, .int .i64 yl, .int .i64 yt, .bool yp] w11 := RB.below (by first | (with_reducible assumption) | (refine RB.drew ?_; with_reducible assumption)) hb11)
          | (go_at_call 22; ((with_reducible refine (refRestart_c A n c l t s _).mono ?_)); rintro e w11 ⟨rfl, hb11⟩; have r11 : RB w D7 w.heap.size w3.heap.size w9.heap.size w10.heap.size #[.slice A n c, .int .i64 l, .int .i64 t, .bool s] #[.slice A3 n3 c3, .int .i64 l, .int .i64 t, .bool s] #[.slice a9 n9 c9, .int .i64 yl, .int .i64 yt, .bool yp] #[.slice a10 n10 c10, .int .i64 yl, .int .i64 yt, .bool yp] w11 := RB.below (by first | (with_reducible assumption) | (refine RB.drew ?_; with_reducible assumption)) hb11))
      all_goals
        go_wp2
        go_ret
        exact ⟨rfl, RB.bel (D := D7) (g1 := w.heap.size) (g2 := w3.heap.size) (g3 := w9.heap.size) (g4 := w10.heap.size) (by with_reducible assumption)⟩
end Go.Proofs.Ytegkmkglagmdiaa
