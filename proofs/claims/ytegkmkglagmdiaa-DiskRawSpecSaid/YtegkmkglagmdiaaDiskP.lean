/-
  What is proved here: the examples of the chapter on disks hold (sane)
-/
import Derived.Test.YtegkmkglagmdiaaRows
import Derived.Test.YtegkmkglagmdiaaDiskO
import Derived.Test.YtegkmkglagmdiaaBaseB
import Derived.Deep.RegionHeld3
import Derived.Deep.RegionLaw
import Derived.Deep.DeepCutAuto
import Derived.Deep.QuietTactic
import Derived.BigQuiet
import Derived.Laws.EntriesVeiled
namespace Go.Proofs.Ytegkmkglagmdiaa
open Go.RowKit Go.VS

def dsk2 : Dsk := ⟨[zeros128, zeros128], -1, 0, false⟩
theorem sa_read : readF dsk2 0 = (zeros128, 0) := by decide +kernel
theorem sa_write (b : List UInt8) (h : b.length = 127) : writeF dsk2 0 b = (zeroD, 1) := by unfold writeF; rw [if_pos (.inr (by omega))]
theorem sa_stop1 : stopF dsk2 (-2) 0 = (zeroD, 1) := by unfold stopF; rw [if_pos (.inr (.inl (by omega)))]
theorem sa_stop2 : stopF dsk2 0 3 = (⟨[zeros128, zeros128], 0, 3, false⟩, 0) := by
  unfold stopF; rw [if_neg (by have : chk dsk2 = 0 := by decide +kernel
                               rw [this]; simp), if_neg (by decide)]; rfl
def tornB : List UInt8 := (wholeB 7).take 3 ++ zeros128.drop 3
theorem torn2 (h : 2 < tornB.length) : (tornB[2]'h).toNat = 7 := by rfl
theorem torn3 (h : 3 < tornB.length) : (tornB[3]'h).toNat = 0 := by rfl
theorem sa_write2 : writeF ⟨[zeros128, zeros128], 0, 3, false⟩ 1 (wholeB 7) = (⟨[zeros128, tornB], 0, 3, true⟩, 410) := by
  have h1 : chkAt ⟨[zeros128, zeros128], 0, 3, false⟩ 1 = 0 := by decide +kernel
  unfold writeF; rw [if_neg (by rw [h1]; simp [wholeB]), if_neg (by decide), if_pos rfl]; rfl
theorem mk127 (w : World) : (Instr.makeSlice 32 (.int .i64 127) (.int .i64 127)).run Try.prog w = .ok (.slice (some ⟨w.heap.size, 0, none⟩) 127 127) (w.alloc (.cells ((List.replicate 127 (0 : UInt8)).map bv).toArray 5)) := by kernel_rfl
theorem keeps0 (w : World) : Keeps (fun _ _ => none) w := fun _ _ _ h => by cases h

set_option maxHeartbeats 1000000 in
theorem write_len_c (A : Option Addr) (n c : Nat) (xs : List (List UInt8)) (l t at_ : Int) (s : Bool) (bA : Option Addr) (bn bc : Nat) (D : Gh) (w : World) (hk : Keeps D w) (hs : SS D (.slice A n c) xs) (hbn : ¬ bn = 128) :
    Calls Try.prog 19 #[.agg #[.slice A n c, .int .i64 l, .int .i64 t, .bool s], .int .i64 at_, .slice bA bn bc] w fun e w' => e = .returned (.tuple #[.agg #[.slice none 0 0, .int .i64 0, .int .i64 0, .bool false], .int .i64 1]) ∧ Below w.heap.size w w' := by
  have hb128 : ((bn : Int) != 128) = true := by simp; omega
  have HC := fun W hk => Lib.hid (checkAt_c A n c xs l t at_ s D W hk hs)
  rcases chkAt01 ⟨xs, l, t, s⟩ at_ with h0 | h0
  · have H0 := Lib.hid h0
    clear h0
    go_enter Try.func19, Try.ntmps19
    go_wp2_with fail
    refine (HC _ (by repeat (with_reducible first | assumption | refine Keeps.drew ?_ | refine Keeps.drewN ?_ _ | refine Keeps.alloc ?_ _ | exact Grow.keeps (by assumption)))).out.mono ?_
    rintro e w1 ⟨rfl, hb1⟩
    rw [H0.out]
    have bx := (Box.new (hk.alloc (.cells #[.slice A n c, .int .i64 l, .int .i64 t, .bool s] 26)) 26 #[.slice none 0 0, .int .i64 0, .int .i64 0, .bool false]).below hb1 (by simp)
    simp only [World.size_alloc] at bx
    have q := bx.cell
    have f := bx.frozen
    go_wp2
    exact bodyPost_ret (v := .tuple #[.agg #[.slice none 0 0, .int .i64 0, .int .i64 0, .bool false], .int .i64 1]) (by simp [results, Try.results19, go_sem, q]) rfl ⟨rfl, (by repeat (first | (with_reducible exact Below.refl _ _) | (with_reducible refine Below.drew ?_) | (with_reducible refine belowDrewN ?_ _) | (with_reducible refine belowAlloc ?_ _) | ((with_reducible refine belowSet2 ?_ ?_); omega) | (with_reducible assumption) | (with_reducible refine belowVia (by assumption) ?_) | (with_reducible refine belowVia (Grow.below (by assumption)) ?_)))⟩
  · have H0 := Lib.hid h0
    clear h0
    go_enter Try.func19, Try.ntmps19
    go_wp2_with fail
    refine (HC _ (by repeat (with_reducible first | assumption | refine Keeps.drew ?_ | refine Keeps.drewN ?_ _ | refine Keeps.alloc ?_ _ | exact Grow.keeps (by assumption)))).out.mono ?_
    rintro e w1 ⟨rfl, hb1⟩
    rw [H0.out]
    have bx := (Box.new (hk.alloc (.cells #[.slice A n c, .int .i64 l, .int .i64 t, .bool s] 26)) 26 #[.slice none 0 0, .int .i64 0, .int .i64 0, .bool false]).below hb1 (by simp)
    simp only [World.size_alloc] at bx
    have q := bx.cell
    have f := bx.frozen
    go_wp2
    exact bodyPost_ret (v := .tuple #[.agg #[.slice none 0 0, .int .i64 0, .int .i64 0, .bool false], .int .i64 1]) (by simp [results, Try.results19, go_sem, q]) rfl ⟨rfl, (by repeat (first | (with_reducible exact Below.refl _ _) | (with_reducible refine Below.drew ?_) | (with_reducible refine belowDrewN ?_ _) | (with_reducible refine belowAlloc ?_ _) | ((with_reducible refine belowSet2 ?_ ?_); omega) | (with_reducible assumption) | (with_reducible refine belowVia (by assumption) ?_) | (with_reducible refine belowVia (Grow.below (by assumption)) ?_)))⟩

set_option maxRecDepth 100000 in
set_option maxHeartbeats 4000000 in
theorem sane41_c (w : World) : Calls Try.prog 14 #[] w fun e w' => e = .returned (.bool true) ∧ Below w.heap.size w w' := by
  have hm := mk127
  go_enter Try.func14, Try.ntmps14
  go_wp2_with fail
  refine (new_bad 0 _ (by omega)).mono ?_
  rintro e w1 ⟨rfl, hb1⟩
  go_wp2_with fail
  refine (new_ok 2 (fun _ _ => none) _ (keeps0 _) (by omega) (by omega)).mono ?_
  rintro e w2 ⟨A, c, D2, rfl, hg2, hs2⟩
  go_wp2_with fail
  have hs2' : SS D2 (.slice A 2 c) dsk2.secs := hs2
  refine (read_c A 2 c dsk2.secs (-1) 0 0 false D2 _ (hg2.keeps.alloc _) hs2').mono ?_
  rintro e w3 ⟨ra, rn, rc, D3, rfl, hg3, hr3⟩
  rw [show readF ⟨dsk2.secs, -1, 0, false⟩ 0 = (zeros128, 0) from sa_read] at hr3 ⊢
  have bd3 := (Box.new hg2.keeps 26 #[.slice A 2 c, .int .i64 (-1), .int .i64 0, .bool false]).grow hg3
  have q3 := bd3.cell
  go_wp2_with fail
  go_cut [8] (fun h wx => h = .int .i64 1 ∧ Grow w3 D3 wx D3)
  case first =>
    have SH : Hid (∀ W, Box W D3 w2.heap.size 26 #[.slice A 2 c, .int .i64 (-1), .int .i64 0, .bool false] → (W.cell? ⟨w2.heap.size, 0, none⟩ = some (.slice A 2 c) ∧ W.cell? ⟨w2.heap.size, 1, none⟩ = some (.int .i64 (-1)) ∧ W.cell? ⟨w2.heap.size, 2, none⟩ = some (.int .i64 0) ∧ W.cell? ⟨w2.heap.size, 3, none⟩ = some (.bool false))) := fun W h => h.cells4
    have hk3 := hg3.keeps
    have hs3 := hs2'.le hg3.le
    obtain ⟨k0, k1, k2, k3⟩ := SH.out _ bd3
    have hl3 := bd3.lt
    clear q3
    go_region_held3 (fun w' => w'.cell? ⟨w2.heap.size, 0, none⟩ = some (.slice A 2 c) ∧ w'.cell? ⟨w2.heap.size, 1, none⟩ = some (.int .i64 (-1)) ∧ w'.cell? ⟨w2.heap.size, 2, none⟩ = some (.int .i64 0) ∧ w'.cell? ⟨w2.heap.size, 3, none⟩ = some (.bool false))
      (first | (refine SH.out _ ?_; (repeat (first | (with_reducible assumption) | (with_reducible refine Box.drew ?_) | (with_reducible refine Box.alloc ?_ _) | ((with_reducible refine Box.far2 ?_ ?_); omega))); done) | go_keep)
      (first | (go_at_call 19; refine (write_len_c A 2 c dsk2.secs (-1) 0 0 false _ 127 _ D3 _ (by repeat (with_reducible first | assumption | refine Keeps.drew ?_ | refine Keeps.drewN ?_ _ | refine Keeps.alloc ?_ _ | exact Grow.keeps (by assumption))) hs3 (by omega)).mono ?_; rintro e w4 ⟨rfl, hb4⟩; have bd4 : Box w4 D3 w2.heap.size 26 #[.slice A 2 c, .int .i64 (-1), .int .i64 0, .bool false] := Box.below (by (repeat (with_reducible first | assumption | refine Box.drew ?_ | refine Box.alloc ?_ _)); done) hb4 (by simp; omega); obtain ⟨hcw, hfw⟩ := bcell hb4))
    all_goals
      go_wp2_with fail
      go_meet
      exact ⟨rfl, Grow.of_below hk3 (by repeat (first | (with_reducible exact Below.refl _ _) | (with_reducible refine Below.drew ?_) | (with_reducible refine belowDrewN ?_ _) | (with_reducible refine belowAlloc ?_ _) | ((with_reducible refine belowSet2 ?_ ?_); omega) | (with_reducible assumption) | (with_reducible refine belowVia (by assumption) ?_) | (with_reducible refine belowVia (Grow.below (by assumption)) ?_)))⟩
  case rest =>
    obtain ⟨rfl, hg4⟩ := hcut
    have bd4 := bd3.grow hg4
    have hl4 := bd4.lt
    have hs4 := hs2'.le hg3.le
    have q4 := bd4.cell
    clear q3
    go_wp2_with fail
    refine (stop_c A 2 c dsk2.secs (-1) 0 false (-2) 0 D3 _ (by repeat (with_reducible first | assumption | refine Keeps.drew ?_ | refine Keeps.drewN ?_ _ | refine Keeps.alloc ?_ _ | exact Grow.keeps (by assumption))) hs4).mono ?_
    rintro e w5 ⟨a5, n5, c5, rfl, hb5, hs5⟩
    rw [show stopF ⟨dsk2.secs, -1, 0, false⟩ (-2) 0 = (zeroD, 1) from sa_stop1] at hs5 ⊢
    have hg5 := Grow.of_below hg4.keeps hb5
    have bd5 := bd4.grow hg5
    have hl5 := bd5.lt
    have q5 := bd5.cell
    clear q4
    go_wp2_with fail
    refine (stop_c A 2 c dsk2.secs (-1) 0 false 0 3 D3 _ (by repeat (with_reducible first | assumption | refine Keeps.drew ?_ | refine Keeps.drewN ?_ _ | refine Keeps.alloc ?_ _ | exact Grow.keeps (by assumption))) hs4).mono ?_
    rintro e w6 ⟨a6, n6, c6, rfl, hb6, hs6⟩
    rw [show stopF ⟨dsk2.secs, -1, 0, false⟩ 0 3 = (⟨[zeros128, zeros128], 0, 3, false⟩, 0) from sa_stop2] at hs6 ⊢
    have bd6 := (bd5.alloc _).below hb6 (by simp; omega)
    have hk6 : Keeps D3 w6 := (hg5.keeps.alloc _).below hb6 (Nat.le_refl _)
    have hl6 := bd6.lt
    have q6 := bd6.cell
    clear q5
    have bx7 := Box.new hk6 26 #[.slice a6 n6 c6, .int .i64 0, .int .i64 3, .bool false]
    have bd7 := bd6.alloc (.cells #[.slice a6 n6 c6, .int .i64 0, .int .i64 3, .bool false] 26)
    have hk7 := hk6.alloc (.cells #[.slice a6 n6 c6, .int .i64 0, .int .i64 3, .bool false] 26)
    go_wp2_with fail
    go_cut [13, 14] (fun y k wx => ∃ (D' : Gh) (gy : Nat) (yA : Option Addr) (yn yc : Nat), y = .pointer (some ⟨gy, 0, none⟩) ∧ k = .int .i64 410 ∧ Grow (w6.alloc (.cells #[.slice a6 n6 c6, .int .i64 0, .int .i64 3, .bool false] 26)) D3 wx D' ∧ Box wx D' gy 26 #[.slice yA yn yc, .int .i64 0, .int .i64 3, .bool true] ∧ SS D' (.slice yA yn yc) [zeros128, tornB])
    case first =>
      have SH : Hid (∀ W D', Box W D' w6.heap.size 26 #[.slice a6 n6 c6, .int .i64 0, .int .i64 3, .bool false] → (W.cell? ⟨w6.heap.size, 0, none⟩ = some (.slice a6 n6 c6) ∧ W.cell? ⟨w6.heap.size, 1, none⟩ = some (.int .i64 0) ∧ W.cell? ⟨w6.heap.size, 2, none⟩ = some (.int .i64 3) ∧ W.cell? ⟨w6.heap.size, 3, none⟩ = some (.bool false))) := fun W D' h => h.cells4
      have hl7 := bx7.lt
      clear q6
      go_region_held3 (fun w' => w'.cell? ⟨w6.heap.size, 0, none⟩ = some (.slice a6 n6 c6) ∧ w'.cell? ⟨w6.heap.size, 1, none⟩ = some (.int .i64 0) ∧ w'.cell? ⟨w6.heap.size, 2, none⟩ = some (.int .i64 3) ∧ w'.cell? ⟨w6.heap.size, 3, none⟩ = some (.bool false))
        (first | (refine SH.out _ D3 ?_; (repeat (first | (with_reducible assumption) | (with_reducible refine Box.drew ?_) | (with_reducible refine Box.alloc ?_ _) | ((with_reducible refine Box.far2 ?_ ?_); omega))); done) | (refine SH.out _ D8 ?_; (repeat (first | (with_reducible assumption) | (with_reducible refine Box.drew ?_) | (with_reducible refine Box.alloc ?_ _) | ((with_reducible refine Box.far2 ?_ ?_); omega))); done) | (refine SH.out _ D9 ?_; (repeat (first | (with_reducible assumption) | (with_reducible refine Box.drew ?_) | (with_reducible refine Box.alloc ?_ _) | ((with_reducible refine Box.far2 ?_ ?_); omega))); done) | go_keep)
        (first
          | (go_at_call 20; refine (whole_c 7 D3 _ (by repeat (with_reducible first | assumption | refine Keeps.drew ?_ | refine Keeps.drewN ?_ _ | refine Keeps.alloc ?_ _ | exact Grow.keeps (by assumption)))).mono ?_; rintro e w8 ⟨a8, D8, rfl, hg8, hb8⟩; have bx8 : Box w8 D8 w6.heap.size 26 #[.slice a6 n6 c6, .int .i64 0, .int .i64 3, .bool false] := Box.grow (by (repeat (with_reducible first | assumption | refine Box.drew ?_ | refine Box.alloc ?_ _)); done) hg8; have hl8 := bx8.lt; have hz8 := hg8.below.size; simp only [World.size_drew, World.size_alloc] at hz8; (try have hz8' : w6.heap.size + 1 < w8.heap.size := by omega); obtain ⟨hcw8, hfw8⟩ := bcell hg8.below)
          | (go_at_call 19; refine (write_c a6 n6 c6 [zeros128, zeros128] 0 3 1 false _ 128 _ (wholeB 7) D8 _ (by repeat (with_reducible first | assumption | refine Keeps.drew ?_ | refine Keeps.drewN ?_ _ | refine Keeps.alloc ?_ _ | exact Grow.keeps (by assumption))) (hs6.le hg8.le) hb8 (by omega)).mono ?_; rintro e w9 ⟨a9, n9, c9, D9, rfl, hg9, hs9⟩; rw [sa_write2] at hs9 ⊢; have bx9 : Box w9 D9 w6.heap.size 26 #[.slice a6 n6 c6, .int .i64 0, .int .i64 3, .bool false] := Box.grow (by (repeat (with_reducible first | assumption | refine Box.drew ?_ | refine Box.alloc ?_ _)); done) hg9; obtain ⟨hcw9, hfw9⟩ := bcell hg9.below))
      · go_wp2_with fail
        go_meet
        exact ⟨D9, _, a9, n9, c9, rfl, rfl, Grow.alloc (by repeat (with_reducible first | assumption | exact Grow.refl (by assumption) | refine Grow.drew ?_ | refine Grow.drewN ?_ _ | refine Grow.alloc ?_ _ | refine Grow.trans ?_ (by assumption))) _, Box.new hg9.keeps _ _, hs9⟩
      · go_wp2_with fail
        go_meet
        have hB := (Box.new hg8.keeps 26 #[.slice none 0 0, .int .i64 0, .int .i64 0, .bool false]).grow hg9
        exact ⟨D9, _, a9, n9, c9, rfl, rfl, Grow.set4 (by repeat (with_reducible first | assumption | exact Grow.refl (by assumption) | refine Grow.drew ?_ | refine Grow.drewN ?_ _ | refine Grow.alloc ?_ _ | refine Grow.trans ?_ (by assumption))) (by rw [World.size_alloc]; omega) hB.off _ _ _ _, hB.set4 _ _ _ _, hs9⟩
      · go_wp2_with fail
        go_meet
        have hB := ((Box.new hk7 26 #[.slice none 0 0, .int .i64 0, .int .i64 0, .bool false]).drew.grow hg8).grow hg9
        rw [World.size_alloc] at hB
        exact ⟨D9, _, a9, n9, c9, rfl, rfl, Grow.set4 (by repeat (with_reducible first | assumption | exact Grow.refl (by assumption) | refine Grow.drew ?_ | refine Grow.drewN ?_ _ | refine Grow.alloc ?_ _ | refine Grow.trans ?_ (by assumption))) (by rw [World.size_alloc]; omega) hB.off _ _ _ _, hB.set4 _ _ _ _, hs9⟩
    case rest =>
      obtain ⟨D9, gy, yA, yn, yc, rfl, rfl, hg9, by9, hs9⟩ := hcut
      have bd9 := bd7.grow hg9
      clear q6
      have qd9 := bd9.cell
      have qy9 := by9.cell
      obtain ⟨hyn, _, _⟩ := hs9.len
      obtain ⟨b, o, a', c', rfl, hcell, hbs⟩ := hs9.at_ (k := 1) hg9.keeps (by simp)
      have h2 : ([zeros128, tornB] : List (List UInt8))[1] = tornB := rfl
      have h3 : tornB.length = 128 := rfl
      rw [h2, h3] at hcell hbs
      have hyn2 : yn = 2 := hyn
      subst hyn2
      obtain ⟨hrn, _, _⟩ := hr3.len
      have hrn2 : rn = 128 := hrn
      subst hrn2
      obtain ⟨b', o', rfl, hc2⟩ := hbs.at_ (k := 2) hg9.keeps (by decide)
      obtain ⟨b'', o'', e'', hc3⟩ := hbs.at_ (k := 3) hg9.keeps (by decide)
      cases e''
      rw [torn2] at hc2
      rw [torn3] at hc3
      clear hyn hrn h2 h3
      go_wp2
      go_ret
      exact ⟨rfl, (by repeat (first | (with_reducible exact Below.refl _ _) | (with_reducible refine Below.drew ?_) | (with_reducible refine belowDrewN ?_ _) | (with_reducible refine belowAlloc ?_ _) | ((with_reducible refine belowSet2 ?_ ?_); omega) | (with_reducible assumption) | (with_reducible refine belowVia (by assumption) ?_) | (with_reducible refine belowVia (Grow.below (by assumption)) ?_)))⟩
end Go.Proofs.Ytegkmkglagmdiaa
