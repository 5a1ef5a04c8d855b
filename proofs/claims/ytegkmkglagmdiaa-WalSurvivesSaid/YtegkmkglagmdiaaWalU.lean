/-
  What is proved here: sane of chapter 42, walked
-/
import Derived.Test.YtegkmkglagmdiaaRows
import Derived.Test.YtegkmkglagmdiaaBaseB
import Derived.Test.YtegkmkglagmdiaaCrc
import Derived.Test.YtegkmkglagmdiaaWalP
import Derived.Test.YtegkmkglagmdiaaWalA
import Derived.Test.YtegkmkglagmdiaaWalB
import Derived.Test.YtegkmkglagmdiaaWalC
import Derived.Test.YtegkmkglagmdiaaWalD
import Derived.Test.YtegkmkglagmdiaaWalE
import Derived.Test.YtegkmkglagmdiaaDiskF
import Derived.Test.YtegkmkglagmdiaaDiskH
import Derived.Test.YtegkmkglagmdiaaWalF
import Derived.Test.YtegkmkglagmdiaaRangeF
import Derived.Test.YtegkmkglagmdiaaWalG
import Derived.Test.YtegkmkglagmdiaaWalH
import Derived.Test.YtegkmkglagmdiaaWalI
import Derived.Test.YtegkmkglagmdiaaWalJ
import Derived.Test.YtegkmkglagmdiaaWalK
import Derived.Test.YtegkmkglagmdiaaWalL
import Derived.Test.YtegkmkglagmdiaaWalS
import Derived.Test.YtegkmkglagmdiaaWalT
import Derived.Test.YtegkmkglagmdiaaDiskI
import Derived.OwnWalkIn
import Derived.TacticsInMore
import Derived.LoopNIn
import Derived.LoopIn
import Derived.Scope
import Derived.Shelf.Abstract
import Derived.RangeFuncCalls
import Derived.Laws.BitsAllLaws
import Derived.Deep.RegionHeld3
import Derived.Deep.RegionLaw
import Derived.Deep.DeepCutAuto
import Derived.Deep.QuietTactic
import Derived.BigQuiet
import Derived.Laws.EntriesVeiled
import Derived.Deep.MidRow
import Derived.Laws.CopyRow
namespace Go.Proofs.Ytegkmkglagmdiaa
open Go.RowKit Go.VS
/-- a new variable that is only read: known from now on. -/
theorem newvar {w W : World} {D D' : Gh} (hG : Grow w D W D') (t : TypeId) (cs : Array Value) : ∃ D'', Grow w D (W.alloc (.cells cs t)) D'' ∧ D'.le D'' ∧ (∀ o u, cs[o]? = some u → D'' W.heap.size o = some u) :=
  let ⟨D'', h1, h2, h3, _⟩ := pubW (hG.alloc (.cells cs t)) (Box.new hG.keeps t cs) hG.below.size
  ⟨D'', h1, h2, h3⟩
theorem mk113 (w : World) : (Instr.makeSlice 32 (.int .i64 113) (.int .i64 113)).run Try.prog w = .ok (.slice (some ⟨w.heap.size, 0, none⟩) 113 113) (w.alloc (.cells ((List.replicate 113 (0 : UInt8)).map bv).toArray 5)) := by kernel_rfl
def secAB : List UInt8 := encS 1 0 3 [97, 98]
def z2 : List (List UInt8) := List.replicate 2 zeros128
theorem sb_chk : chk ⟨z2, -1, 0, false⟩ = 0 := by decide +kernel
theorem sb_open : scan 0 0 none ((z2.drop 0).take 1) = [] := by decide +kernel
theorem sb_log0 : chkL 0 1 [] 0 = 0 := by decide +kernel
theorem sb_log1 : chkL 0 1 [[97, 98]] 0 = 0 := by decide +kernel
theorem sb_max : gmax ((z2.drop 0).take 1) = 0 := by decide +kernel
theorem sb_sync : syncW ⟨z2, -1, 0, false⟩ 0 (recsS 1 0 [[97, 98]]) = (⟨[secAB, zeros128], -1, 0, false⟩, 0) := by
  have : recsS 1 0 [[97, 98]] = [secAB] := by simp [recsS, recS_short, secAB]
  rw [this]
  have hw : writeF ⟨z2, -1, 0, false⟩ ((0 : Nat) : Int) secAB = (⟨[secAB, zeros128], -1, 0, false⟩, 0) := by
    have h1 : chkAt ⟨z2, -1, 0, false⟩ ((0 : Nat) : Int) = 0 := by decide +kernel
    have h2 : secAB.length = 128 := by decide +kernel
    unfold writeF; rw [if_neg (by rw [h1, h2]; simp), if_neg (by decide), if_neg (by decide)]; rfl
  simp only [syncW, hw]
  rfl
theorem sb_chk2 : chk ⟨[secAB, zeros128], -1, 0, false⟩ = 0 := by decide +kernel
theorem sb_open2 : scan 0 0 none (([secAB, zeros128].drop 0).take 1) = [[97, 98]] := by decide +kernel
theorem sb_sum : crcF [49, 50, 51, 52, 53, 54, 55, 56, 57] = 3421780262 := by decide +kernel
theorem sb_sum0 : crcF [] = 0 := by decide +kernel
theorem sb_occ : occ 113 = 2 := by decide
theorem sb_room : roomF 0 1 [] 0 = 112 := by decide +kernel
/-- []byte of a constant string: the literal's row, marked; known from now on. -/
theorem conv_lit (bs : List UInt8) (hl : bs.length ≤ 1000) (D : Gh) (w : World) (hk : Keeps D w) :
    ∃ w' D', (convert 32 32 (.slice (some ⟨w.heap.size, 0, none⟩) bs.length bs.length)).run Try.prog (w.alloc (.cells (bs.map bv).toArray 5)) = .ok (.slice (some ⟨w.heap.size, 0, none⟩) bs.length bs.length) w' ∧ Grow w D w' D' ∧ BS D' (.slice (some ⟨w.heap.size, 0, none⟩) bs.length bs.length) bs := by
  have hsh : (w.alloc (.cells (bs.map bv).toArray 5)).shape? w.heap.size = some (5, (bs.map bv).toArray.size) := by
    simp [World.shape?, World.alloc, -World.alloc_eq]
  refine ⟨(w.alloc (.cells (bs.map bv).toArray 5)).freeze ⟨w.heap.size, (bs.map bv).toArray.size, none⟩ 1, D.add w.heap.size (bs.map bv), ?_, ?_, ?_⟩
  · simp only [List.size_toArray, List.length_map] at hsh
    simp [convert, run_underlying Try.underlying32, run_underlying Try.underlying5, markStringish, hsh]
  · have hb : Below w.heap.size w ((w.alloc (.cells (bs.map bv).toArray 5)).freeze ⟨w.heap.size, (bs.map bv).toArray.size, none⟩ 1) := ⟨rfl, rfl, rfl, by simp [World.freeze, World.alloc, -World.alloc_eq], fun j hj => by
      have h1 : w.heap.size ≠ j := by omega
      simp [World.freeze, World.alloc, -World.alloc_eq, Array.getElem?_modify, Array.getElem?_push, h1, Ne.symm h1]⟩
    refine ⟨hb, (hk.below hb (Nat.le_refl _)).add fun o v e => ?_, Gh.le_add (hk.offNew (Nat.le_refl _)) _, fun b hb o => off_add_lt (Nat.le_refl _) b hb o⟩
    have hh : ((w.alloc (.cells (bs.map bv).toArray 5)).freeze ⟨w.heap.size, (bs.map bv).toArray.size, none⟩ 1).heap[w.heap.size]? = some (.cells (bs.map bv).toArray 5 ((bs.map bv).toArray.size, (bs.map bv).toArray.size + 1)) := by
      simp [World.freeze, World.alloc, -World.alloc_eq]
      rw [Array.getElem_modify_self]
      simp
    rw [cell_of_row _ _ _ _ _ _ hh]
    simpa using e
  · refine ⟨some ⟨w.heap.size, 0, none⟩, bs.length, by simp, by simp, by unfold maxLen; omega, by simp, fun _ => ⟨_, _, rfl, fun j u e => ?_⟩⟩
    rw [Nat.zero_add, Gh.add_at]; exact e
theorem append_lim_ (A : Option Addr) (n c : Nat) (xs : List (List UInt8)) (f m s : Int) (Ab : Option Addr) (nb cb : Nat) (D : Gh) (w : World) (hk : Keeps D w) (hs : SS D (.slice A n c) xs) (hc : chkL f m xs s = 0)
    (hlim : ¬ (nb ≤ 65536 ∧ (occ nb : Int) ≤ m - occs xs)) (hnb : nb ≤ 1000000000000) :
    Calls Try.prog 35 #[.agg #[.int .i64 f, .int .i64 m, .slice A n c, .int .i64 s], .slice Ab nb cb] w fun e w' => e = .returned (.tuple #[.agg #[.int .i64 0, .int .i64 0, .slice none 0 0, .int .i64 0], .int .i64 2]) ∧ Below w.heap.size w w' :=
  append_lim A n c xs f m s Ab nb cb D w hk hs hc hlim hnb
set_option maxRecDepth 100000 in
set_option maxHeartbeats 20000000 in
theorem sane42_c (w : World) : Calls Try.prog 33 #[] w fun e w' => e = .returned (.bool true) ∧ Below w.heap.size w w' := by
  have hk : Keeps (fun _ _ => none) w := fun _ _ _ h => by cases h
  go_enter Try.func33, Try.ntmps33
  go_wp2_with fail
  refine (new_ok 2 _ w hk (by omega) (by omega)).mono ?_
  rintro e w1 ⟨A, c, D1, rfl, hg1, hs1⟩
  obtain ⟨D2, hg2, hle2, hat2⟩ := newvar hg1 26 #[.slice A 2 c, .int .i64 (-1), .int .i64 0, .bool false]
  have HAT2 := Lib.hid hat2
  clear hat2
  have hkc := hg2.keeps
  have q0 : (w1.alloc (.cells #[.slice A 2 c, .int .i64 (-1), .int .i64 0, .bool false] 26)).cell? ⟨w1.heap.size, 0, none⟩ = some (.slice A 2 c) := hkc _ _ _ (HAT2.out 0 _ rfl)
  have q1 : (w1.alloc (.cells #[.slice A 2 c, .int .i64 (-1), .int .i64 0, .bool false] 26)).cell? ⟨w1.heap.size, 1, none⟩ = some (.int .i64 (-1)) := hkc _ _ _ (HAT2.out 1 _ rfl)
  have q2 : (w1.alloc (.cells #[.slice A 2 c, .int .i64 (-1), .int .i64 0, .bool false] 26)).cell? ⟨w1.heap.size, 2, none⟩ = some (.int .i64 0) := hkc _ _ _ (HAT2.out 2 _ rfl)
  have q3 : (w1.alloc (.cells #[.slice A 2 c, .int .i64 (-1), .int .i64 0, .bool false] 26)).cell? ⟨w1.heap.size, 3, none⟩ = some (.bool false) := hkc _ _ _ (HAT2.out 3 _ rfl)
  go_wp2_with fail
  have hs2 : SS D2 (.slice A 2 c) z2 := hs1.le hle2
  refine (open_ok A 2 c z2 (-1) 0 0 1 D2 _ hg2.keeps hs2 sb_chk (by omega) (by omega)).mono ?_
  rintro e w3 ⟨A3, c3, D3, rfl, hg3, hs3⟩
  rw [sb_open] at hs3 ⊢
  have hG3 := hg2.trans hg3
  clear q0 q1 q2 q3 hkc
  have bl3 := Box.new (D := fun _ _ => none) (fun _ _ _ h => by cases h) 47 #[.int .i64 0, .int .i64 1, .slice A3 0 c3, .int .i64 0] (w := w3)
  obtain ⟨D4, hg4, hle4, hat4⟩ := newvar hG3 47 #[.int .i64 0, .int .i64 1, .slice A3 0 c3, .int .i64 0]
  have HAT4 := Lib.hid hat4
  clear hat4
  have hkc := hg4.keeps
  have hl24 := hg3.le.trans hle4
  replace hs3 : SS D3 (.slice A3 0 c3) [] := hs3
  have q0 : (w3.alloc (.cells #[.int .i64 0, .int .i64 1, .slice A3 0 c3, .int .i64 0] 47)).cell? ⟨w1.heap.size, 0, none⟩ = some (.slice A 2 c) := hkc _ _ _ (hl24 _ _ _ (HAT2.out 0 _ rfl))
  have q1 : (w3.alloc (.cells #[.int .i64 0, .int .i64 1, .slice A3 0 c3, .int .i64 0] 47)).cell? ⟨w1.heap.size, 1, none⟩ = some (.int .i64 (-1)) := hkc _ _ _ (hl24 _ _ _ (HAT2.out 1 _ rfl))
  have q2 : (w3.alloc (.cells #[.int .i64 0, .int .i64 1, .slice A3 0 c3, .int .i64 0] 47)).cell? ⟨w1.heap.size, 2, none⟩ = some (.int .i64 0) := hkc _ _ _ (hl24 _ _ _ (HAT2.out 2 _ rfl))
  have q3 : (w3.alloc (.cells #[.int .i64 0, .int .i64 1, .slice A3 0 c3, .int .i64 0] 47)).cell? ⟨w1.heap.size, 3, none⟩ = some (.bool false) := hkc _ _ _ (hl24 _ _ _ (HAT2.out 3 _ rfl))
  show _
  go_wp2_with fail
  refine (open_arg A 2 c z2 (-1) 0 D4 _ hg4.keeps (hs2.le hl24) sb_chk).mono ?_
  rintro e w5 ⟨rfl, hb5⟩
  have bl5 := bl3.below hb5 bl3.lt
  have hG5 := hg4.trans (Grow.of_below hg4.keeps hb5)
  clear q0 q1 q2 q3 hkc
  obtain ⟨D6, hg6, hle6, hat6⟩ := newvar hG5 47 #[.int .i64 0, .int .i64 0, .slice none 0 0, .int .i64 0]
  have HAT6 := Lib.hid hat6
  clear hat6
  have hkc := hg6.keeps
  have hl26 := hl24.trans hle6
  have bl6 := bl5.alloc (.cells #[.int .i64 0, .int .i64 0, .slice none 0 0, .int .i64 0] 47)
  have hmk := mk113
  go_wp2_with fail
  have hl36 := hle4.trans hle6
  have hs6 : SS D6 (.slice A3 0 c3) [] := hs3.le hl36
  clear hkc bl5 bl3
  generalize w5.alloc (.cells #[.int .i64 0, .int .i64 0, .slice none 0 0, .int .i64 0] 47) = W6 at *
  have hk6 := hg6.keeps
  go_cut [8] (fun h wx => h = .int .i64 2 ∧ Grow W6 D6 wx D6)
  case first =>
    have SH : Hid (∀ W, Box W (fun _ _ => none) w3.heap.size 47 #[.int .i64 0, .int .i64 1, .slice A3 0 c3, .int .i64 0] → (W.cell? ⟨w3.heap.size, 0, none⟩ = some (.int .i64 0) ∧ W.cell? ⟨w3.heap.size, 1, none⟩ = some (.int .i64 1) ∧ W.cell? ⟨w3.heap.size, 2, none⟩ = some (.slice A3 0 c3) ∧ W.cell? ⟨w3.heap.size, 3, none⟩ = some (.int .i64 0))) := fun W h => h.cells4
    obtain ⟨k0, k1, k2, k3⟩ := SH.out _ bl6
    have hl6 := bl6.lt
    go_region_held3 (fun W => W.cell? ⟨w3.heap.size, 0, none⟩ = some (.int .i64 0) ∧ W.cell? ⟨w3.heap.size, 1, none⟩ = some (.int .i64 1) ∧ W.cell? ⟨w3.heap.size, 2, none⟩ = some (.slice A3 0 c3) ∧ W.cell? ⟨w3.heap.size, 3, none⟩ = some (.int .i64 0))
      (first | (refine SH.out _ ?_; (repeat (first | (with_reducible assumption) | (with_reducible refine Box.drew ?_) | (with_reducible refine Box.alloc ?_ _) | ((with_reducible refine Box.far2 ?_ ?_); omega))); done) | go_keep)
      (first | (go_at_call 35; refine (append_lim_ A3 0 c3 [] 0 1 0 _ 113 113 D6 _ (by repeat (with_reducible first | assumption | refine Keeps.drew ?_ | refine Keeps.drewN ?_ _ | refine Keeps.alloc ?_ _ | exact Grow.keeps (by assumption))) hs6 sb_log0 (by rw [sb_occ]; decide) (by omega)).mono ?_; rintro e w7 ⟨rfl, hb7⟩; have bl7 : Box w7 (fun _ _ => none) w3.heap.size 47 #[.int .i64 0, .int .i64 1, .slice A3 0 c3, .int .i64 0] := Box.below (by (repeat (with_reducible first | assumption | refine Box.drew ?_ | refine Box.alloc ?_ _)); done) hb7 (by simp; omega); obtain ⟨hcw, hfw⟩ := bcell hb7))
    all_goals
      go_wp2_with fail
      go_meet
      exact ⟨rfl, Grow.of_below hk6 (by repeat (first | (with_reducible exact Below.refl _ _) | (with_reducible refine Below.drew ?_) | (with_reducible refine belowDrewN ?_ _) | (with_reducible refine belowAlloc ?_ _) | ((with_reducible refine belowSet2 ?_ ?_); omega) | (with_reducible assumption) | (with_reducible refine belowVia (by assumption) ?_) | (with_reducible refine belowVia (Grow.below (by assumption)) ?_)))⟩
  case rest =>
    obtain ⟨rfl, hg7⟩ := hcut
    have hG7 := hg6.trans hg7
    clear bl6
    generalize wc = W7 at *
    obtain ⟨w8, D8, hrun8, hg8, hbs8⟩ := conv_lit [97, 98] (by simp) D6 W7 hg7.keeps
    have hkc := hg7.keeps
    have q0 : W7.cell? ⟨w3.heap.size, 0, none⟩ = some (.int .i64 0) := hkc _ _ _ (hle6 _ _ _ (HAT4.out 0 _ rfl))
    have q1 : W7.cell? ⟨w3.heap.size, 1, none⟩ = some (.int .i64 1) := hkc _ _ _ (hle6 _ _ _ (HAT4.out 1 _ rfl))
    have q2 : W7.cell? ⟨w3.heap.size, 2, none⟩ = some (.slice A3 0 c3) := hkc _ _ _ (hle6 _ _ _ (HAT4.out 2 _ rfl))
    have q3 : W7.cell? ⟨w3.heap.size, 3, none⟩ = some (.int .i64 0) := hkc _ _ _ (hle6 _ _ _ (HAT4.out 3 _ rfl))
    have hs8 : SS D8 (.slice A3 0 c3) [] := hs6.le hg8.le
    have hl7 : w3.heap.size < W7.heap.size := World.block_lt_of_cell? _ _ q0
    go_wp2_with fail
    change Oper.upon _ _ _ _ _ ((Sem.run _ _ (W7.alloc (.cells (([97, 98] : List UInt8).map bv).toArray 5))).andThen _)
    have hrun8' : (convert 32 32 (.slice (some ⟨W7.heap.size, 0, none⟩) 2 2)).run Try.prog (W7.alloc (.cells (([97, 98] : List UInt8).map bv).toArray 5)) = _ := hrun8
    rw [hrun8']
    clear hrun8 hrun8'
    have hbs8' : BS D8 (.slice (some ⟨W7.heap.size, 0, none⟩) 2 2) [97, 98] := hbs8
    go_wp2_with fail
    refine (append_ok A3 0 c3 [] 0 1 0 _ 2 2 [97, 98] D8 _ hg8.keeps hs8 hbs8' sb_log0 (by omega) (by decide)).mono ?_
    rintro e w9 ⟨A9, c9, D9, rfl, hg9, hs9⟩
    replace hs9 : SS D9 (.slice A9 1 c9) [[97, 98]] := hs9
    have hG9 := (hG7.trans hg8).trans hg9
    obtain ⟨D10, hg10, hle10, hat10⟩ := newvar hG9 47 #[.int .i64 0, .int .i64 1, .slice A9 1 c9, .int .i64 0]
    have HAT10 := Lib.hid hat10
    clear hat10
    have hl210 := ((hl26.trans hg8.le).trans hg9.le).trans hle10
    clear hkc
    have hkc := hg10.keeps
    have q0 : (w9.alloc (.cells #[.int .i64 0, .int .i64 1, .slice A9 1 c9, .int .i64 0] 47)).cell? ⟨w1.heap.size, 0, none⟩ = some (.slice A 2 c) := hkc _ _ _ (hl210 _ _ _ (HAT2.out 0 _ rfl))
    have q1 : (w9.alloc (.cells #[.int .i64 0, .int .i64 1, .slice A9 1 c9, .int .i64 0] 47)).cell? ⟨w1.heap.size, 1, none⟩ = some (.int .i64 (-1)) := hkc _ _ _ (hl210 _ _ _ (HAT2.out 1 _ rfl))
    have q2 : (w9.alloc (.cells #[.int .i64 0, .int .i64 1, .slice A9 1 c9, .int .i64 0] 47)).cell? ⟨w1.heap.size, 2, none⟩ = some (.int .i64 0) := hkc _ _ _ (hl210 _ _ _ (HAT2.out 2 _ rfl))
    have q3 : (w9.alloc (.cells #[.int .i64 0, .int .i64 1, .slice A9 1 c9, .int .i64 0] 47)).cell? ⟨w1.heap.size, 3, none⟩ = some (.bool false) := hkc _ _ _ (hl210 _ _ _ (HAT2.out 3 _ rfl))
    have x0 : (w9.alloc (.cells #[.int .i64 0, .int .i64 1, .slice A9 1 c9, .int .i64 0] 47)).cell? ⟨w9.heap.size, 0, none⟩ = some (.int .i64 0) := hkc _ _ _ (HAT10.out 0 _ rfl)
    have x1 : (w9.alloc (.cells #[.int .i64 0, .int .i64 1, .slice A9 1 c9, .int .i64 0] 47)).cell? ⟨w9.heap.size, 1, none⟩ = some (.int .i64 1) := hkc _ _ _ (HAT10.out 1 _ rfl)
    have x2 : (w9.alloc (.cells #[.int .i64 0, .int .i64 1, .slice A9 1 c9, .int .i64 0] 47)).cell? ⟨w9.heap.size, 2, none⟩ = some (.slice A9 1 c9) := hkc _ _ _ (HAT10.out 2 _ rfl)
    have x3 : (w9.alloc (.cells #[.int .i64 0, .int .i64 1, .slice A9 1 c9, .int .i64 0] 47)).cell? ⟨w9.heap.size, 3, none⟩ = some (.int .i64 0) := hkc _ _ _ (HAT10.out 3 _ rfl)
    go_wp2_with fail
    refine (sync_c A9 1 c9 [[97, 98]] 0 1 0 A 2 c z2 (-1) 0 D10 _ hg10.keeps (hs9.le hle10) (hs2.le hl210) sb_log1 sb_chk (by omega) sb_open (by rw [sb_max]; decide) (by omega) (⟨[secAB, zeros128], -1, 0, false⟩, 0) (by rw [sb_max]; exact sb_sync.symm)).mono ?_
    rintro e w11 ⟨xA, xn, xc, D11, hg11, hs11, hX, _⟩
    obtain rfl := hX rfl
    replace hs11 : SS D11 (.slice xA xn xc) [secAB, zeros128] := hs11
    clear hX
    have hG11 := hg10.trans hg11
    have hk11 := hg11.keeps
    obtain rfl : xn = 2 := hs11.len.1
    obtain ⟨D12, hg12, hle12, hat12⟩ := newvar hG11 47 #[.int .i64 0, .int .i64 1, .slice A9 1 c9, .int .i64 1]
    have HAT12 := Lib.hid hat12
    clear hat12
    obtain ⟨D13, hg13, hle13, hat13⟩ := newvar hg12 26 #[.slice xA 2 xc, .int .i64 (-1), .int .i64 0, .bool false]
    simp only [World.size_alloc] at hat13
    have HAT13 := Lib.hid hat13
    clear hat13
    have hkc := hg13.keeps
    have y0 : ((w11.alloc (.cells #[.int .i64 0, .int .i64 1, .slice A9 1 c9, .int .i64 1] 47)).alloc (.cells #[.slice xA 2 xc, .int .i64 (-1), .int .i64 0, .bool false] 26)).cell? ⟨w11.heap.size + 1, 0, none⟩ = some (.slice xA 2 xc) := hkc _ _ _ (HAT13.out 0 _ rfl)
    have y1 : ((w11.alloc (.cells #[.int .i64 0, .int .i64 1, .slice A9 1 c9, .int .i64 1] 47)).alloc (.cells #[.slice xA 2 xc, .int .i64 (-1), .int .i64 0, .bool false] 26)).cell? ⟨w11.heap.size + 1, 1, none⟩ = some (.int .i64 (-1)) := hkc _ _ _ (HAT13.out 1 _ rfl)
    have y2 : ((w11.alloc (.cells #[.int .i64 0, .int .i64 1, .slice A9 1 c9, .int .i64 1] 47)).alloc (.cells #[.slice xA 2 xc, .int .i64 (-1), .int .i64 0, .bool false] 26)).cell? ⟨w11.heap.size + 1, 2, none⟩ = some (.int .i64 0) := hkc _ _ _ (HAT13.out 2 _ rfl)
    have y3 : ((w11.alloc (.cells #[.int .i64 0, .int .i64 1, .slice A9 1 c9, .int .i64 1] 47)).alloc (.cells #[.slice xA 2 xc, .int .i64 (-1), .int .i64 0, .bool false] 26)).cell? ⟨w11.heap.size + 1, 3, none⟩ = some (.bool false) := hkc _ _ _ (HAT13.out 3 _ rfl)
    go_wp2_with fail
    refine (open_ok xA 2 xc [secAB, zeros128] (-1) 0 0 1 D13 _ hg13.keeps (hs11.le (hle12.trans hle13)) sb_chk2 (by omega) (by omega)).mono ?_
    rintro e w14 ⟨A14, c14, D14, rfl, hg14, hs14⟩
    rw [sb_open2] at hs14 ⊢
    have hG14 := hg13.trans hg14
    replace hs14 : SS D14 (.slice A14 1 c14) [[97, 98]] := hs14
    obtain ⟨D15, hg15, hle15, hat15⟩ := newvar hG14 47 #[.int .i64 0, .int .i64 1, .slice A14 1 c14, .int .i64 1]
    have HAT15 := Lib.hid hat15
    clear hat15
    have hl415 : D4.le D15 := ((((((hle6.trans (hg7.le)).trans hg8.le).trans hg9.le).trans hle10).trans hg11.le).trans (hle12.trans hle13)).trans (hg14.le.trans hle15)
    have hl1215 : D12.le D15 := (hle13.trans hg14.le).trans hle15
    have hkc := hg15.keeps
    have hG15 := hg15
    have q0 : (w14.alloc (.cells #[.int .i64 0, .int .i64 1, .slice A14 1 c14, .int .i64 1] 47)).cell? ⟨w3.heap.size, 0, none⟩ = some (.int .i64 0) := hkc _ _ _ (hl415 _ _ _ (HAT4.out 0 _ rfl))
    have q1 : (w14.alloc (.cells #[.int .i64 0, .int .i64 1, .slice A14 1 c14, .int .i64 1] 47)).cell? ⟨w3.heap.size, 1, none⟩ = some (.int .i64 1) := hkc _ _ _ (hl415 _ _ _ (HAT4.out 1 _ rfl))
    have q2 : (w14.alloc (.cells #[.int .i64 0, .int .i64 1, .slice A14 1 c14, .int .i64 1] 47)).cell? ⟨w3.heap.size, 2, none⟩ = some (.slice A3 0 c3) := hkc _ _ _ (hl415 _ _ _ (HAT4.out 2 _ rfl))
    have q3 : (w14.alloc (.cells #[.int .i64 0, .int .i64 1, .slice A14 1 c14, .int .i64 1] 47)).cell? ⟨w3.heap.size, 3, none⟩ = some (.int .i64 0) := hkc _ _ _ (hl415 _ _ _ (HAT4.out 3 _ rfl))
    go_wp2_with fail
    refine (room_c A3 0 c3 [] 0 1 0 D15 _ hG15.keeps (hs3.le (hle4.trans hl415)) (by omega)).mono ?_
    rintro e w16 ⟨rfl, hb16⟩
    rw [sb_room]
    have hG16 := hG15.trans (Grow.of_below hG15.keeps hb16)
    clear hkc
    have hkc := hG16.keeps
    have y0 : w16.cell? ⟨w11.heap.size, 0, none⟩ = some (.int .i64 0) := hkc _ _ _ (hl1215 _ _ _ (HAT12.out 0 _ rfl))
    have y1 : w16.cell? ⟨w11.heap.size, 1, none⟩ = some (.int .i64 1) := hkc _ _ _ (hl1215 _ _ _ (HAT12.out 1 _ rfl))
    have y2 : w16.cell? ⟨w11.heap.size, 2, none⟩ = some (.slice A9 1 c9) := hkc _ _ _ (hl1215 _ _ _ (HAT12.out 2 _ rfl))
    have y3 : w16.cell? ⟨w11.heap.size, 3, none⟩ = some (.int .i64 1) := hkc _ _ _ (hl1215 _ _ _ (HAT12.out 3 _ rfl))
    have z0 : w16.cell? ⟨w14.heap.size, 0, none⟩ = some (.int .i64 0) := hkc _ _ _ (HAT15.out 0 _ rfl)
    have z1 : w16.cell? ⟨w14.heap.size, 1, none⟩ = some (.int .i64 1) := hkc _ _ _ (HAT15.out 1 _ rfl)
    have z2 : w16.cell? ⟨w14.heap.size, 2, none⟩ = some (.slice A14 1 c14) := hkc _ _ _ (HAT15.out 2 _ rfl)
    have z3 : w16.cell? ⟨w14.heap.size, 3, none⟩ = some (.int .i64 1) := hkc _ _ _ (HAT15.out 3 _ rfl)
    have hs16 := hs14.le hle15
    obtain ⟨bz, oz, az, cz, rfl, hcz, hbz⟩ := hs16.at_ (k := 0) hkc (by decide)
    have hcz' : w16.cell? ⟨bz, oz, none⟩ = some (.slice az 2 cz) := hcz
    have hez := run_string_bs (P := Try.prog) hkc Try.underlying32 Try.underlying5 Try.underlying9 hbz
    have hez' : (convert 32 9 (.slice az 2 cz)).run Try.prog w16 = .ok (.string (str [97, 98])) w16 := hez
    have hstr : ((str [97, 98]).toList == (⟨#[97, 98]⟩ : ByteArray).toList) = true := by rw [ByteArray.toList_eq, ByteArray.toList_eq]; decide
    have hstr2 : (str [97, 98] : ByteArray) = ⟨#[97, 98]⟩ := rfl
    clear hcz hez
    obtain ⟨w17, D17, hrun17, hg17, hbs17⟩ := conv_lit [49, 50, 51, 52, 53, 54, 55, 56, 57] (by simp) D15 w16 hG16.keeps
    go_wp2_with fail
    change Oper.upon _ _ _ _ _ ((Sem.run _ _ (w16.alloc (.cells (([49, 50, 51, 52, 53, 54, 55, 56, 57] : List UInt8).map bv).toArray 5))).andThen _)
    have hrun17' : (convert 32 32 (.slice (some ⟨w16.heap.size, 0, none⟩) 9 9)).run Try.prog (w16.alloc (.cells (([49, 50, 51, 52, 53, 54, 55, 56, 57] : List UInt8).map bv).toArray 5)) = _ := hrun17
    rw [hrun17']
    clear hrun17 hrun17'
    have hbs17' : BS D17 (.slice (some ⟨w16.heap.size, 0, none⟩) 9 9) [49, 50, 51, 52, 53, 54, 55, 56, 57] := hbs17
    have hG17 := hG16.trans hg17
    clear hcz' hez' hkc
    go_wp2_with fail
    refine (sum_c _ 9 9 _ D17 _ hG17.keeps hbs17').mono ?_
    rintro e w18 ⟨rfl, rfl⟩
    rw [sb_sum]
    go_wp2_with fail
    refine (sum_c none 0 0 [] D17 _ hG17.keeps (BS.nil _)).mono ?_
    rintro e w19 ⟨rfl, rfl⟩
    rw [sb_sum0]
    go_wp2_with fail
    go_ret
    exact ⟨rfl, hG17.below⟩
end Go.Proofs.Ytegkmkglagmdiaa
