/-
  What is proved here: contracts of disk.New and of its reference
-/
import Derived.Test.YtegkmkglagmdiaaRows
import Derived.Test.YtegkmkglagmdiaaDiskH
import Derived.Test.YtegkmkglagmdiaaBaseB
import Derived.Deep.RegionHeld3
import Derived.Deep.RegionLaw
import Derived.Deep.DeepCutAuto
import Derived.Deep.QuietTactic
import Derived.BigQuiet
import Derived.Laws.EntriesVeiled
namespace Go.Proofs.Ytegkmkglagmdiaa
open Go.RowKit Go.VS

def zeros128 : List UInt8 := List.replicate 128 0
theorem wc0 : wholeCells 0 0 = (zeros128.map bv).toArray := by simp [wholeCells, zeros128, bv]

set_option maxRecDepth 100000 in
set_option maxHeartbeats 1000000 in
theorem new_ok (n : Nat) (D : Gh) (w : World) (hk : Keeps D w) (h1 : 1 ≤ n) (h2 : n ≤ 4096) :
    Calls Try.prog 15 #[.int .i64 n] w fun e w' => ∃ A c D', e = .returned (.tuple #[.agg #[.slice A n c, .int .i64 (-1), .int .i64 0, .bool false], .int .i64 0]) ∧ Grow w D w' D' ∧ SS D' (.slice A n c) (List.replicate n zeros128) := by
  have hm := mk128
  obtain ⟨i0, hi, hz0, hz1, hz2⟩ := info_parts info32
  have g1 : decide ((n : Int) < 1) = false := by simp; omega
  have g2 : decide (4096 < (n : Int)) = false := by simp; omega
  go_enter Try.func15, Try.ntmps15
  go_wp2
  go_loopw [13] (fun i wr => ∃ (k : Nat) (A : Option Addr) (c : Nat) (vs : List Value) (D' : Gh), k ≤ n ∧ i = .int .i64 k ∧ wr.ownsRow (w.heap.size + 1) 32 1 (.slice A k c) k vs ∧ Box wr D' w.heap.size 26 #[.slice A k c, .int .i64 (-1), .int .i64 0, .bool false] ∧ Grow w D wr D' ∧ (∀ g, Value.ownBlock (.slice A k c) = some g → D'.off g) ∧ (∀ u ∈ vs, BS D' u zeros128)) (fun i _ => n - (intOf i).toNat)
  case atStart => exact ⟨0, none, 0, [], D, Nat.zero_le _, rfl, World.ownsRow_nil _ _ _ _, Box.new hk _ _, (Grow.refl hk).alloc _, (fun g h => by cases h), (fun u h => by cases h)⟩
  case round =>
    obtain ⟨k, A, c, vs, D', hkn, rfl, hown, hbox, hgrow, hoff, hall⟩ := hrel
    by_cases hlt : k < n
    · have hc0 := hbox.cell 0
      have hf0 := hbox.frozen 0
      have hlt' := hbox.lt
      have hob : Value.ownBlock (.slice A k c) ≠ some w.heap.size := fun e => by have := (hown.lt _ e).1; omega
      obtain ⟨D2, hg2, hb2⟩ := BS.new (w' := wr.alloc (.cells (wholeCells 0 0) 5)) hgrow.keeps zeros128 5 (by simp [maxLen, zeros128]) (by rw [← wc0]; exact heap_alloc_new _ _) ((Below.refl _ _).alloc (Nat.le_refl _) _)
      have HB := Lib.hid (And.intro hg2 (And.intro hb2 hall))
      clear hg2 hb2 hall
      have q := hbox.cell
      have f := hbox.frozen
      have SH : Hid (∀ W, Box W D' w.heap.size 26 #[.slice A k c, .int .i64 (-1), .int .i64 0, .bool false] → (W.cell? ⟨w.heap.size, 0, none⟩ = some (.slice A k c) ∧ W.frozen? ⟨w.heap.size, 0, none⟩ = false)) := fun W h => h.held rfl
      go_wp2
      go_region_law
       ((refine step_append_one (by rfl) _ _ _ (by rfl) (w.heap.size + 1) 32 i0 _ 24 Try.underlying24 hi hz0 hz1 hz2 rfl (.slice A k c) k vs (by rfl) (((hown.alloc _).alloc _).drew) (wr.heap.size + 1) (.slice (some ⟨wr.heap.size, 0, none⟩) 128 128) (by rfl) (by exact heap_new2 wr _ _) rfl (by unfold maxLen; omega) (by omega) (by first | omega | (simp; done) | (simp; omega)) ?_; intro A1 c1 w1 hown1 hgr1 hat1; have hcw1 := (SH.out w1 (Box.grown (by repeat (with_reducible first | assumption | refine Box.drew ?_ | refine Box.alloc ?_ _)) hgr1 (Ne.symm hob))).1; have hfw1 := (SH.out w1 (Box.grown (by repeat (with_reducible first | assumption | refine Box.drew ?_ | refine Box.alloc ?_ _)) hgr1 (Ne.symm hob))).2))
      all_goals
        have hlw : w.heap.size < w1.heap.size := Nat.lt_of_lt_of_le hlt' (Nat.le_trans (by simp; omega) hgr1.size)
        clear q f
        go_wp2
        go_roundw
        case rel =>
          obtain ⟨hg2, hb2, hall⟩ := HB.out
          have hbx2 := Box.grow (Box.grow hbox hg2) (((Grow.refl hg2.keeps).alloc (.cells #[.slice (some ⟨wr.heap.size, 0, none⟩) 128 128] 32)).drew)
          have hoD2 : ∀ g, Value.ownBlock (.slice A k c) = some g → D2.off g := fun g h => hg2.off (hown.lt g h).2 (hoff g h)
          refine ⟨k + 1, A1, c1, vs ++ [.slice (some ⟨wr.heap.size, 0, none⟩) 128 128], D2, by omega, by go_num, own_far hown1 (fun e => by have h := (hown1.lt _ e).1; dsimp only at h; omega) _, (hbx2.grown hgr1 (Ne.symm hob)).set_ 0 _, ?_, ?_, ?_⟩
          · refine Grow.setNew (Grow.row (((hgrow.trans hg2).alloc _).drew) hgr1 (fun g h => by have := (hown.lt g h).1; omega) hoD2) (by simp) hbx2.off _
          · exact off_append (((hg2.keeps.alloc _).drew)) hoD2 hat1
          · intro u hu
            rcases List.mem_append.1 hu with hu | hu
            · exact (hall u hu).le hg2.le
            · rw [List.mem_singleton.1 hu]; exact hb2
        case measure => simp [intOf]; omega
    · obtain rfl : k = n := by omega
      have q := hbox.cell
      have f := hbox.frozen
      have HA := Lib.hid hall
      clear hall
      obtain ⟨D2, hg2, hle2, hsl2, hof2⟩ := hgrow.pub hown (by omega) hoff
      have ho2 : D2.off w.heap.size := hof2 _ hbox.off (fun e => by have h := (hown.lt _ e).1; omega)
      have hss := SS.same (n := k) hsl2 (by have := hown.1; omega) (fun u hu => (HA.out u hu).le hle2)
      go_wp2
      exact bodyPost_ret (v := .tuple #[.agg #[.slice A k c, .int .i64 (-1), .int .i64 0, .bool false], .int .i64 0]) (by simp [results, Try.results15, go_sem, q]) rfl ⟨A, c, D2, rfl, hg2.set4 (Nat.le_refl _) ho2 _ _ _ _, hss⟩
set_option maxRecDepth 100000 in
set_option maxHeartbeats 1000000 in
theorem refNew_ok (n : Nat) (D : Gh) (w : World) (hk : Keeps D w) (h1 : 1 ≤ n) (h2 : n ≤ 4096) :
    Calls Try.prog 16 #[.int .i64 n] w fun e w' => ∃ A c D', e = .returned (.tuple #[.agg #[.slice A n c, .int .i64 (-1), .int .i64 0, .bool false], .int .i64 0]) ∧ Grow w D w' D' ∧ SS D' (.slice A n c) (List.replicate n zeros128) := by
  have hm := mk128
  obtain ⟨i0, hi, hz0, hz1, hz2⟩ := info_parts info32
  have g1 : decide ((n : Int) < 1) = false := by simp; omega
  have g2 : decide (4096 < (n : Int)) = false := by simp; omega
  go_enter Try.func16, Try.ntmps16
  go_wp2
  go_loopw [5] (fun i wr => ∃ (k : Nat) (A : Option Addr) (c : Nat) (vs : List Value) (D' : Gh), k ≤ n ∧ i = .int .i64 k ∧ wr.ownsRow (w.heap.size + 2) 32 1 (.slice A k c) k vs ∧ Box wr D' (w.heap.size + 1) 26 #[.slice A k c, .int .i64 (-1), .int .i64 0, .bool false] ∧ Box wr D' w.heap.size 26 #[.slice none 0 0, .int .i64 0, .int .i64 0, .bool false] ∧ Grow w D wr D' ∧ (∀ g, Value.ownBlock (.slice A k c) = some g → D'.off g) ∧ (∀ u ∈ vs, BS D' u zeros128)) (fun i _ => n - (intOf i).toNat)
  case atStart => exact ⟨0, none, 0, [], D, Nat.zero_le _, rfl, World.ownsRow_nil _ _ _ _, by have := Box.new (hk.alloc (.cells #[.slice none 0 0, .int .i64 0, .int .i64 0, .bool false] 26)) 26 #[.slice none 0 0, .int .i64 (-1), .int .i64 0, .bool false]; simpa using this, (Box.new hk _ _).alloc _, ((Grow.refl hk).alloc _).alloc _, (fun g h => by cases h), (fun u h => by cases h)⟩
  case round =>
    obtain ⟨k, A, c, vs, D', hkn, rfl, hown, hbox, hres, hgrow, hoff, hall⟩ := hrel
    by_cases hlt : k < n
    · have hc0 := hbox.cell 0
      have hf0 := hbox.frozen 0
      have hlt' := hbox.lt
      have hlt2 := hres.lt
      have hob : Value.ownBlock (.slice A k c) ≠ some (w.heap.size + 1) := fun e => by have := (hown.lt _ e).1; omega
      obtain ⟨D2, hg2, hb2⟩ := BS.new (w' := wr.alloc (.cells (wholeCells 0 0) 5)) hgrow.keeps zeros128 5 (by simp [maxLen, zeros128]) (by rw [← wc0]; exact heap_alloc_new _ _) ((Below.refl _ _).alloc (Nat.le_refl _) _)
      have HB := Lib.hid (And.intro hg2 (And.intro hb2 hall))
      clear hg2 hb2 hall
      have q := hbox.cell
      have f := hbox.frozen
      have SH : Hid (∀ W, Box W D' (w.heap.size + 1) 26 #[.slice A k c, .int .i64 (-1), .int .i64 0, .bool false] → (W.cell? ⟨w.heap.size + 1, 0, none⟩ = some (.slice A k c) ∧ W.frozen? ⟨w.heap.size + 1, 0, none⟩ = false)) := fun W h => h.held rfl
      go_wp2
      go_region_law
       ((refine step_append_one (by rfl) _ _ _ (by rfl) (w.heap.size + 2) 32 i0 _ 24 Try.underlying24 hi hz0 hz1 hz2 rfl (.slice A k c) k vs (by rfl) (((hown.alloc _).alloc _).drew) (wr.heap.size + 1) (.slice (some ⟨wr.heap.size, 0, none⟩) 128 128) (by rfl) (by exact heap_new2 wr _ _) rfl (by unfold maxLen; omega) (by omega) (by first | omega | (simp; done) | (simp; omega)) ?_; intro A1 c1 w1 hown1 hgr1 hat1; have hcw1 := (SH.out w1 (Box.grown (by repeat (with_reducible first | assumption | refine Box.drew ?_ | refine Box.alloc ?_ _)) hgr1 (Ne.symm hob))).1; have hfw1 := (SH.out w1 (Box.grown (by repeat (with_reducible first | assumption | refine Box.drew ?_ | refine Box.alloc ?_ _)) hgr1 (Ne.symm hob))).2))
      all_goals
        have hlw : w.heap.size + 1 < w1.heap.size := Nat.lt_of_lt_of_le hlt' (Nat.le_trans (by simp; omega) hgr1.size)
        clear q f
        go_wp2
        go_roundw
        case rel =>
          obtain ⟨hg2, hb2, hall⟩ := HB.out
          have hbx2 := Box.grow (Box.grow hbox hg2) (((Grow.refl hg2.keeps).alloc (.cells #[.slice (some ⟨wr.heap.size, 0, none⟩) 128 128] 32)).drew)
          have hrs2 := Box.grow (Box.grow hres hg2) (((Grow.refl hg2.keeps).alloc (.cells #[.slice (some ⟨wr.heap.size, 0, none⟩) 128 128] 32)).drew)
          have hoD2 : ∀ g, Value.ownBlock (.slice A k c) = some g → D2.off g := fun g h => hg2.off (hown.lt g h).2 (hoff g h)
          refine ⟨k + 1, A1, c1, vs ++ [.slice (some ⟨wr.heap.size, 0, none⟩) 128 128], D2, by omega, by go_num, own_far hown1 (fun e => by have h := (hown1.lt _ e).1; dsimp only at h; omega) _, (hbx2.grown hgr1 (Ne.symm hob)).set_ 0 _, (hrs2.grown hgr1 (fun e => by have h := (hown.lt _ e.symm).1; omega)).far (by simp) _, ?_, ?_, ?_⟩
          · refine Grow.setNew (Grow.row (((hgrow.trans hg2).alloc _).drew) hgr1 (fun g h => by have := (hown.lt g h).1; omega) hoD2) (by simp) hbx2.off _
          · exact off_append (((hg2.keeps.alloc _).drew)) hoD2 hat1
          · intro u hu
            rcases List.mem_append.1 hu with hu | hu
            · exact (hall u hu).le hg2.le
            · rw [List.mem_singleton.1 hu]; exact hb2
        case measure => simp [intOf]; omega
    · obtain rfl : k = n := by omega
      have q := hbox.cell
      have qr := hres.cell
      have fr := hres.frozen
      have HA := Lib.hid hall
      clear hall
      obtain ⟨D2, hg2, hle2, hsl2, hof2⟩ := hgrow.pub hown (by omega) hoff
      have ho2 : D2.off w.heap.size := hof2 _ hres.off (fun e => by have h := (hown.lt _ e).1; omega)
      have hss := SS.same (n := k) hsl2 (by have := hown.1; omega) (fun u hu => (HA.out u hu).le hle2)
      go_wp2
      exact bodyPost_ret (v := .tuple #[.agg #[.slice A k c, .int .i64 (-1), .int .i64 0, .bool false], .int .i64 0]) (by simp [results, Try.results16, go_sem, qr]) rfl ⟨A, c, D2, rfl, hg2.set4 (Nat.le_refl _) ho2 _ _ _ _, hss⟩

set_option maxHeartbeats 1000000 in
theorem new_bad (n : Int) (w : World) (h : n < 1 ∨ 4096 < n) :
    Calls Try.prog 15 #[.int .i64 n] w fun e w' => e = .returned (.tuple #[.agg #[.slice none 0 0, .int .i64 0, .int .i64 0, .bool false], .int .i64 1]) ∧ Below w.heap.size w w' := by
  rcases (show decide (n < 1) = true ∨ (decide (n < 1) = false ∧ decide (4096 < n) = true) by simp; omega) with g1 | ⟨g1, g2⟩
  all_goals
    clear h
    go_enter Try.func15, Try.ntmps15
    go_wp2
    exact bodyPost_ret (v := .tuple #[.agg #[.slice none 0 0, .int .i64 0, .int .i64 0, .bool false], .int .i64 1]) (by simp [results, Try.results15, go_sem]) rfl ⟨rfl, (by repeat (with_reducible first | exact Below.refl _ _ | refine Below.drew ?_ | refine belowAlloc ?_ _ | refine Below.setCell ?_ (by simp) _ | assumption | refine belowVia (by assumption) ?_ | refine belowVia (Grow.below (by assumption)) ?_))⟩
set_option maxHeartbeats 1000000 in
theorem refNew_bad (n : Int) (w : World) (h : n < 1 ∨ 4096 < n) :
    Calls Try.prog 16 #[.int .i64 n] w fun e w' => e = .returned (.tuple #[.agg #[.slice none 0 0, .int .i64 0, .int .i64 0, .bool false], .int .i64 1]) ∧ Below w.heap.size w w' := by
  rcases (show decide (n < 1) = true ∨ (decide (n < 1) = false ∧ decide (4096 < n) = true) by simp; omega) with g1 | ⟨g1, g2⟩
  all_goals
    clear h
    go_enter Try.func16, Try.ntmps16
    go_wp2
    exact bodyPost_ret (v := .tuple #[.agg #[.slice none 0 0, .int .i64 0, .int .i64 0, .bool false], .int .i64 1]) (by simp [results, Try.results16, go_sem]) rfl ⟨rfl, (by repeat (with_reducible first | exact Below.refl _ _ | refine Below.drew ?_ | refine belowAlloc ?_ _ | refine Below.setCell ?_ (by simp) _ | assumption | refine belowVia (by assumption) ?_ | refine belowVia (Grow.below (by assumption)) ?_))⟩
end Go.Proofs.Ytegkmkglagmdiaa
