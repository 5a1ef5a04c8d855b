/-
  What is proved here: the contract of diskOf of the statements
-/
import Derived.Test.YtegkmkglagmdiaaRows
import Derived.Test.YtegkmkglagmdiaaDiskN
import Derived.Test.YtegkmkglagmdiaaBaseB
import Derived.Deep.RegionHeld3
import Derived.Deep.RegionLaw
import Derived.Deep.DeepCutAuto
import Derived.Deep.QuietTactic
import Derived.BigQuiet
import Derived.Laws.EntriesVeiled
namespace Go.Proofs.Ytegkmkglagmdiaa
open Go.RowKit Go.VS

def wholeB (c : UInt8) : List UInt8 := List.replicate 128 c
def secs4 : List (List UInt8) := [wholeB 100, wholeB 101, wholeB 102, wholeB 103]

set_option maxRecDepth 100000 in
set_option maxHeartbeats 2000000 in
theorem diskOf_c (l t : Int) (D : Gh) (w : World) (hk : Keeps D w) :
    Calls Try.prog 18 #[.int .i64 l, .int .i64 t] w fun e w' => ∃ A c D' tv, e = .returned (.agg #[.slice A 4 c, .int .i64 (max (-1) (l.tmod 8)), .int .i64 tv, .bool false]) ∧ Grow w D w' D' ∧ SS D' (.slice A 4 c) secs4 ∧ 0 ≤ tv ∧ tv ≤ 128 := by
  obtain ⟨i0, hi, hz0, hz1, hz2⟩ := info_parts info32
  go_enter Try.func18, Try.ntmps18
  go_wp2_with fail
  go_loopw [6, 8] (fun _ i wr => ∃ (k : Nat) (A : Option Addr) (c : Nat) (vs : List Value) (D' : Gh), k ≤ 4 ∧ i = .int .i64 k ∧ wr.ownsRow (w.heap.size + 2) 32 1 (.slice A k c) k vs ∧ Box wr D' (w.heap.size + 1) 26 #[.slice A k c, .int .i64 (-1), .int .i64 0, .bool false] ∧ Box wr D' w.heap.size 26 #[.slice none 0 0, .int .i64 0, .int .i64 0, .bool false] ∧ Grow w D wr D' ∧ (∀ g, Value.ownBlock (.slice A k c) = some g → D'.off g) ∧ (∀ (j : Nat) x u, secs4[j]? = some x → vs[j]? = some u → BS D' u x)) (fun _ i _ => 4 - (intOf i).toNat)
  case atStart => exact ⟨0, none, 0, [], D, Nat.zero_le _, rfl, World.ownsRow_nil _ _ _ _, (by have := Box.new (hk.alloc (.cells #[.slice none 0 0, .int .i64 0, .int .i64 0, .bool false] 26)) 26 #[.slice none 0 0, .int .i64 (-1), .int .i64 0, .bool false]; simpa using this), (Box.new hk _ _).alloc _, ((Grow.refl hk).alloc _).alloc _, (fun g h => by cases h), (fun j x u _ h => by simp at h)⟩
  case round =>
    obtain ⟨k, A, c, vs, D', hkn, rfl, hown, hbox, hres, hgrow, hoff, hall⟩ := hrel
    have HA := Lib.hid hall
    clear hall
    by_cases hlt : k < 4
    · have hlt1 := hbox.lt
      have hlt2 := hres.lt
      have q := hbox.cell
      have f := hbox.frozen
      have hob : Value.ownBlock (.slice A k c) ≠ some (w.heap.size + 1) := fun e => by have := (hown.lt _ e).1; omega
      have hkk := hgrow.keeps
      have SH : Hid (∀ W D2, Box W D2 (w.heap.size + 1) 26 #[.slice A k c, .int .i64 (-1), .int .i64 0, .bool false] → (W.cell? ⟨w.heap.size + 1, 0, none⟩ = some (.slice A k c) ∧ W.frozen? ⟨w.heap.size + 1, 0, none⟩ = false)) := fun W D2 h => h.held rfl
      obtain ⟨cb, hcb⟩ : ∃ cb : UInt8, IntKind.u8.wrap (IntKind.i64.wrap (100 + (k : Int))) = (cb.toNat : Int) ∧ Hid (wholeB cb = secs4[k]?.getD []) := by
        have hk4 : k = 0 ∨ k = 1 ∨ k = 2 ∨ k = 3 := by omega
        rcases hk4 with rfl | rfl | rfl | rfl
        · exact ⟨100, by decide, rfl⟩
        · exact ⟨101, by decide, rfl⟩
        · exact ⟨102, by decide, rfl⟩
        · exact ⟨103, by decide, rfl⟩
      obtain ⟨hcb1, hcb2⟩ := hcb
      have HCB := Lib.hid hcb1
      clear hcb1
      go_wp2_with fail
      go_region_law (first
        | (refine step_append_one (by rfl) _ _ _ (by rfl) (w.heap.size + 2) 32 i0 _ 24 Try.underlying24 hi hz0 hz1 hz2 rfl (.slice A k c) k vs (by rfl) (by exact own2.alloc _) w2.heap.size (.slice a2 128 128) (by rfl) (by exact heap_alloc_new w2 _) rfl (by unfold maxLen; omega) (by omega) (by have h := hg2.below.size; rw [World.size_drew] at h; rw [World.size_alloc]; omega) ?_; intro A1 c1 w1 hown1 hgr1 hat1; have hh := SH.out w1 D2 (Box.grown (bw2.alloc _) hgr1 (Ne.symm hob)); have hcw1 := hh.1; have hfw1 := hh.2; clear hh)
        | (go_simp; go_at_call 20; rw [HCB.out]; refine (whole_c cb D' _ ?_).mono ?_; (exact hkk.drew); rintro e w2 ⟨a2, D2, rfl, hg2, hb2⟩; have own2 := own_below (hown.drew) hg2.below; have bw2 := Box.grow (hbox.drew) hg2; have hcw2 := (SH.out w2 D2 bw2).1; have hl2 := bw2.lt))
      all_goals
        have hl1 : w.heap.size + 1 < w1.heap.size := Nat.lt_of_lt_of_le hl2 (Nat.le_trans (by simp) hgr1.size)
        clear q f hcw2
        have HG := Lib.hid (And.intro hg2 hb2)
        clear hg2 hb2
        go_wp2
        go_roundw
        case rel =>
          obtain ⟨hg2, hb2⟩ := HG.out
          have hrs2 := Box.grow hres.drew hg2
          have hG2 : Grow w D w2 D2 := hgrow.drew.trans hg2
          have hoD2 : ∀ g, Value.ownBlock (.slice A k c) = some g → D2.off g := fun g h => hg2.off (by have h2 := (hown.lt g h).2; exact h2) (hoff g h)
          refine ⟨k + 1, A1, c1, vs ++ [.slice a2 128 128], D2, by omega, by go_num, own_far2 (fun e => by have h := (hown1.lt _ e).1; omega) hown1, (Box.grown (bw2.alloc _) hgr1 (Ne.symm hob)).set_ 0 _, Box.far2 (by omega) (Box.grown (hrs2.alloc _) hgr1 (fun e => by have h := (hown.lt _ e.symm).1; omega)), ?_, off_append (hg2.keeps.alloc (.cells #[.slice a2 128 128] 32)) hoD2 hat1, ?_⟩
          · exact Grow.setNew (p := ⟨w.heap.size + 1, 0, none⟩) (Grow.row (hG2.alloc _) hgr1 (fun g h => by have h2 := (hown.lt g h).1; omega) hoD2) (by simp) bw2.off _
          · intro j x u ex eu
            have hvl : vs.length = k := by have := hown.1; omega
            rcases Nat.lt_or_ge j k with hj | hj
            · rw [List.getElem?_append_left (by omega)] at eu
              exact (HA.out j x u ex eu).le hg2.le
            · rw [List.getElem?_append_right (by omega)] at eu
              have hjk : j - vs.length = 0 := by
                rcases Nat.eq_zero_or_pos (j - vs.length) with h | h
                · exact h
                · rw [List.getElem?_eq_none (by simp; omega)] at eu; cases eu
              have : j = k := by omega
              subst this
              rw [hjk] at eu
              injection eu with eu
              subst eu
              have e1 := hcb2.out
              rw [ex] at e1
              simp only [Option.getD_some] at e1
              rw [← e1]; exact hb2
        case measure => simp [intOf]; omega
    · obtain rfl : k = 4 := by omega
      have q := hbox.cell
      have f := hbox.frozen
      have qr := hres.cell
      have fr := hres.frozen
      have hlt1 := hbox.lt
      obtain ⟨D2, hg2, hle2, hsl2, hof2⟩ := hgrow.pub hown (by omega) hoff
      have ho1 : D2.off (w.heap.size + 1) := hof2 _ hbox.off (fun e => by have h := (hown.lt _ e).1; omega)
      have ho0 : D2.off w.heap.size := hof2 _ hres.off (fun e => by have h := (hown.lt _ e).1; omega)
      have hss : SS D2 (.slice A 4 c) secs4 := ⟨vs, hsl2, by have := hown.1; simp [secs4]; omega, fun j x u ex eu => (HA.out j x u ex eu).le hle2⟩
      have hfin := fun a b c' d' e' f' => (((hg2.setNew (p := ⟨w.heap.size + 1, 1, none⟩) (by simp) ho1 e').setNew (p := ⟨w.heap.size + 1, 2, none⟩) (by simp) ho1 f').set4 (Nat.le_refl w.heap.size) ho0 a b c' d')
      have HF := Lib.hid hfin
      clear hfin
      have hmx : l.tmod 8 ≤ -1 ∨ -1 < l.tmod 8 := by omega
      obtain ⟨tv, htv⟩ : ∃ tv, tv = (bits .and .i64 t 1073741823).tmod 129 := ⟨_, rfl⟩
      have hbd := tear_bd t
      rw [← htv] at hbd
      have HTV := Lib.hid htv
      clear htv
      rcases hmx with hmx | hmx
      · have hm1 : max (-1) (l.tmod 8) = -1 := by omega
        have HM1 := Lib.hid hm1
        clear hm1
        go_wp2
        rw [← HTV.out]
        exact bodyPost_ret (v := .agg #[.slice A 4 c, .int .i64 (-1), .int .i64 tv, .bool false]) (by simp [results, Try.results18, go_sem, qr]) rfl ⟨A, c, D2, tv, (by rw [HM1.out]), HF.out _ _ _ _ _ _, hss, hbd.1, hbd.2⟩
      · have hm1 : max (-1) (l.tmod 8) = l.tmod 8 := by omega
        have HM1 := Lib.hid hm1
        clear hm1
        go_wp2
        rw [← HTV.out]
        exact bodyPost_ret (v := .agg #[.slice A 4 c, .int .i64 (l.tmod 8), .int .i64 tv, .bool false]) (by simp [results, Try.results18, go_sem, qr]) rfl ⟨A, c, D2, tv, (by rw [HM1.out]), HF.out _ _ _ _ _ _, hss, hbd.1, hbd.2⟩
end Go.Proofs.Ytegkmkglagmdiaa
