/-
  What is proved here: the padding of the reference and its table of constants
-/
import Derived.Test.YtohknemfcohhfaaDoorRows
import Derived.Test.YtohknemfcohhfaaDoorBaseC
import Derived.Test.YtohknemfcohhfaaDoorSha
import Derived.Test.YtohknemfcohhfaaDoorDigA
import Derived.Test.YtohknemfcohhfaaDoorDigB
import Derived.Test.YtohknemfcohhfaaDoorDigD
import Derived.Lib.ConvBytes
import Derived.StillTailTactics
import Derived.Lib.AppendZerosOnto
import Derived.Deep.RegionHeld3
import Derived.Deep.MidRow
import Derived.Deep.RegionLaw
import Derived.Deep.DeepCutAuto
import Derived.Deep.QuietTactic
import Derived.BigQuiet
import Derived.Laws.EntriesVeiled
namespace Go.Proofs.YtohknemfcohhfaaDoor
open Go.RowKit Go.VS
set_option maxRecDepth 100000 in
set_option maxHeartbeats 1000000 in
theorem consts_c (w : World) : Calls Tryd.prog 80 #[] w fun e w' => e = .returned (.agg (warr kT)) ∧ Below w.heap.size w w' := by
  have hsz : (Tryd.prog.info? 92).map (·.size) = some (warr kT).size := by kernel_rfl
  have hone : (warr kT).all (·.oneCell') = true := by kernel_rfl
  have hB : (w.alloc (.cells (warr []) 92)).heap[w.heap.size]? = some (.cells (warr []) 92 (0, 0)) := heap_alloc_new w _
  go_enter Tryd.func80, Tryd.ntmps80
  go_wp2_with (refine wpList_store_row rfl 92 _ _ rfl w.heap.size (warr kT) rfl rfl 92 (warr []) hB hsz rfl hone ?_; rw [World.setRow_alloc_new])
  refine bodyPost_ret (results_cell_row rfl _ _ _ _ _ _ _ rfl (heap_alloc_new w _) Tryd.underlying92 rfl hsz) rfl ⟨rfl, (by repeat (first | (with_reducible exact Below.refl _ _) | (with_reducible refine Below.drew ?_) | (with_reducible refine belowDrewN ?_ _) | (with_reducible refine belowAlloc ?_ _) | ((with_reducible refine belowSet2 ?_ ?_); omega) | (with_reducible assumption) | (with_reducible refine belowVia (by assumption) ?_) | (with_reducible refine belowVia (Grow.below (by assumption)) ?_)))⟩
theorem own_e0 {w : World} {base g s : Nat} {e : TypeId} (hg : base ≤ g) (h : w.heap[g]? = some (.cells #[] e (0, 0))) : w.ownsRow base e s (.slice (some ⟨g, 0, none⟩) 0 0) 0 [] :=
  ⟨by simp, .inr ⟨g, 0, #[], rfl, hg, h, Nat.le_refl _, by simp [maxLen], by simp, by simp⟩⟩
set_option maxRecDepth 100000 in
set_option maxHeartbeats 1000000 in
theorem rpad_c (A : Option Addr) (n c : Nat) (bs : List UInt8) (D : Gh) (w : World) (hk : Keeps D w) (hb : BS D (.slice A n c) bs) (hlim : n ≤ 1000000) :
    Calls Tryd.prog 51 #[.slice A n c] w fun e w' => ∃ A' c' D', e = .returned (.slice A' (padF bs).length c') ∧ Grow w D w' D' ∧ BS D' (.slice A' (padF bs).length c') (padF bs) := by
  obtain ⟨i0, hi, hz0, hz1, hz2⟩ := info_parts info5
  obtain ⟨hn, hnc, hcm⟩ := hb.len
  unfold maxLen at hcm
  have HN := Lib.hid hn
  clear hn
  obtain ⟨q, hq⟩ : ∃ q : Nat, q = (119 - n % 64) % 64 := ⟨_, rfl⟩
  have hq2 : q < 64 := by omega
  have HQ := Lib.hid hq
  clear hq
  go_enter Tryd.func51, Tryd.ntmps51
  go_wp2_with (at_builtin; refine wpList_append_sl _ rfl _ _ 22 rfl w.heap.size 5 i0 (.int .u8 0) 1 Tryd.underlying22 hi hz0 hz1 hz2 rfl _ 0 [] rfl (own_e0 (Nat.le_refl _) (heap_alloc_new w _)) D (hk.alloc _) _ _ _ _ rfl hb (bv_one _) ?c1 ?c2 ?c3 ?_)
  case c1 => unfold maxLen; omega
  case c2 => omega
  case c3 => simp
  intro A1 cap1 w1 hown1 hg1 hb1
  have hG1 : Grow w D w1 D := ((Grow.refl hk).alloc _).row hg1 (by simp [Value.ownBlock]) (by simp only [Value.ownBlock]; rintro k ⟨rfl⟩; exact hk.offNew (Nat.le_refl _))
  clear hg1 hb1
  go_wp2_with (at_builtin; refine wpList_append_one rfl _ _ 22 rfl w.heap.size 5 i0 (.int .u8 0) 1 Tryd.underlying22 hi hz0 hz1 hz2 rfl _ n _ rfl (own_alloc hown1 _) w1.heap.size (.int .u8 128) rfl (heap_alloc_new w1 _) rfl ?c1 ?c2 ?c3 ?_)
  case c1 => unfold maxLen; omega
  case c2 => omega
  case c3 => have := hG1.below.size; simp; omega
  intro A2 cap2 w2 hown2 hg2 hb2
  have hG2 : Grow w D w2 D := (hG1.alloc _).row hg2 (fun k h => (hown1.lt k h).1) (fun k h => hk.offNew (hown1.lt k h).1)
  clear hg2 hb2 hG1 hown1
  obtain ⟨X, hX⟩ : ∃ X : List UInt8, X = bs ++ [128] := ⟨_, rfl⟩
  have hown3 : w2.ownsRow w.heap.size 5 1 (.slice A2 (n + 1) cap2) (n + 1) (X.map bv) := by rw [hX]; simpa [bv] using hown2
  have hXl : X.length = n + 1 := by rw [hX, HN.out]; simp
  have HX := Lib.hid hX
  have HXL := Lib.hid hXl
  clear hX hXl hown2
  have hu1 : IntKind.u64.wrap (n : Int) = n := by rw [IntKind.wrap_u64]; omega
  go_wp2_with fail
  go_loopw [3] (fun p wr => ∃ (k : Nat) (Ak : Option Addr) (ck : Nat), k ≤ q ∧ p = .slice Ak (n + 1 + k) ck ∧ wr.ownsRow w.heap.size 5 1 (.slice Ak (n + 1 + k) ck) (n + 1 + k) ((X ++ List.replicate k 0).map bv) ∧ Grow w D wr D) (fun p _ => match p with | .slice _ l _ => n + 1 + q - l | _ => 0)
  case atStart => exact ⟨0, A2, cap2, by omega, rfl, by simpa using hown3, hG2⟩
  case round =>
    clear hown3 hG2
    obtain ⟨k, Ak, ck, hkq, rfl, hown, hG⟩ := hrel
    by_cases hlt : k < q
    · have hm : (((n : Int) + 1 + (k : Int)) % 64 != 56) = true := by
        have := HQ.out
        simp only [bne_iff_ne, ne_eq]
        omega
      go_wp2_with (at_builtin; refine wpList_append_one rfl _ _ 22 rfl w.heap.size 5 i0 (.int .u8 0) 1 Tryd.underlying22 hi hz0 hz1 hz2 rfl _ (n + 1 + k) _ rfl (own_alloc hown _) wr.heap.size _ rfl (heap_alloc_new wr _) rfl ?c1 ?c2 ?c3 ?_)
      case c1 => unfold maxLen; omega
      case c2 => omega
      case c3 => have := hG.below.size; simp; omega
      intro A5 cap5 w5 hown5 hg5 hb5
      have hG5 : Grow w D w5 D := (hG.alloc _).row hg5 (fun k h => (hown.lt k h).1) (fun k h => hk.offNew (hown.lt k h).1)
      have hown6 : w5.ownsRow w.heap.size 5 1 (.slice A5 (n + 1 + (k + 1)) cap5) (n + 1 + (k + 1)) ((X ++ List.replicate (k + 1) 0).map bv) := by
        rw [List.replicate_succ', ← List.append_assoc, List.map_append]
        have h := hown5
        simp [bv] at h ⊢
        exact h
      clear hown5 hg5 hb5 hown hG
      go_wp2_with fail
      exact ⟨⟨k + 1, A5, cap5, by omega, by first | rfl | (congr 1; omega), hown6, hG5⟩, by first | (simp; done) | (simp; omega)⟩
    · obtain rfl : k = q := by omega
      have hm : (((n : Int) + 1 + (k : Int)) % 64 != 56) = false := by
        have := HQ.out
        rw [bne_eq_false_iff_eq]
        omega
      obtain ⟨Y, hY⟩ : ∃ Y : List UInt8, Y = X ++ List.replicate k 0 := ⟨_, rfl⟩
      rw [← hY] at hown
      have hYl : Y.length = n + 1 + k := by rw [hY, List.length_append, HXL.out]; simp
      have HY := Lib.hid hY
      have HYL := Lib.hid hYl
      clear hY hYl
      go_wp2_with fail
      go_loopw [3, 5] (fun p i wr => ∃ (j : Nat) (Ak : Option Addr) (ck : Nat), j ≤ 8 ∧ p = .slice Ak (n + 1 + k + j) ck ∧ i = .int .i64 (7 - (j : Int)) ∧ wr.ownsRow w.heap.size 5 1 (.slice Ak (n + 1 + k + j) ck) (n + 1 + k + j) ((Y ++ (be8 (8 * n)).take j).map bv) ∧ Grow w D wr D) (fun _ i _ => (intOf i + 8).toNat)
      case atStart => exact ⟨0, Ak, ck, by omega, rfl, rfl, by simpa using hown, hG⟩
      case round =>
        clear hown hG
        obtain ⟨j, Ak, ck, hj8, rfl, rfl, hown, hG⟩ := hrel
        by_cases hlt : j < 8
        · have hsh : (0 : Int) ≤ 8 * (7 - (j : Int)) := by omega
          have hje : (8 * (7 - (j : Int))).toNat = 56 - 8 * j := by omega
          go_wp2_with (at_builtin; refine wpList_append_one rfl _ _ 22 rfl w.heap.size 5 i0 (.int .u8 0) 1 Tryd.underlying22 hi hz0 hz1 hz2 rfl _ (n + 1 + k + j) _ rfl (own_alloc hown _) wr.heap.size _ rfl (heap_alloc_new wr _) rfl ?c1 ?c2 ?c3 ?_)
          case c1 => unfold maxLen; omega
          case c2 => omega
          case c3 => have := hG.below.size; simp; omega
          intro A5 cap5 w5 hown5 hg5 hb5
          have hG5 : Grow w D w5 D := (hG.alloc _).row hg5 (fun k h => (hown.lt k h).1) (fun k h => hk.offNew (hown.lt k h).1)
          have hown6 : w5.ownsRow w.heap.size 5 1 (.slice A5 (n + 1 + k + (j + 1)) cap5) (n + 1 + k + (j + 1)) ((Y ++ (be8 (8 * n)).take (j + 1)).map bv) := by
            rw [take_be8 _ _ hlt, List.map_append, List.map_append, List.map_cons, be8_at _ _ hlt, List.map_take, List.map_nil]
            have h := hown5
            simp [← List.map_take] at h ⊢
            exact h
          clear hown5 hg5 hb5 hown hG
          go_wp2_with fail
          exact ⟨⟨j + 1, A5, cap5, by omega, by first | rfl | (congr 1; omega), by first | rfl | (congr 1; omega), hown6, hG5⟩, by simp [intOf]; omega⟩
        · obtain rfl : j = 8 := by omega
          have hpad : Y ++ (be8 (8 * n)).take 8 = padF bs := by rw [HY.out, HX.out, HQ.out, HN.out]; rfl
          have hpl : (padF bs).length = n + 1 + k + 8 := by rw [← hpad, List.length_append, HYL.out]; rfl
          rw [hpad] at hown
          obtain ⟨D', hG', _, hsl, _⟩ := hG.pub hown (Nat.le_refl _) (fun g h => hk.offNew (hown.lt g h).1)
          have HP := Lib.hid hpl
          clear hpl hpad hown hG
          go_wp2
          go_ret
          rw [HP.out]
          exact ⟨Ak, ck, D', rfl, hG', hsl⟩
end Go.Proofs.YtohknemfcohhfaaDoor
