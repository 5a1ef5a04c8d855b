/-
  What is proved here: slices.Concat at bytes.
-/
import Derived.Test.YtohknemfcohhfaaDoorRows
import Derived.Test.YtohknemfcohhfaaDoorBaseC
import Derived.Test.YtohknemfcohhfaaDoorSha
import Derived.Test.YtohknemfcohhfaaDoorDigA
import Derived.Test.YtohknemfcohhfaaDoorDigC
import Derived.Test.YtohknemfcohhfaaDoorDigD
import Derived.Test.YtohknemfcohhfaaDoorDigE
import Derived.Test.YtohknemfcohhfaaDoorDigF
import Derived.Test.YtohknemfcohhfaaDoorDigG
import Derived.Test.YtohknemfcohhfaaDoorTree
import Derived.Test.YtohknemfcohhfaaDoorShelf
import Derived.Lib.ConvBytes
import Derived.StillTailTactics
import Derived.Lib.AppendZerosOnto
import Derived.Deep.RegionHeld3
import Derived.Deep.RegionLaw
import Derived.Deep.DeepCutAuto
import Derived.Deep.QuietTactic
import Derived.BigQuiet
import Derived.Laws.EntriesVeiled
namespace Go.Proofs.YtohknemfcohhfaaDoor
open Go.RowKit Go.VS
set_option maxRecDepth 100000 in
set_option maxHeartbeats 400000 in
theorem grow_c (n : Nat) (hn : n ≤ 1000000) (w : World) : Calls Tryd.prog 88 #[.slice none 0 0, .int .i64 n] w fun e w' => ∃ A c, e = .returned (.slice A 0 c) ∧ Below w.heap.size w w' ∧ w'.ownsRow w.heap.size 5 1 (.slice A 0 c) 0 [] := by
  obtain ⟨i0, hi, hz0, hz1, hz2⟩ := info_parts info5
  rcases Nat.eq_zero_or_pos n with h0 | h0
  · subst h0
    go_enter Tryd.func88, Tryd.ntmps88
    go_wp2
    go_ret
    exact ⟨none, 0, rfl, Below.refl _ _, World.ownsRow_nil _ _ _ _⟩
  · obtain ⟨cap, w1, hrun, hb1, hown⟩ : ∃ cap w1, (Builtin.append_ #[22, 3] 22 #[.slice none 0 0, .int .i64 n]).run Tryd.prog w = .ok (.slice (some ⟨w.heap.size, 0, none⟩) n cap) w1 ∧ Below w.heap.size w w1 ∧ w1.ownsRow w.heap.size 5 1 (.slice (some ⟨w.heap.size, 0, none⟩) 0 cap) 0 [] := by
      refine ⟨_, _, Lib.run_append_nil_zeros (P := Tryd.prog) w 22 3 22 5 i0 (.int .u8 0) .i64 .i64 Tryd.underlying22 Tryd.underlying3 hi hz0 n h0 (by omega) (by omega) (by rw [hz2]; omega), (Below.refl _ _).drew.alloc (Nat.le_refl _) _, ⟨by simp, .inr ⟨w.heap.size, _, _, rfl, Nat.le_refl _, heap_alloc_new w.drew _, Nat.zero_le _, grownCap_le_maxLen w n 0 5 (by unfold maxLen; omega), ?_, by simp⟩⟩⟩
      have := grownCap_ge w n 0 5
      simp only [Array.size_append, size_zeroCells, Value.cells]
      simp
      omega
    have hpos : (0 : Int) < (n : Int) := by omega
    go_enter Tryd.func88, Tryd.ntmps88
    go_wp2_with (at_builtin; refine Lib.wpList_append_run _ rfl _ _ 22 3 rfl _ _ rfl rfl _ _ hrun ?_)
    go_ret
    exact ⟨_, cap, rfl, hb1, hown⟩
theorem ss_flat_take (xs : List (List UInt8)) (k : Nat) (hk : k < xs.length) : (xs.take (k + 1)).flatten = (xs.take k).flatten ++ xs[k] := by
  have : xs.take (k + 1) = xs.take k ++ [xs[k]] := by rw [List.take_add_one, List.getElem?_eq_getElem hk]; rfl
  rw [this, List.flatten_append]
  congr 1
  exact List.append_nil _
theorem flatten_take_le (xs : List (List UInt8)) (k : Nat) : (xs.take k).flatten.length ≤ xs.flatten.length := by
  have : xs.flatten = (xs.take k).flatten ++ (xs.drop k).flatten := by rw [← List.flatten_append, List.take_append_drop]
  rw [this, List.length_append]; omega
set_option maxRecDepth 100000 in
set_option maxHeartbeats 1000000 in
theorem concat_c (A : Option Addr) (n c : Nat) (xs : List (List UInt8)) (D : Gh) (w : World) (hk : Keeps D w) (hs : SS D (.slice A n c) xs) (hlim : xs.flatten.length ≤ 1000000) (hn0 : n ≤ 1000) :
    Calls Tryd.prog 82 #[.slice A n c] w fun e w' => ∃ A' c' D', e = .returned (.slice A' xs.flatten.length c') ∧ Grow w D w' D' ∧ BS D' (.slice A' xs.flatten.length c') xs.flatten := by
  obtain ⟨i0, hi, hz0, hz1, hz2⟩ := info_parts info5
  obtain ⟨hn, hnc, hcm⟩ := hs.len
  unfold maxLen at hcm
  have HN := Lib.hid hn
  clear hn
  obtain ⟨F, hF⟩ : ∃ F, xs.flatten.length = F := ⟨_, rfl⟩
  rw [hF] at hlim ⊢
  have HF0 := Lib.hid hF
  clear hF
  go_enter Tryd.func82, Tryd.ntmps82
  go_wp2_with fail
  go_loop [3, 11] (fun s i => ∃ k : Nat, k ≤ n ∧ i = .int .i64 k ∧ s = .int .i64 ((xs.take k).flatten.length : Int)) (fun _ i => n - (intOf i).toNat)
  case atStart => exact ⟨0, Nat.zero_le _, rfl, rfl⟩
  case round =>
    obtain ⟨k, hkn, rfl, rfl⟩ := hrel
    by_cases hlt : k < n
    · have hkx : k < xs.length := by rw [← HN.out]; exact hlt
      obtain ⟨b, o, a', c', rfl, hcell, hbs⟩ := hs.at_ hk hkx
      have hl1 := flatten_take_le xs k
      have hl2 := flatten_take_le xs (k + 1)
      rw [HF0.out] at hl1 hl2
      have HF := Lib.hid (show ((xs.take (k + 1)).flatten.length : Int) = ((xs.take k).flatten.length : Int) + (xs[k].length : Int) by rw [ss_flat_take xs k hkx, List.length_append]; omega)
      have hl3 : (xs.take k).flatten.length + xs[k].length ≤ 1000000 := by have := HF.out; omega
      generalize (xs.take k).flatten.length = L at *
      generalize xs[k].length = M at *
      go_wp2
      go_round
      case rel => exact ⟨k + 1, by omega, by go_num, by rw [HF.out]⟩
      case measure => simp [intOf]; omega
    · obtain rfl : n = k := by omega
      have hfull : xs.take n = xs := List.take_of_length_le (by rw [HN.out]; exact Nat.le_refl _)
      rw [hfull, HF0.out]
      clear hfull
      go_wp2_with fail
      refine (grow_c F hlim _).mono ?_
      rintro e w1 ⟨A1, c1, rfl, hb1, hown1⟩
      have hG1 := Grow.of_below hk hb1
      go_wp2_with fail
      go_loopw [6, 27] (fun p i wr => ∃ (k : Nat) (Ak : Option Addr) (ck : Nat), k ≤ n ∧ p = .slice Ak (xs.take k).flatten.length ck ∧ i = .int .i64 k ∧ wr.ownsRow w.heap.size 5 1 (.slice Ak (xs.take k).flatten.length ck) (xs.take k).flatten.length ((xs.take k).flatten.map bv) ∧ Grow w D wr D) (fun _ i _ => n - (intOf i).toNat)
      case atStart => exact ⟨0, A1, c1, Nat.zero_le _, rfl, rfl, hown1, hG1⟩
      case round =>
        clear hown1 hG1 hb1
        obtain ⟨k, Ak, ck, hkn, rfl, rfl, hown, hG⟩ := hrel
        by_cases hlt : k < n
        · have hkx : k < xs.length := by rw [← HN.out]; exact hlt
          obtain ⟨b, o, a', c', rfl, hcell, hbs⟩ := hs.at_ hG.keeps hkx
          have hl1 := flatten_take_le xs k
          have hl2 := flatten_take_le xs (k + 1)
          rw [HF0.out] at hl1 hl2
          have HF := Lib.hid (ss_flat_take xs k hkx)
          have hl3 : (xs.take k).flatten.length + xs[k].length ≤ 1000000 := by rw [HF.out, List.length_append] at hl2; omega
          generalize (xs.take k).flatten = pre at *
          generalize xs[k] = x at *
          clear hl1 hl2
          go_wp2_with (at_builtin; refine wpList_append_sl _ rfl _ _ 22 rfl w.heap.size 5 i0 (.int .u8 0) 1 Tryd.underlying22 hi hz0 hz1 hz2 rfl _ _ _ rfl hown D hG.keeps _ _ _ _ rfl hbs (bv_one _) ?c1 ?c2 ?c3 ?_)
          case c1 => unfold maxLen; omega
          case c2 => omega
          case c3 => exact hG.below.size
          intro A5 cap5 w5 hown5 hg5 hb5
          have hG5 : Grow w D w5 D := hG.row hg5 (fun k h => (hown.lt k h).1) (fun k h => hk.offNew (hown.lt k h).1)
          have hown6 : w5.ownsRow w.heap.size 5 1 (.slice A5 (pre ++ x).length cap5) (pre ++ x).length ((pre ++ x).map bv) := by
            rw [List.length_append, List.map_append]; exact hown5
          have hlen6 := Lib.hid (show (pre ++ x).length = pre.length + x.length from List.length_append)
          clear hown5 hg5 hb5 hown hG
          go_wp2_with fail
          go_roundw
          case rel =>
            first
              | exact ⟨k + 1, A5, cap5, by omega, by rw [HF.out, hlen6.out], by go_num, by rw [HF.out]; exact hown6, hG5⟩
              | ((repeat apply Exists.intro); exact ⟨⟨k + 1, A5, cap5, by omega, by rw [HF.out, hlen6.out], by go_num, by rw [HF.out]; exact hown6, hG5⟩, rfl⟩)
          case measure => simp [intOf]; omega
        · obtain rfl : n = k := by omega
          have hfull : xs.take n = xs := List.take_of_length_le (by rw [HN.out]; exact Nat.le_refl _)
          rw [hfull, HF0.out] at hown ⊢
          clear hfull
          obtain ⟨D', hG', _, hsl, _⟩ := hG.pub hown (Nat.le_refl _) (fun g h => hk.offNew (hown.lt g h).1)
          clear hown hG
          go_wp2
          go_ret
          exact ⟨Ak, ck, D', rfl, hG', hsl⟩
end Go.Proofs.YtohknemfcohhfaaDoor
