/-
  What is proved here: the examples of the chapter on signing (sane)
-/
import Derived.Test.YtohknemfcohhfaaDoorRows
import Derived.Test.YtohknemfcohhfaaDoorBaseC
import Derived.Test.YtohknemfcohhfaaDoorSha
import Derived.Test.YtohknemfcohhfaaDoorDigA
import Derived.Test.YtohknemfcohhfaaDoorDigC
import Derived.Test.YtohknemfcohhfaaDoorDigD
import Derived.Test.YtohknemfcohhfaaDoorDigE
import Derived.Test.YtohknemfcohhfaaDoorDigF
import Derived.Test.YtohknemfcohhfaaDoorDigG
import Derived.Test.YtohknemfcohhfaaDoorDigH
import Derived.Test.YtohknemfcohhfaaDoorDigI
import Derived.Test.YtohknemfcohhfaaDoorDigJ
import Derived.Test.YtohknemfcohhfaaDoorDigK
import Derived.Test.YtohknemfcohhfaaDoorDigL
import Derived.Test.YtohknemfcohhfaaDoorDigM
import Derived.Test.YtohknemfcohhfaaDoorDigN
import Derived.Test.YtohknemfcohhfaaDoorDigO
import Derived.Test.YtohknemfcohhfaaDoorDigP
import Derived.Test.YtohknemfcohhfaaDoorDigQ
import Derived.Test.YtohknemfcohhfaaDoorDigR
import Derived.Test.YtohknemfcohhfaaDoorDigS
import Derived.Test.YtohknemfcohhfaaDoorDigT
import Derived.Test.YtohknemfcohhfaaDoorLawTags
import Derived.Test.YtohknemfcohhfaaDoorSigA
import Derived.Test.YtohknemfcohhfaaDoorSigB
import Derived.Test.YtohknemfcohhfaaDoorTree
import Derived.Test.YtohknemfcohhfaaDoorShelf
import Derived.Lib.ConvBytes
import Derived.StillTailTactics
import Derived.Lib.AppendZerosOnto
import Derived.Deep.RegionHeld3
import Derived.Stop.BytesEq
import Derived.Great.BuildSlice
import Derived.Deep.MidRow
import Derived.Deep.RegionLaw
import Derived.Deep.DeepCutAuto
import Derived.Deep.QuietTactic
import Derived.BigQuiet
import Derived.Laws.EntriesVeiled
namespace Go.Proofs.YtohknemfcohhfaaDoor
open Go.RowKit Go.VS
theorem digF_zero : digF zeros32 = List.replicate 64 0 ++ [3, 12, 0] := by decide +kernel
theorem NS.at_ {D : Gh} {w : World} {g n c : Nat} {l : List Int} (h : NS D (.slice (some ⟨g, 0, none⟩) n c) l) (hk : Keeps D w) {k : Nat} {x : Int} (hx : l[k]? = some x) : w.cell? ⟨g, k, none⟩ = some (.int .i64 x) := by
  obtain ⟨hm, _, _, hc⟩ := Sl.cells hk h
  have hlt : k < l.length := by
    rcases Nat.lt_or_ge k l.length with h | h
    · exact h
    · rw [List.getElem?_eq_none h] at hx; cases hx
  rw [List.length_map] at hm
  obtain ⟨b, o, e, hcc⟩ := hc (by omega)
  cases e
  have := hcc k (.int .i64 x) (by simp [hx])
  rwa [Nat.zero_add] at this
theorem mk65 (W : World) : (Instr.makeSlice 22 (.int .i64 65) (.int .i64 65)).run Tryd.prog W = .ok (.slice (some ⟨W.heap.size, 0, none⟩) 65 65) (W.alloc (.cells ((List.replicate 65 (0 : UInt8)).map bv).toArray 5)) := by kernel_rfl
theorem bs_lit {w : World} {D : Gh} (hk : Keeps D w) {g : Nat} (hg : g = w.heap.size) (bs : List UInt8) (hl : bs.length ≤ 1000) : ∃ D', Grow w D (w.alloc (.cells (bs.map bv).toArray 5)) D' ∧ BS D' (.slice (some ⟨g, 0, none⟩) bs.length bs.length) bs := by
  subst hg
  exact BS.new hk bs 5 (by unfold maxLen; omega) (heap_alloc_new w _) ((Below.refl _ _).alloc (Nat.le_refl _) _)
set_option maxRecDepth 100000 in
set_option maxHeartbeats 1000000 in
theorem sane32_c (D : Gh) (w : World) (hk : Keeps D w) : Calls Tryd.prog 30 #[] w fun e w' => e = .returned (.bool true) ∧ Below w.heap.size w w' := by
  have hmk := mk65
  go_enter Tryd.func30, Tryd.ntmps30
  go_wp2_with fail
  refine (new_bad none 0 0 [] 1 D w hk (BS.nil D) (by omega) (by rfl)).mono ?_
  rintro e w1 ⟨rfl, hb1⟩
  have hk1 := (hk.below hb1 (Nat.le_refl _)).alloc (.cells #[.slice none 0 0, .int .i64 0, .int .i64 0] 45)
  have hbel1 : Below w.heap.size w (w1.alloc (.cells #[.slice none 0 0, .int .i64 0, .int .i64 0] 45)) := (by repeat (first | (with_reducible exact Below.refl _ _) | (with_reducible refine Below.drew ?_) | (with_reducible refine belowDrewN ?_ _) | (with_reducible refine belowAlloc ?_ _) | ((with_reducible refine belowSet2 ?_ ?_); omega) | (with_reducible assumption) | (with_reducible refine belowVia (by assumption) ?_) | (with_reducible refine belowVia (Grow.below (by assumption)) ?_)))
  obtain ⟨D2, hG2, hs2⟩ := bs_lit hk1 (g := w1.heap.size + 1) (by simp) (List.replicate 65 0) (by simp)
  clear hb1
  go_wp2_with fail
  refine (new_bad _ 65 65 (List.replicate 65 0) 1 D2 _ hG2.keeps hs2 (by omega) (by rfl)).mono ?_
  rintro e w2 ⟨rfl, hb2⟩
  have hk2 := (hG2.keeps.below hb2 (Nat.le_refl _)).alloc (.cells #[.slice none 0 0, .int .i64 0, .int .i64 0] 45)
  have hbel2 : Below w.heap.size w (w2.alloc (.cells #[.slice none 0 0, .int .i64 0, .int .i64 0] 45)) := belowAlloc (belowVia hb2 (belowVia hG2.below hbel1)) _
  obtain ⟨D3, hG3, hs3⟩ := bs_lit hk2 (g := w2.heap.size + 1) (by simp) [1] (by simp)
  clear hb2 hbel1 hG2 hs2 hk1
  go_wp2_with fail
  refine (new_bad _ 1 1 [1] 257 D3 _ hG3.keeps hs3 (by omega) (by rfl)).mono ?_
  rintro e w3 ⟨rfl, hb3⟩
  have hk3 := (hG3.keeps.below hb3 (Nat.le_refl _)).alloc (.cells #[.slice none 0 0, .int .i64 0, .int .i64 0] 45)
  have hbel3 : Below w.heap.size w (w3.alloc (.cells #[.slice none 0 0, .int .i64 0, .int .i64 0] 45)) := belowAlloc (belowVia hb3 (belowVia hG3.below hbel2)) _
  obtain ⟨D4, hG4, hs4⟩ := bs_lit hk3 (g := w3.heap.size + 1) (by simp) [1, 2] (by simp)
  clear hb3 hbel2 hG3 hs3 hk2
  go_wp2_with fail
  refine (new_ok _ 2 2 [1, 2] 2 D4 _ hG4.keeps hs4 (by omega) (by rfl)).mono ?_
  rintro e w4 ⟨A4, c4, D5, rfl, hG5, _⟩
  have hB4 := Box.new2 hG5.keeps rfl 45 #[.slice A4 2 c4, .int .i64 2, .int .i64 0]
  have hk4 := hG5.keeps.alloc (.cells #[.slice A4 2 c4, .int .i64 2, .int .i64 0] 45)
  have hbel4 : Below w.heap.size w (w4.alloc (.cells #[.slice A4 2 c4, .int .i64 2, .int .i64 0] 45)) := belowAlloc (belowVia hG5.below (belowVia hG4.below hbel3)) _
  clear hbel3 hG4 hs4 hk3 hG5
  go_wp2_with fail
  generalize w4.heap.size = g4 at *
  generalize w4.alloc (.cells #[.slice A4 2 c4, .int .i64 2, .int .i64 0] 45) = W4 at *
  refine (Digits_c zeros32 rfl D5 _ hk4).mono ?_
  rintro e w5 ⟨g5, D6, rfl, hG6, hns⟩
  have hB5 := (hB4.grow hG6).alloc (.cells #[.int .u8 1] 5)
  have hbel5 := belowVia hG6.below hbel4
  obtain ⟨D7, hG7, hs7⟩ := bs_lit hG6.keeps (g := w5.heap.size) rfl [1] (by simp)
  go_wp2_with fail
  refine (sign_bad _ 1 1 (by simp [maxLen]) 1 1 none 0 0 (by simp [maxLen]) _ D7 hG7.keeps 320 (.inr (.inr ⟨rfl, by omega, rfl, rfl⟩))).mono ?_
  rintro e w6 ⟨rfl, hb6⟩
  have hB6 : Box _ _ g4 45 #[.slice A4 2 c4, .int .i64 2, .int .i64 0] := ((hB5.below hb6 hB5.lt).alloc (.cells #[.slice none 0 0, .int .i64 0, .int .i64 0] 45)).alloc (.cells #[.int .i64 0, .slice none 0 0, .slice none 0 0] 49)
  have hk6 := ((hG7.keeps.below hb6 (Nat.le_refl _)).alloc (.cells #[.slice none 0 0, .int .i64 0, .int .i64 0] 45)).alloc (.cells #[.int .i64 0, .slice none 0 0, .slice none 0 0] 49)
  have hbel6 : Below w.heap.size w ((w6.alloc (.cells #[.slice none 0 0, .int .i64 0, .int .i64 0] 45)).alloc (.cells #[.int .i64 0, .slice none 0 0, .slice none 0 0] 49)) := belowAlloc (belowAlloc (belowVia hb6 (belowVia hG7.below hbel5)) _) _
  have hns6 := Sl.le hns hG7.le
  clear hB4 hB5 hbel4 hbel5 hG6 hG7 hs7 hb6 hk4 hns
  have q1 := hB6.cell 1
  have q2 := hB6.cell 2
  go_wp2_with fail
  clear q1 q2
  generalize (w6.alloc (.cells #[.slice none 0 0, .int .i64 0, .int .i64 0] 45)).alloc (.cells #[.int .i64 0, .slice none 0 0, .slice none 0 0] 49) = W6 at *
  clear hB6
  rw [digF_zero] at hns6
  go_loopw [13] (fun y wr => ∃ k : Nat, k ≤ 64 ∧ y = .int .i64 k ∧ wr = W6) (fun y _ => 64 - (intOf y).toNat)
  case atStart => exact ⟨0, by omega, rfl, rfl⟩
  case round =>
    obtain ⟨k, hk64, rfl, rfl⟩ := hrel
    by_cases hlt : k < 64
    · have hc := NS.at_ hns6 hk6 (k := k) (x := 0) (by rw [List.getElem?_append_left (by simpa using hlt), List.getElem?_replicate, if_pos hlt])
      have g1 : (k : Int) < 64 := by omega
      have g2 : (0 : Int) ≤ (k : Int) := by omega
      have g3 : (k : Int) < 67 := by omega
      go_wp2
      go_roundw
      case rel => first | exact ⟨k + 1, by omega, by go_num, rfl⟩ | exact ⟨k + 1, by omega, by go_num, trivial⟩
      case measure => simp [intOf]; omega
    · obtain rfl : k = 64 := by omega
      rw [show ((64 : Nat) : Int) = 64 from rfl]
      have c0 := NS.at_ hns6 hk6 (k := 64) (x := 3) (by rfl)
      have c1 := NS.at_ hns6 hk6 (k := 65) (x := 12) (by rfl)
      have c2 := NS.at_ hns6 hk6 (k := 66) (x := 0) (by rfl)
      go_wp2_with fail
      refine (verify_bad zeros32 0 none 0 0 (by simp [maxLen]) 0 none 0 0 (by simp [maxLen]) none 0 0 _ (.inl (by omega))).mono ?_
      rintro e w7 ⟨rfl, hb7⟩
      go_wp2_with fail
      refine (verify_bad zeros32 1 none 0 0 (by simp [maxLen]) 0 none 0 0 (by simp [maxLen]) none 0 0 _ (.inr (.inr (.inr (.inr (.inl (by omega))))))).mono ?_
      rintro e w8 ⟨rfl, hb8⟩
      go_wp2_with fail
      go_ret
      exact ⟨rfl, belowVia hb8 (belowVia hb7 hbel6)⟩
end Go.Proofs.YtohknemfcohhfaaDoor
