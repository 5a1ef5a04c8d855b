/-
  What is proved here: the walk of DigestSumSpec
-/
import Derived.Test.YtohknemfcohhfaaDoorRows
import Derived.Test.YtohknemfcohhfaaDoorBaseC
import Derived.Test.YtohknemfcohhfaaDoorSha
import Derived.Test.YtohknemfcohhfaaDoorDigA
import Derived.Test.YtohknemfcohhfaaDoorDigB
import Derived.Test.YtohknemfcohhfaaDoorDigC
import Derived.Test.YtohknemfcohhfaaDoorDigD
import Derived.Test.YtohknemfcohhfaaDoorDigE
import Derived.Test.YtohknemfcohhfaaDoorDigF
import Derived.Test.YtohknemfcohhfaaDoorDigG
import Derived.Test.YtohknemfcohhfaaDoorDigL
import Derived.Test.YtohknemfcohhfaaDoorLawHalves
import Derived.Test.YtohknemfcohhfaaDoorDigW
import Derived.Test.YtohknemfcohhfaaDoorDigQ
import Derived.Stop.BytesEq
import Derived.Test.YtohknemfcohhfaaDoorDigU
import Derived.Test.YtohknemfcohhfaaDoorDigV
import Derived.Lib.ConvBytes
import Derived.StillTailTactics
import Derived.Lib.AppendZerosOnto
import Derived.Deep.RegionHeld3
import Derived.Deep.MidRow
import Derived.Deep.RegionLaw
import Derived.Deep.DeepCutAuto
import Derived.Deep.QuietTactic
import Derived.BigQuiet
import Derived.Laws.EntriesVeiled
namespace Go.Proofs.YtohknemfcohhfaaDoor
open Go.RowKit Go.VS
set_option maxRecDepth 100000 in
set_option maxHeartbeats 1000000 in
theorem sumspec_walk {sh : List UInt8 → List UInt8} (hs : Sh sh) (A : Option Addr) (n c : Nat) (bs t : List UInt8) (m : Nat) (hm : m < 256) (D : Gh) (w : World) (hk : Keeps D w) (hT : Tab D) (hb : BS D (.slice A n c) bs) (htl : t.length ≤ 9223372036854775807) :
    Calls Tryd.prog 3 #[.slice A n c, .string (str t), .int .u8 (m : Int)] w fun e w' => e = .returned (.bool true) ∧ Below w.heap.size w w' := by
  obtain ⟨i0, hi, hz0, hz1, hz2⟩ := info_parts info5
  obtain ⟨hn, hnc, hcm⟩ := hb.len
  unfold maxLen at hcm
  have HN := Lib.hid hn
  clear hn
  have hss : (str t).size = t.length := by simp [str, ByteArray.size]
  have HSA := Lib.hid (sane27_c hs D w hk hT)
  by_cases h1 : 400 < n
  · have g1 : (400 : Int) < (n : Int) := by omega
    go_enter Tryd.func3, Tryd.ntmps3
    go_wp2_with fail
    refine HSA.out.mono ?_
    rintro e w1 ⟨rfl, hb1⟩
    go_wp2
    go_ret
    exact ⟨rfl, hb1⟩
  by_cases h2 : 400 < t.length
  · have g1 : ¬ ((400 : Int) < (n : Int)) := by omega
    have g2 : (400 : Int) < (t.length : Int) := by omega
    go_enter Tryd.func3, Tryd.ntmps3
    go_wp2_with fail
    refine HSA.out.mono ?_
    rintro e w1 ⟨rfl, hb1⟩
    go_wp2
    go_ret
    exact ⟨rfl, hb1⟩
  have g1 : ¬ ((400 : Int) < (n : Int)) := by omega
  have g2 : ¬ ((400 : Int) < (t.length : Int)) := by omega
  go_enter Tryd.func3, Tryd.ntmps3
  go_wp2_with fail
  refine HSA.out.mono ?_
  rintro e w1 ⟨rfl, hb1⟩
  have hk1 := hk.below hb1 (Nat.le_refl _)
  have hown0 := Lib.hid (show (w1.alloc (.cells #[] 5)).ownsRow w1.heap.size 5 1 (.slice (some ⟨w1.heap.size, 0, none⟩) 0 0) 0 (([] : List UInt8).map bv) from own_e0 (s := 1) (e := 5) (Nat.le_refl _) (heap_alloc_new w1 _))
  clear HSA
  go_wp2_with fail
  go_loopw [7, 8] (fun x y wr => ∃ (k : Nat) (A1 : Option Addr) (c1 : Nat) (xs : List UInt8), k ≤ m ∧ x = .slice A1 k c1 ∧ y = .int .i64 k ∧ xs.length = k ∧ wr.ownsRow w1.heap.size 5 1 (.slice A1 k c1) k (xs.map bv) ∧ Grow w1 D wr D) (fun _ y _ => m - (intOf y).toNat)
  case atStart => exact ⟨0, _, _, [], by omega, rfl, rfl, rfl, hown0.out, (Grow.refl hk1).alloc _⟩
  case round =>
    clear hown0
    obtain ⟨k, A1, c1, xs, hkm, rfl, rfl, hxs, hown, hG⟩ := hrel
    by_cases hlt : k < m
    · have g3 : (k : Int) < (m : Int) := by omega
      by_cases hn0 : 0 < n
      · obtain ⟨b, o, rfl, hcell⟩ := hb.at_ hG.keeps (k := k % n) (by rw [← HN.out]; exact Nat.mod_lt _ hn0)
        have g4 : (0 : Int) < (n : Int) := by omega
        generalize bs[k % n]'(by rw [← HN.out]; exact Nat.mod_lt _ hn0) = x at hcell
        have hmod : k % n < n := Nat.mod_lt _ hn0
        have e1 : (k : Int).tmod (n : Int) = ((k % n : Nat) : Int) := by rw [Int.tmod_eq_emod_of_nonneg (by omega)]; simp
        have e2 : (k : Int) % (n : Int) = ((k % n : Nat) : Int) := by simp
        generalize k % n = q at *
        have g5 : (q : Int) < (n : Int) := by omega
        have HXS := Lib.hid hxs
        clear hxs
        go_wp2_with (at_builtin; refine wpList_append_one rfl _ _ 22 rfl w1.heap.size 5 i0 (.int .u8 0) 1 Tryd.underlying22 hi hz0 hz1 hz2 rfl _ k _ rfl (own_alloc hown _) wr.heap.size (bv x) rfl (heap_alloc_new wr _) rfl ?c1 ?c2 ?c3 ?_)
        case c1 => unfold maxLen; omega
        case c2 => omega
        case c3 => have := hG.below.size; simp; omega
        intro A5 cap5 w5 hown5 hg5 hb5
        have hG5 : Grow w1 D w5 D := (hG.alloc _).row hg5 (fun k h => (hown.lt k h).1) (fun k h => hk1.offNew (hown.lt k h).1)
        have hown6 : w5.ownsRow w1.heap.size 5 1 (.slice A5 (k + 1) cap5) (k + 1) ((xs ++ [x]).map bv) := by
          rw [List.map_append]; exact hown5
        clear hown5 hg5 hb5 hown hG hcell
        go_wp2_with fail
        exact ⟨⟨k + 1, A5, cap5, xs ++ [x], by omega, rfl, by first | rfl | (congr 1; omega), by simp [HXS.out], hown6, hG5⟩, by simp only [intOf]; omega⟩
      · obtain rfl : n = 0 := by omega
        have HXS := Lib.hid hxs
        clear hxs
        have g6 : IntKind.u8.wrap (k : Int) = ((UInt8.ofNat k).toNat : Int) := by rw [UInt8.toNat_ofNat_of_lt' (by show k < 256; omega)]; simp only [IntKind.wrap_u8]; omega
        go_wp2_with (at_builtin; refine wpList_append_one rfl _ _ 22 rfl w1.heap.size 5 i0 (.int .u8 0) 1 Tryd.underlying22 hi hz0 hz1 hz2 rfl _ k _ rfl (own_alloc hown _) wr.heap.size _ rfl (heap_alloc_new wr _) rfl ?c1 ?c2 ?c3 ?_)
        case c1 => unfold maxLen; omega
        case c2 => omega
        case c3 => have := hG.below.size; simp; omega
        intro A5 cap5 w5 hown5 hg5 hb5
        have hG5 : Grow w1 D w5 D := (hG.alloc _).row hg5 (fun k h => (hown.lt k h).1) (fun k h => hk1.offNew (hown.lt k h).1)
        have hown6 : w5.ownsRow w1.heap.size 5 1 (.slice A5 (k + 1) cap5) (k + 1) ((xs ++ [UInt8.ofNat k]).map bv) := by
          rw [List.map_append]
          have e : bv (UInt8.ofNat k) = .int .u8 (k : Int) := by unfold bv; congr 1; rw [UInt8.toNat_ofNat_of_lt' (by show k < 256; omega)]
          rw [List.map_cons, List.map_nil, e]
          have hk256 : (k : Int) % 256 = k := by omega
          rw [hk256] at hown5
          exact hown5
        clear hown5 hg5 hb5 hown hG
        go_wp2_with fail
        go_roundw
        case rel =>
          first
            | exact ⟨k + 1, A5, cap5, xs ++ [UInt8.ofNat k], by omega, rfl, by first | rfl | (congr 1; omega), by simp [HXS.out], hown6, hG5⟩
            | ((repeat apply Exists.intro); exact ⟨⟨k + 1, A5, cap5, xs ++ [UInt8.ofNat k], by omega, rfl, by first | rfl | (congr 1; omega), by simp [HXS.out], hown6, hG5⟩, rfl⟩)
        case measure => simp [intOf]; omega
    · obtain rfl : k = m := by omega
      obtain ⟨D2, hG2, hle2, hsl2, hoff2⟩ := hG.pub hown (Nat.le_refl _) (fun g h => hk1.offNew (hown.lt g h).1)
      have hb2 : BS D2 (.slice A1 k c1) xs := hsl2
      obtain ⟨D3, hG3, hss3⟩ := ss_lit2 hG2.keeps (hb.le hG2.le) hb2
      have hT3 := (hT.le hG2.le).le hG3.le
      have hl1 : ∀ x ∈ [bs, xs], x.length ≤ 400 := by
        intro x hx
        simp only [List.mem_cons, List.not_mem_nil, or_false] at hx
        have := HN.out
        rcases hx with rfl | rfl <;> omega
      have HL := Lib.hid hl1
      have hG3' := hG2.trans hG3
      have hbel3 : Below w.heap.size w (wr.alloc (.cells #[.slice A n c, .slice A1 k c1] 22)) := belowVia hG3'.below hb1
      have hk3 := hG3'.keeps
      clear hown hG hG2 hle2 hsl2 hoff2 hb2 hG3 hl1 hG3'
      have g7 : ¬ ((k : Int) < (k : Int)) := by omega
      go_wp2_with fail
      generalize hgr : wr.heap.size = gr at *
      generalize wr.alloc (Obj.cells #[Value.slice A n c, Value.slice A1 k c1] 22) = W at *
      generalize [bs, xs] = L at *
      obtain ⟨hLl, _, _⟩ := hss3.len
      go_loopw [49] (fun x wx => ∃ i : Nat, i ≤ 2 ∧ x = .int .i64 i ∧ Below w.heap.size w wx ∧ Keeps D3 wx) (fun x _ => 2 - (intOf x).toNat)
      case atStart => exact ⟨0, by omega, rfl, hbel3, hk3⟩
      case round =>
        clear hbel3 hk3
        obtain ⟨i, hi2, rfl, hbel, hkx⟩ := hrel
        by_cases hlt2 : i < 2
        · obtain ⟨b, o, a', c', e1, hcell, hbx⟩ := hss3.at_ hkx (k := i) (by omega)
          have hx4 := HL.out _ (List.getElem_mem (show i < L.length by omega))
          generalize L[i] = x at *
          cases e1
          rw [Nat.zero_add] at hcell
          have g8 : (i : Int) < 2 := by omega
          have hsm := fun W hk => sum_s hs a' _ c' x D3 W hk hbx (by omega) hT3
          have hsm2 := fun W hk => rsum_s hs a' _ c' x D3 W hk hbx (by omega)
          have htg := fun W hk => tag_c hs t (by omega) a' _ c' x D3 W hk hbx (by omega) hT3
          have htg2 := fun W hk => rtag_c hs t (by omega) a' _ c' x D3 W hk hbx (by omega)
          have h32a := hs.len x
          have h32b : (tagB sh t x).length = 32 := hs.len _
          generalize sh x = ra at *
          generalize tagB sh t x = rb at *
          simp only [dg_darr ra h32a] at hsm hsm2
          simp only [dg_darr rb h32b] at htg htg2
          have heqa : ∀ W, (Op.equalIn 10000 26 (.agg (darr ra)) (.agg (darr ra))).run Tryd.prog W = .ok true W := fun W => by
            rw [eq26 ra ra h32a h32a W]; simp
          have heqb : ∀ W, (Op.equalIn 10000 26 (.agg (darr rb)) (.agg (darr rb))).run Tryd.prog W = .ok true W := fun W => by
            rw [eq26 rb rb h32b h32b W]; simp
          have HSM := Lib.hid hsm
          clear hsm
          have HSM2 := Lib.hid hsm2
          clear hsm2
          have HTG := Lib.hid htg
          clear htg
          have HTG2 := Lib.hid htg2
          clear htg2
          have H32A := Lib.hid h32a
          clear h32a
          have H32B := Lib.hid h32b
          clear h32b
          have HLL := Lib.hid hLl
          clear hLl
          have HX4 := Lib.hid hx4
          clear hx4
          go_wp2_with fail
          refine (HSM.out _ hkx).mono ?_
          rintro e y1 ⟨rfl, hc1⟩
          have hk4 := hkx.below hc1 (Nat.le_refl _)
          have hbel4 := belowVia hc1 hbel
          go_wp2_with fail
          refine (HSM2.out _ hk4).mono ?_
          rintro e y2 ⟨rfl, hc2⟩
          have hk5 := hk4.below hc2 (Nat.le_refl _)
          have hbel5 := belowVia hc2 hbel4
          go_wp2_with fail
          refine (HTG.out _ hk5).mono ?_
          rintro e y3 ⟨rfl, hc3⟩
          have hk6 := hk5.below hc3 (Nat.le_refl _)
          have hbel6 := belowVia hc3 hbel5
          go_wp2_with fail
          refine (HTG2.out _ hk6).mono ?_
          rintro e y4 ⟨rfl, hc4⟩
          have hk7 := hk6.below hc4 (Nat.le_refl _)
          have hbel7 := belowVia hc4 hbel6
          go_wp2_with fail
          exact ⟨⟨i + 1, by omega, by first | rfl | (congr 1; omega), hbel7, hk7⟩, by simp only [intOf]; omega⟩
        · obtain rfl : i = 2 := by omega
          go_wp2
          go_ret
          exact ⟨rfl, hbel⟩
end Go.Proofs.YtohknemfcohhfaaDoor
