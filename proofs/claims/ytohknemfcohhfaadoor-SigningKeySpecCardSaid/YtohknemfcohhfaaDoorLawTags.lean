/-
  What is proved here: the walk of DigestTags.
-/
import Derived.Test.YtohknemfcohhfaaDoorRows
import Derived.Test.YtohknemfcohhfaaDoorBaseC
import Derived.Test.YtohknemfcohhfaaDoorSha
import Derived.Test.YtohknemfcohhfaaDoorDigA
import Derived.Test.YtohknemfcohhfaaDoorDigC
import Derived.Test.YtohknemfcohhfaaDoorDigD
import Derived.Test.YtohknemfcohhfaaDoorDigE
import Derived.Test.YtohknemfcohhfaaDoorDigF
import Derived.Test.YtohknemfcohhfaaDoorDigG
import Derived.Test.YtohknemfcohhfaaDoorDigH
import Derived.Test.YtohknemfcohhfaaDoorDigI
import Derived.Test.YtohknemfcohhfaaDoorDigJ
import Derived.Test.YtohknemfcohhfaaDoorDigK
import Derived.Test.YtohknemfcohhfaaDoorDigL
import Derived.Test.YtohknemfcohhfaaDoorDigM
import Derived.Test.YtohknemfcohhfaaDoorDigN
import Derived.Test.YtohknemfcohhfaaDoorDigO
import Derived.Test.YtohknemfcohhfaaDoorDigP
import Derived.Test.YtohknemfcohhfaaDoorDigQ
import Derived.Test.YtohknemfcohhfaaDoorTree
import Derived.Test.YtohknemfcohhfaaDoorShelf
import Derived.Lib.ConvBytes
import Derived.StillTailTactics
import Derived.Lib.AppendZerosOnto
import Derived.Deep.RegionHeld3
import Derived.Stop.BytesEq
import Derived.Great.BuildSlice
import Derived.Deep.MidRow
import Derived.Deep.RegionLaw
import Derived.Deep.DeepCutAuto
import Derived.Deep.QuietTactic
import Derived.BigQuiet
import Derived.Laws.EntriesVeiled
namespace Go.Proofs.YtohknemfcohhfaaDoor
open Go.RowKit Go.VS
/-- append([]byte{}, x...), x not empty: a new row. -/
theorem app_empty (W : World) (g : Nat) (D : Gh) (hk : Keeps D W) (A : Option Addr) (m c : Nat) (bs : List UInt8) (hb : BS D (.slice A m c) bs) (h0 : 0 < m) (hm : m ≤ 1000000) :
    ∃ A' c' W', (Builtin.append_ #[22, 22] 22 #[.slice (some ⟨g, 0, none⟩) 0 0, .slice A m c]).run Tryd.prog W = .ok (.slice A' m c') W' ∧ Below W.heap.size W W' ∧ W'.ownsRow W.heap.size 5 1 (.slice A' m c') m (bs.map bv) := by
  obtain ⟨i0, hi, hz0, hz1, hz2⟩ := info_parts info5
  obtain ⟨hml, _, _, hcx⟩ := Sl.cells hk hb
  obtain ⟨b, o, rfl, hc⟩ := hcx h0
  have hrun := run_append_grow (P := Tryd.prog) W 22 22 5 i0 (.int .u8 0) Tryd.underlying22 hi hz0 ⟨g, 0, none⟩ 0 0 [] (by simp) (by intro j v h; simp at h) ⟨b, o, none⟩ m c (bs.map bv) (by rw [hz1]; omega) (fun j u e => by rw [Addr.add_lit]; exact hc j u e) (by omega) (by omega) (by rw [hz2]; exact growslice_fits (by omega) (by omega))
  simp only [Nat.zero_add] at hrun
  have hge := grownCap_ge W m 0 5
  have hcm : grownCap W m 0 5 ≤ maxLen := grownCap_le_maxLen W m 0 5 (by unfold maxLen; omega)
  refine ⟨_, _, _, hrun, (Below.refl _ _).drew.alloc (Nat.le_refl _) _, ⟨by omega, .inr ⟨W.heap.size, _, _, rfl, Nat.le_refl _, heap_alloc_new W.drew _, hge, hcm, ?_, ?_⟩⟩⟩
  · simp only [Array.size_append, List.size_toArray, size_zeroCells, Value.cells]
    simp
    simp at hml
    omega
  · have hlen : m * 1 = (bs.map bv).length := by omega
    simp only [Array.toList_append]
    rw [hlen]
    simp
theorem own_off {w Wx w6 : World} {D : Gh} {v : Value} {n : Nat} {xs : List Value} (hown : w6.ownsRow Wx.heap.size 5 1 v n xs) (hk : Keeps D Wx) (hb : Below w.heap.size w Wx) : ∀ k, v.ownBlock = some k → w.heap.size ≤ k ∧ D.off k :=
  fun k h => ⟨Nat.le_trans hb.size (hown.lt k h).1, hk.offNew (hown.lt k h).1⟩
theorem own_lt {w Wx w6 : World} {v : Value} {n : Nat} {xs : List Value} (_hown : w6.ownsRow Wx.heap.size 5 1 v n xs) (hb : Below w.heap.size w Wx) : w.heap.size ≤ Wx.heap.size := hb.size
theorem bs_app {D : Gh} {v : Value} {a b : List UInt8} (h : Sl D v (a.map bv ++ b.map bv)) : BS D v (a ++ b) := by unfold BS; rw [List.map_append]; exact h
theorem step_app_empty {ops : Array Oper} {o : Oper} {a : Act} {w : World} {K : Act → World → Prop} {Q : Exit → Act → World → Prop} {E : Prop} (hgd : o.guard = none) (s x : Operand)
    (ho : o.op = .call { callee := .builtin .append, args := #[s, x], argTypes := #[22, 22] }) (hty : o.type = 22) (g : Nat) (hs : a.eval s = .slice (some ⟨g, 0, none⟩) 0 0)
    (D : Gh) (hk : Keeps D w) (A : Option Addr) (m c : Nat) (bs : List UInt8) (hx : a.eval x = .slice A m c) (hb : BS D (.slice A m c) bs) (h0 : 0 < m) (hm : m ≤ 1000000)
    (h : ∀ A' c' w', Below w.heap.size w w' → w'.ownsRow w.heap.size 5 1 (.slice A' m c') m (bs.map bv) → K (a.put o.dst (.slice A' m c')) w') : if Region.wanted o (yielded ops a.tmps) = true then Oper.wp Tryd.prog o a w K Q else E := by
  obtain ⟨A', c', w', hrun, h1, h2⟩ := app_empty w g D hk A m c bs hb h0 hm
  exact step_append_run w hgd s x 22 22 ho _ _ hs hx _ _ (by rw [hty]; exact hrun) (h A' c' w' h1 h2)
set_option maxRecDepth 100000 in
set_option maxHeartbeats 1000000 in
theorem tags_walk {sh : List UInt8 → List UInt8} (hs : Sh sh) (t : List UInt8) (A : Option Addr) (n c : Nat) (bs : List UInt8) (D : Gh) (w : World) (hk : Keeps D w) (hT : Tab D) (hb : BS D (.slice A n c) bs) (htl : t.length ≤ 9223372036854775807) :
    Calls Tryd.prog 5 #[.string (str t), .slice A n c] w fun e w' => e = .returned (.bool true) ∧ Below w.heap.size w w' := by
  obtain ⟨i0, hi, hz0, hz1, hz2⟩ := info_parts info5
  obtain ⟨hn, hnc, hcm⟩ := hb.len
  unfold maxLen at hcm
  have HN := Lib.hid hn
  clear hn
  have hss : (str t).size = t.length := by simp [str, ByteArray.size]
  have HSA := Lib.hid (sane27_c hs D w hk hT)
  by_cases h1 : 1000 < t.length
  · have g1 : (1000 : Int) < (t.length : Int) := by omega
    go_enter Tryd.func5, Tryd.ntmps5
    go_wp2_with fail
    refine HSA.out.mono ?_
    rintro e w1 ⟨rfl, hb1⟩
    go_wp2
    go_ret
    exact ⟨rfl, hb1⟩
  by_cases h2 : 1000 < n
  · have g1 : ¬ ((1000 : Int) < (t.length : Int)) := by omega
    have g2 : (1000 : Int) < (n : Int) := by omega
    go_enter Tryd.func5, Tryd.ntmps5
    go_wp2_with fail
    refine HSA.out.mono ?_
    rintro e w1 ⟨rfl, hb1⟩
    go_wp2
    go_ret
    exact ⟨rfl, hb1⟩
  have g1 : ¬ ((1000 : Int) < (t.length : Int)) := by omega
  have g2 : ¬ ((1000 : Int) < (n : Int)) := by omega
  go_enter Tryd.func5, Tryd.ntmps5
  go_wp2_with fail
  refine HSA.out.mono ?_
  rintro e w1 ⟨rfl, hb1⟩
  have hk1 := hk.below hb1 (Nat.le_refl _)
  obtain ⟨c2, w2, D2, hrun2, hG2, hbs2⟩ := conv_bytes t (by omega) D w1 hk1
  have hG2' : Grow w D w2 D2 := (Grow.of_below hk hb1).trans hG2
  go_wp2_with fail
  clear hrun2
  refine (sum_s hs _ _ _ t D2 _ hG2.keeps hbs2 (by omega) (hT.le hG2'.le)).mono ?_
  rintro e w3 ⟨rfl, hb3⟩
  have hG3 : Grow w D w3 D2 := hG2'.trans (Grow.of_below hG2'.keeps hb3)
  have h32 := Lib.hid (hs.len t)
  have HTAG := Lib.hid (fun W hk => tag_c hs t (by omega) A n c bs D2 W hk (hb.le hG3.le) (by omega) (hT.le hG3.le))
  have HTB := Lib.hid (show tagB sh t bs = sh (sh t ++ bs) from rfl)
  generalize sh t = d1 at HTB h32 ⊢
  rw [dg_darr d1 h32.out]
  have hB5 := Box.new2 hG3.keeps rfl 26 (darr d1)
  obtain ⟨D4, hG4, hle4, hbs4, hoff4⟩ := dgBox_bs (hG3.alloc (.cells (darr d1) 26)) hB5 h32.out hG3.below.size
  have hsd : (darr []).size = (darr d1).size := by rw [darr_size _ (by simp), darr_size _ (by rw [h32.out]; omega)]
  have hs26 := sz26 d1 h32.out
  clear hb1 hk1 hG2 hbs2 hb3 hB5 hoff4
  go_wp2_with (refine wpList_store_row rfl 26 _ _ rfl w3.heap.size (darr d1) rfl rfl 26 (darr []) (heap_alloc_new w3 _) hs26 hsd (darr_one _) ?_; rw [World.setRow_alloc_new])
  have hk4 := hG4.keeps
  have hbel4 := hG4.below
  have hbW := hb.le (hG3.le.trans hle4)
  have HTAG4 := Lib.hid (fun W hk => tag_c hs t (by omega) A n c bs D4 W hk hbW (by omega) (hT.le hG4.le))
  have HSUM := Lib.hid (fun A6 c6 D6 W hk hb6 hT6 => sum_s hs A6 (32 + n) c6 (d1 ++ bs) D6 W hk hb6 (by omega) hT6)
  have hr32 := Lib.hid (show (tagB sh t bs).length = 32 from hs.len _)
  rw [← HTB.out] at HSUM
  generalize tagB sh t bs = r at *
  rw [dg_darr r hr32.out] at HSUM HTAG4
  generalize hg5 : w3.heap.size = g5 at *
  generalize w3.alloc (Obj.cells (darr d1) 26) = W at *
  have heq : ∀ W, (Op.equalIn 10000 26 (.agg (darr r)) (.agg (darr r))).run Tryd.prog W = .ok true W := fun W => by
    rw [eq26 r r hr32.out hr32.out W]; simp
  clear HTAG HSA hsd hs26 hG3 hle4 hG2'
  have hlt5 := hbel4.size
  go_region_law (first | (refine step_app_empty rfl _ _ rfl rfl _ rfl D4 (by repeat (with_reducible first | assumption | refine Keeps.drew ?_ | refine Keeps.drewN ?_ _ | refine Keeps.alloc ?_ _ | exact Grow.keeps (by assumption))) _ _ _ _ rfl hbs4 (by omega) (by omega) ?_; intro A6 c6 w6 hb6 hown6; have hk6 : Keeps D4 w6 := Keeps.below (by repeat (with_reducible first | assumption | refine Keeps.drew ?_ | refine Keeps.drewN ?_ _ | refine Keeps.alloc ?_ _ | exact Grow.keeps (by assumption))) hb6 (Nat.le_refl _); have hbel6 : Below w.heap.size w w6 := belowVia hb6 (by repeat (first | (with_reducible exact Below.refl _ _) | (with_reducible refine Below.drew ?_) | (with_reducible refine belowDrewN ?_ _) | (with_reducible refine belowAlloc ?_ _) | ((with_reducible refine belowSet2 ?_ ?_); omega) | (with_reducible assumption) | (with_reducible refine belowVia (by assumption) ?_) | (with_reducible refine belowVia (Grow.below (by assumption)) ?_))); have hsz6 := hb6.size; have hoff6 := own_off (w := w) (D := D4) hown6 (by repeat (with_reducible first | assumption | refine Keeps.drew ?_ | refine Keeps.drewN ?_ _ | refine Keeps.alloc ?_ _ | exact Grow.keeps (by assumption))) (by repeat (first | (with_reducible exact Below.refl _ _) | (with_reducible refine Below.drew ?_) | (with_reducible refine belowDrewN ?_ _) | (with_reducible refine belowAlloc ?_ _) | ((with_reducible refine belowSet2 ?_ ?_); omega) | (with_reducible assumption) | (with_reducible refine belowVia (by assumption) ?_) | (with_reducible refine belowVia (Grow.below (by assumption)) ?_))); have hlt6 := own_lt (w := w) hown6 (by repeat (first | (with_reducible exact Below.refl _ _) | (with_reducible refine Below.drew ?_) | (with_reducible refine belowDrewN ?_ _) | (with_reducible refine belowAlloc ?_ _) | ((with_reducible refine belowSet2 ?_ ?_); omega) | (with_reducible assumption) | (with_reducible refine belowVia (by assumption) ?_) | (with_reducible refine belowVia (Grow.below (by assumption)) ?_)))) | (refine step_append_sl _ rfl _ _ 22 rfl _ 5 i0 (.int .u8 0) 1 Tryd.underlying22 hi hz0 hz1 hz2 rfl _ _ _ rfl hown6 D4 hk6 _ _ _ _ rfl hbW (bv_one _) (by unfold maxLen; omega) (by omega) hsz6 ?_; intro A7 c7 w7 hown7 hg7 hb7; have hG7 : Grow w D w7 D4 := (Grow.row (w1 := w6) ⟨hbel6, hk6, hG4.le, hG4.old⟩ hg7 (fun k h => (hoff6 k h).1) (fun k h => (hoff6 k h).2)); obtain ⟨D7, hG8, hle8, hsl8, hoff8⟩ := hG7.pub (own_base hown7 (Nat.le_refl _)) hlt6 (off_append hk6 (fun g h => (hoff6 g h).2) hb7); have hb8 : BS D7 (.slice A7 (32 + n) c7) (d1 ++ bs) := bs_app hsl8) | (go_simp; go_at_call 18; refine (HSUM.out _ _ D7 _ hG8.keeps hb8 (hT.le hG8.le)).mono ?_; rintro e w9 ⟨rfl, hb9⟩; have hbel9 : Below w.heap.size w w9 := belowVia hb9 hG8.below) | (go_simp; go_at_call 20; refine (HTAG4.out _ (by repeat (with_reducible first | assumption | refine Keeps.drew ?_ | refine Keeps.drewN ?_ _ | refine Keeps.alloc ?_ _ | exact Grow.keeps (by assumption)))).mono ?_; rintro e w5 ⟨rfl, hb5⟩; have hk5 : Keeps D4 w5 := Keeps.below (by repeat (with_reducible first | assumption | refine Keeps.drew ?_ | refine Keeps.drewN ?_ _ | refine Keeps.alloc ?_ _ | exact Grow.keeps (by assumption))) hb5 (Nat.le_refl _); have hbel5 : Below w.heap.size w w5 := belowVia hb5 (by repeat (first | (with_reducible exact Below.refl _ _) | (with_reducible refine Below.drew ?_) | (with_reducible refine belowDrewN ?_ _) | (with_reducible refine belowAlloc ?_ _) | ((with_reducible refine belowSet2 ?_ ?_); omega) | (with_reducible assumption) | (with_reducible refine belowVia (by assumption) ?_) | (with_reducible refine belowVia (Grow.below (by assumption)) ?_)))))
  all_goals
    go_wp2_with fail
    go_ret
    exact ⟨rfl, hbel9⟩
end Go.Proofs.YtohknemfcohhfaaDoor
