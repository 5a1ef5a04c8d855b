/-
  What is proved here: padding; append of zeros onto a row of the call's own.
-/
import Derived.Test.YtohknemfcohhfaaDoorRows
import Derived.Test.YtohknemfcohhfaaDoorBaseC
import Derived.Test.YtohknemfcohhfaaDoorSha
import Derived.Test.YtohknemfcohhfaaDoorDigA
import Derived.Test.YtohknemfcohhfaaDoorDigB
import Derived.StillTailTactics
import Derived.Lib.AppendZerosOnto
import Derived.Deep.RegionHeld3
import Derived.Deep.RegionLaw
import Derived.Deep.DeepCutAuto
import Derived.Deep.QuietTactic
import Derived.BigQuiet
import Derived.Laws.EntriesVeiled
namespace Go.Proofs.YtohknemfcohhfaaDoor
open Go.RowKit Go.VS
theorem zeroCells_one (u : Value) (m : Nat) : (Builtin.zeroCells #[u] m).toList = List.replicate m u := by
  apply List.ext_getElem?
  intro i
  rw [List.getElem?_replicate]
  by_cases h : i < m
  · rw [if_pos h]; simp [Builtin.zeroCells, h, Nat.mod_one]
  · rw [if_neg h]; simp [Builtin.zeroCells]; omega
section
variable {P : Program} (w : World)
/-- append(p, make([]T, m)...) onto a row of the call's own that is not empty. -/
theorem run_append_zeros (base : Nat) (t tn ty e : TypeId) (i : TypeInfo) (z : Value) (bytes : Nat) (kn : IntKind) (ht : P.underlying t = some (.slice e)) (htn : P.underlying tn = some (.int kn)) (hi : P.info? e = some i) (hz : i.zero = some z)
    (hsize : i.size = 1) (hby : i.bytes = bytes) (hzs : z.cells = #[z]) (hz1 : z.oneCell' = true)
    (v : Value) (n : Nat) (xs : List Value) (hn0 : 0 < n) (hown : w.ownsRow base e 1 v n xs) (m : Nat) (h63 : n + m ≤ maxLen) (hbytes : (n + m) * bytes ≤ 140737488355328) (hbase : base ≤ w.heap.size) :
    ∃ A' cap' w', (Builtin.append_ #[t, tn] ty #[v, .int .i64 m]).run P w = .ok (.slice A' (n + m) cap') w' ∧ w'.ownsRow base e 1 (.slice A' (n + m) cap') (n + m) (xs ++ List.replicate m z) ∧ w.grownBy w' v.ownBlock ∧
      (Value.ownBlock (.slice A' (n + m) cap') = v.ownBlock ∨ Value.ownBlock (.slice A' (n + m) cap') = some w.heap.size) := by
  have hxl : xs.length = n := by have := hown.1; omega
  have hm63 : n + m ≤ 9223372036854775807 := by simp only [maxLen] at h63; omega
  have hmb : m * bytes ≤ 140737488355328 := Nat.le_trans (Nat.mul_le_mul_right _ (by omega)) hbytes
  rcases hown.2 with ⟨_, h0⟩ | ⟨g, cap, cur, rfl, hbg, hg, hnc, hcm, hcs, htk⟩
  · omega
  · by_cases hroom : n + m ≤ cap
    · have hw : IntKind.i64.wrap (m : Int) = m := by rw [IntKind.wrap_i64]; omega
      have hneg : ¬ ((m : Int) < 0) := by omega
      have h48i : ¬ (281474976710656 < (m : Int) * (i.bytes : Int)) := by
        rw [← Int.natCast_mul, hby]
        omega
      have hst := run_storeCells_at (P := P) g n e (List.replicate m z) 0 cur w hg (by simp; omega) (by intro u hu; rw [(List.mem_replicate.1 hu).2]; exact hz1)
      have hrun : (Builtin.append_ #[t, tn] ty #[.slice (some ⟨g, 0, none⟩) n cap, .int .i64 m]).run P w = .ok (.slice (some ⟨g, 0, none⟩) (n + m) cap) (w.setRow g (cur.toList.take n ++ List.replicate m z ++ cur.toList.drop (n + m)).toArray) := by
        rcases Nat.eq_zero_or_pos m with e0 | e0
        · subst e0
          simp only [List.replicate_zero, Nat.add_zero, List.append_nil, List.length_nil] at hst
          simp [Builtin.append_, run_underlying ht, run_underlying htn, sizeOf, typeInfo, hi, asInt, asIntOf, hnc, IntKind.wrap_i64, storeCells, setRow_self w g cur e (0, 0) hg]
        · have hns : ¬ (m * i.size = 0) := by rw [hsize]; omega
          have hm0 : ¬ m = 0 := by omega
          have hl : (Builtin.zeroCells z.cells m).toList = List.replicate m z := by rw [hzs]; exact zeroCells_one z m
          simp [List.length_replicate] at hst
          simp [Builtin.append_, run_underlying ht, run_underlying htn, sizeOf, typeInfo, zeroValue, hi, hz, asInt, asIntOf, hw, hneg, hsize, hm0, h48i, hroom, Addr.add_lit, hl, hst]
      refine ⟨_, _, _, hrun, ⟨by simp; omega, .inr ⟨g, cap, _, rfl, hbg, setRow_heap w g cur _ e _ hg, hroom, hcm, ?_, ?_⟩⟩, ⟨rfl, rfl, rfl, by simp [World.setRow], fun k _ hk => setRow_other w g k _ (fun e => hk (by simp [e, Value.ownBlock]))⟩, .inl rfl⟩
      · simp only [List.size_toArray, List.length_append, List.length_take, List.length_drop, Array.length_toList, List.length_replicate]
        omega
      · simp only [Nat.mul_one] at htk ⊢
        rw [htk]
        have : n + m = (xs ++ List.replicate m z).length := by simp; omega
        rw [this]
        exact List.take_left
    · have hfo := run_firstCells_some (P := P) w.drew i.size n ⟨g, 0, none⟩ n cap xs (by rw [hsize]; omega) (fun j u e => hown.cells (g := g) rfl j u e)
      have hrun := Lib.run_append_grow_zeros (P := P) w t tn ty e i z .i64 kn ht htn hi hz (some ⟨g, 0, none⟩) n cap xs hfo m (by omega) (by omega) (by omega) (by omega) (by rw [hby]; omega) (by rw [hby]; exact growslice_fits (by omega) hbytes)
      have hge := grownCap_ge w (n + m) cap e
      have hcm' : grownCap w (n + m) cap e ≤ maxLen := grownCap_le_maxLen w (n + m) cap e h63
      refine ⟨_, _, _, hrun, ⟨by simp; omega, .inr ⟨w.heap.size, _, _, rfl, hbase, heap_alloc_new w.drew _, hge, hcm', ?_, ?_⟩⟩, ⟨rfl, rfl, rfl, by simp, fun k hk _ => Below.heap_alloc w.drew _ k hk⟩, .inr rfl⟩
      · simp only [Array.size_append, List.size_toArray, size_zeroCells, hzs]
        simp
        omega
      · have hlen : (n + m) * 1 = (xs ++ List.replicate m z).length := by simp; omega
        simp only [Array.toList_append, hzs, zeroCells_one]
        rw [hlen]
        exact List.take_left
end
theorem be8_at (n k : Nat) (hk : k < 8) : bv ((be8 (8 * n)).getD k 0) = .int .u8 ((n : Int) * 8 / 2 ^ (56 - 8 * k) % 256) := by
  unfold bv
  congr 1
  obtain rfl | rfl | rfl | rfl | rfl | rfl | rfl | rfl : k = 0 ∨ k = 1 ∨ k = 2 ∨ k = 3 ∨ k = 4 ∨ k = 5 ∨ k = 6 ∨ k = 7 := by omega
  all_goals
    simp only [be8, List.getD_cons_zero, List.getD_cons_succ, UInt8.toNat_ofNat']
    simp
    omega
theorem take_be8 (m k : Nat) (hk : k < 8) : (be8 m).take (k + 1) = (be8 m).take k ++ [(be8 m).getD k 0] := by
  obtain rfl | rfl | rfl | rfl | rfl | rfl | rfl | rfl : k = 0 ∨ k = 1 ∨ k = 2 ∨ k = 3 ∨ k = 4 ∨ k = 5 ∨ k = 6 ∨ k = 7 := by omega
  all_goals rfl
theorem info5 : (Tryd.prog.info? 5).map (fun i => (i.zero, i.size, i.bytes)) = some (some (.int .u8 0), 1, 1) := by kernel_rfl
set_option maxRecDepth 100000 in
set_option maxHeartbeats 1000000 in
theorem pad_c (A : Option Addr) (n c : Nat) (bs : List UInt8) (D : Gh) (w : World) (hk : Keeps D w) (hb : BS D (.slice A n c) bs) (hlim : n ≤ 1000000) :
    Calls Tryd.prog 49 #[.slice A n c] w fun e w' => ∃ A' c' D', e = .returned (.slice A' (padF bs).length c') ∧ Grow w D w' D' ∧ BS D' (.slice A' (padF bs).length c') (padF bs) := by
  obtain ⟨i0, hi, hz0, hz1, hz2⟩ := info_parts info5
  obtain ⟨hn, hnc, hcm⟩ := hb.len
  unfold maxLen at hcm
  have HN := Lib.hid hn
  clear hn
  obtain ⟨q, hq⟩ : ∃ q : Nat, q = (119 - n % 64) % 64 := ⟨_, rfl⟩
  have hq1 : (119 - (n : Int) % 64) % 64 = q := by omega
  have hq2 : q < 64 := by omega
  have HQ := Lib.hid hq
  clear hq
  have hmk : ∀ W, (Instr.makeSlice 22 (.int .i64 0) (.int .i64 ((n : Int) + 1 + q + 8))).run Tryd.prog W = .ok (.slice (some ⟨W.heap.size, 0, none⟩) 0 (n + 1 + q + 8)) (W.alloc (.cells (madeCells #[.int .u8 0] (n + 1 + q + 8)) 5)) := fun W => by
    have := run_make (P := Tryd.prog) W 22 5 i0 (.int .u8 0) Tryd.underlying22 hi hz0 .i64 .i64 0 ((n : Int) + 1 + q + 8) (by omega) (by omega) (by rw [hz2]; omega) (by omega)
    have e1 : ((n : Int) + 1 + q + 8).toNat = n + 1 + q + 8 := by omega
    rw [this, e1, hz1, Nat.mul_one]
    rfl
  go_enter Tryd.func49, Tryd.ntmps49
  go_wp2_with (at_builtin; refine wpList_append_sl _ rfl _ _ 22 rfl w.heap.size 5 i0 (.int .u8 0) 1 Tryd.underlying22 hi hz0 hz1 hz2 rfl _ 0 [] rfl (World.ownsRow_made w _ (n + 1 + q + 8) (Nat.le_refl _) ?c0 ?c00) D (hk.alloc _) _ _ _ _ rfl hb (bv_one _) ?c1 ?c2 ?c3 ?_)
  case c0 => unfold maxLen; omega
  case c00 => rw [size_madeCells]; omega
  case c1 => unfold maxLen; omega
  case c2 => omega
  case c3 => simp
  intro A1 cap1 w1 hown1 hg1 hb1
  have hG1 : Grow w D w1 D := ((Grow.refl hk).alloc _).row hg1 (by simp [Value.ownBlock]) (by simp only [Value.ownBlock]; rintro k ⟨rfl⟩; exact hk.offNew (Nat.le_refl _))
  clear hg1 hb1
  go_wp2_with (at_builtin; refine wpList_append_one rfl _ _ 22 rfl w.heap.size 5 i0 (.int .u8 0) 1 Tryd.underlying22 hi hz0 hz1 hz2 rfl _ n _ rfl (own_alloc hown1 _) w1.heap.size (.int .u8 128) rfl (heap_alloc_new w1 _) rfl ?c1 ?c2 ?c3 ?_)
  case c1 => unfold maxLen; omega
  case c2 => omega
  case c3 => have := hG1.below.size; simp; omega
  intro A2 cap2 w2 hown2 hg2 hb2
  have hG2 : Grow w D w2 D := (hG1.alloc _).row hg2 (fun k h => (hown1.lt k h).1) (fun k h => hk.offNew (hown1.lt k h).1)
  clear hg2 hb2 hG1 hown1
  obtain ⟨A3, cap3, w3, hrun3, hown3, hg3, hb3⟩ := run_append_zeros (P := Tryd.prog) w2 w.heap.size 22 3 22 5 i0 (.int .u8 0) 1 .i64 Tryd.underlying22 Tryd.underlying3 hi hz0 hz1 hz2 rfl rfl _ (n + 1) _ (by omega) hown2 q (by unfold maxLen; omega) (by omega) hG2.below.size
  have hG3 : Grow w D w3 D := hG2.row hg3 (fun k h => (hown2.lt k h).1) (fun k h => hk.offNew (hown2.lt k h).1)
  clear hg3 hb3 hG2 hown2
  go_wp2_with (at_builtin; refine Lib.wpList_append_run _ rfl _ _ 22 3 rfl _ _ rfl rfl _ _ hrun3 ?_)
  clear hrun3
  have hu1 : IntKind.u64.wrap (n : Int) = n := by rw [IntKind.wrap_u64]; omega
  obtain ⟨X, hX⟩ : ∃ X : List UInt8, X = bs ++ [128] ++ List.replicate q 0 := ⟨_, rfl⟩
  have hown4 : w3.ownsRow w.heap.size 5 1 (.slice A3 (n + 1 + q) cap3) (n + 1 + q) (X.map bv) := by rw [hX]; simpa [bv] using hown3
  have hXl : X.length = n + 1 + q := by rw [hX, HN.out]; simp; omega
  have HX := Lib.hid hX
  have HXL := Lib.hid hXl
  clear hX hXl hown3
  go_wp2_with fail
  go_loopw [2, 5] (fun p i wr => ∃ (k : Nat) (Ak : Option Addr) (ck : Nat), k ≤ 8 ∧ p = .slice Ak (n + 1 + q + k) ck ∧ i = .int .i64 (56 - 8 * (k : Int)) ∧ wr.ownsRow w.heap.size 5 1 (.slice Ak (n + 1 + q + k) ck) (n + 1 + q + k) ((X ++ (be8 (8 * n)).take k).map bv) ∧ Grow w D wr D) (fun _ i _ => (intOf i + 8).toNat)
  case atStart => exact ⟨0, A3, cap3, by omega, rfl, rfl, by simpa using hown4, hG3⟩
  case round =>
    clear hown4 hG3
    obtain ⟨k, Ak, ck, hk8, rfl, rfl, hown, hG⟩ := hrel
    by_cases hlt : k < 8
    · have hsh : (0 : Int) ≤ 56 - 8 * (k : Int) := by omega
      go_wp2_with (at_builtin; refine wpList_append_one rfl _ _ 22 rfl w.heap.size 5 i0 (.int .u8 0) 1 Tryd.underlying22 hi hz0 hz1 hz2 rfl _ (n + 1 + q + k) _ rfl (own_alloc hown _) wr.heap.size _ rfl (heap_alloc_new wr _) rfl ?c1 ?c2 ?c3 ?_)
      case c1 => unfold maxLen; omega
      case c2 => omega
      case c3 => have := hG.below.size; simp; omega
      intro A5 cap5 w5 hown5 hg5 hb5
      have hG5 : Grow w D w5 D := (hG.alloc _).row hg5 (fun k h => (hown.lt k h).1) (fun k h => hk.offNew (hown.lt k h).1)
      have hown6 : w5.ownsRow w.heap.size 5 1 (.slice A5 (n + 1 + q + (k + 1)) cap5) (n + 1 + q + (k + 1)) ((X ++ (be8 (8 * n)).take (k + 1)).map bv) := by
        rw [take_be8 _ _ hlt, List.map_append, List.map_append, List.map_cons, be8_at _ _ hlt, List.map_take, List.map_nil]
        exact hown5
      clear hown5 hg5 hb5 hown hG
      go_wp2_with fail
      go_roundw
      case rel =>
        first
          | exact ⟨k + 1, A5, cap5, by omega, rfl, by congr 1; omega, hown6, hG5⟩
          | ((repeat apply Exists.intro); exact ⟨⟨k + 1, A5, cap5, by omega, rfl, by congr 1; omega, hown6, hG5⟩, rfl⟩)
      case measure => simp [intOf]; omega
    · obtain rfl : k = 8 := by omega
      have hpad : X ++ (be8 (8 * n)).take 8 = padF bs := by rw [HX.out, HQ.out, HN.out]; rfl
      have hpl : (padF bs).length = n + 1 + q + 8 := by rw [← hpad, List.length_append, HXL.out]; rfl
      rw [hpad] at hown
      obtain ⟨D', hG', _, hsl, _⟩ := hG.pub hown (Nat.le_refl _) (fun g h => hk.offNew (hown.lt g h).1)
      have HP := Lib.hid hpl
      clear hpl hpad hown hG
      go_wp2
      go_ret
      rw [HP.out]
      exact ⟨Ak, ck, D', rfl, hG', hsl⟩
end Go.Proofs.YtohknemfcohhfaaDoor
