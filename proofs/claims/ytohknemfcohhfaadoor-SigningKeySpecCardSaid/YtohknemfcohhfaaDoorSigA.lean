/-
  What is proved here: the digits of a digest with their checksum (digits and Digits)
-/
import Derived.Test.YtohknemfcohhfaaDoorRows
import Derived.Test.YtohknemfcohhfaaDoorBaseC
import Derived.Test.YtohknemfcohhfaaDoorSha
import Derived.Test.YtohknemfcohhfaaDoorDigA
import Derived.Test.YtohknemfcohhfaaDoorDigC
import Derived.Test.YtohknemfcohhfaaDoorDigD
import Derived.Test.YtohknemfcohhfaaDoorDigE
import Derived.Test.YtohknemfcohhfaaDoorDigF
import Derived.Test.YtohknemfcohhfaaDoorDigG
import Derived.Test.YtohknemfcohhfaaDoorDigH
import Derived.Test.YtohknemfcohhfaaDoorDigI
import Derived.Test.YtohknemfcohhfaaDoorDigJ
import Derived.Test.YtohknemfcohhfaaDoorDigK
import Derived.Test.YtohknemfcohhfaaDoorDigL
import Derived.Test.YtohknemfcohhfaaDoorDigM
import Derived.Test.YtohknemfcohhfaaDoorDigN
import Derived.Test.YtohknemfcohhfaaDoorDigO
import Derived.Test.YtohknemfcohhfaaDoorDigP
import Derived.Test.YtohknemfcohhfaaDoorDigQ
import Derived.Test.YtohknemfcohhfaaDoorDigR
import Derived.Test.YtohknemfcohhfaaDoorDigS
import Derived.Test.YtohknemfcohhfaaDoorDigT
import Derived.Test.YtohknemfcohhfaaDoorLawTags
import Derived.Test.YtohknemfcohhfaaDoorTree
import Derived.Test.YtohknemfcohhfaaDoorShelf
import Derived.Lib.ConvBytes
import Derived.StillTailTactics
import Derived.Lib.AppendZerosOnto
import Derived.Deep.RegionHeld3
import Derived.Stop.BytesEq
import Derived.Great.BuildSlice
import Derived.Deep.MidRow
import Derived.Deep.RegionLaw
import Derived.Deep.DeepCutAuto
import Derived.Deep.QuietTactic
import Derived.BigQuiet
import Derived.Laws.EntriesVeiled
namespace Go.Proofs.YtohknemfcohhfaaDoor
open Go.RowKit Go.VS
theorem run_index_agg {P : Program} {t e : TypeId} {n : Nat} (h : P.underlying t = some (.array n e)) (he : (P.info? e).map (·.size) = some 1) (hu : ∃ k, P.underlying e = some (.int k)) (cs : Array Value) (i : Nat) (hi : i < n) (v : Value) (hv : cs[i]? = some v) (W : World) :
    (Instr.index t (.agg cs) (.int .i64 (i : Int))).run P W = .ok v W := by
  obtain ⟨q, hq, hs⟩ : ∃ i, P.info? e = some i ∧ i.size = 1 := by
    cases h : P.info? e with
    | none => rw [h] at he; cases he
    | some i => rw [h] at he; exact ⟨i, rfl, by simpa using he⟩
  obtain ⟨k, hk⟩ := hu
  simp [Instr.index, run_underlying h, asIntOf, sizeOf, typeInfo, hq, hs, hv, hi, isAgg, run_underlying hk, go_sem]
/-- numbers as cells. -/
def lI (l : List Int) : Array Value := (l.map (Value.int .i64)).toArray
/-- the two digits of a byte. -/
def hex2 (c : UInt8) : List Int := [(c.toNat : Int) / 16, (c.toNat : Int) % 16]
def dsum (d : List UInt8) : Int := (d.map fun c => 30 - (c.toNat : Int) / 16 - (c.toNat : Int) % 16).sum
def tail3 (s : Int) : List Int := [s / 256, s / 16 % 16, s % 16]
/-- the digits of a digest, with their checksum. -/
def digF (d : List UInt8) : List Int := d.flatMap hex2 ++ tail3 (dsum d)
/-- the digits behind i rounds. -/
def digP (d : List UInt8) (i : Nat) : List Int := (d.take i).flatMap hex2 ++ List.replicate (67 - 2 * i) 0
theorem hex_len (d : List UInt8) : (d.flatMap hex2).length = 2 * d.length := by
  induction d with
  | nil => rfl
  | cons c r ih => simp only [List.flatMap_cons, List.length_append, ih, List.length_cons]; simp [hex2]; omega
theorem lI_set (l : List Int) (k : Nat) (x : Int) : (lI l).setIfInBounds k (.int .i64 x) = lI (l.set k x) := by
  simp [lI, List.map_set]
theorem lI_at (l : List Int) (k : Nat) (x : Int) (h : l[k]? = some x) : (lI l)[k]? = some (.int .i64 x) := by
  simp [lI, h]
theorem dsum_le (d : List UInt8) : 0 ≤ dsum d ∧ dsum d ≤ 30 * d.length := by
  induction d with
  | nil => simp [dsum]
  | cons c r ih =>
    have hc : c.toNat < 256 := c.toNat_lt
    have e : dsum (c :: r) = (30 - (c.toNat : Int) / 16 - (c.toNat : Int) % 16) + dsum r := by simp [dsum]
    rw [e, List.length_cons]
    omega
theorem dsum_succ (d : List UInt8) (i : Nat) (c : UInt8) (h : d[i]? = some c) : dsum (d.take (i + 1)) = dsum (d.take i) + (30 - (c.toNat : Int) / 16 - (c.toNat : Int) % 16) := by
  rw [List.take_add_one, h]
  simp [dsum]
theorem digP_succ (d : List UInt8) (i : Nat) (c : UInt8) (h : d[i]? = some c) (hi : i < 32) : ((digP d i).set (2 * i) ((c.toNat : Int) / 16)).set (2 * i + 1) ((c.toNat : Int) % 16) = digP d (i + 1) := by
  have hlt : i < d.length := by
    rcases Nat.lt_or_ge i d.length with h1 | h1
    · exact h1
    · rw [List.getElem?_eq_none h1] at h; cases h
  have hl : ((d.take i).flatMap hex2).length = 2 * i := by rw [hex_len, List.length_take]; omega
  have hr : 67 - 2 * i = (67 - 2 * (i + 1)) + 1 + 1 := by omega
  unfold digP
  rw [List.take_add_one, h, hr, List.replicate_succ, List.replicate_succ]
  simp only [Option.toList_some, List.flatMap_append, List.append_assoc]
  rw [List.set_append_right _ _ (by omega), List.set_append_right _ _ (by rw [hl]; omega)]
  congr 1
  rw [hl, Nat.sub_self, show 2 * i + 1 - 2 * i = 1 by omega]
  simp [hex2]
theorem digP_end (d : List UInt8) (hd : d.length = 32) : (((digP d 32).set 64 (dsum d / 256)).set 65 (dsum d / 16 % 16)).set 66 (dsum d % 16) = digF d := by
  have hl : (d.flatMap hex2).length = 64 := by rw [hex_len, hd]
  unfold digP digF
  rw [List.take_of_length_le (by omega), List.set_append_right _ _ (by omega), List.set_append_right _ _ (by omega), List.set_append_right _ _ (by omega), hl]
  rfl
theorem digP_len (d : List UInt8) (hd : d.length = 32) (i : Nat) (hi : i ≤ 32) : (digP d i).length = 67 := by
  unfold digP
  rw [List.length_append, hex_len, List.length_replicate, List.length_take]
  omega
theorem digP_zero (d : List UInt8) : digP d 0 = List.replicate 67 0 := by simp [digP]
set_option maxRecDepth 100000 in
set_option maxHeartbeats 1000000 in
theorem digits_c (d : List UInt8) (hd : d.length = 32) (D : Gh) (w : World) (hk : Keeps D w) :
    Calls Tryd.prog 67 #[dg d] w fun e w' => e = .returned (.agg (lI (digF d))) ∧ Below w.heap.size w w' := by
  rw [dg_darr d hd]
  have hB1 := (Box.new2 hk rfl 26 (darr d)).alloc (.cells (lI (List.replicate 67 0)) 82)
  have hB2 := Box.new2 (hk.alloc (.cells (darr d) 26)) (g := w.heap.size + 1) (by simp) 82 (lI (List.replicate 67 0))
  have hs26 := sz26 d hd
  go_enter Tryd.func67, Tryd.ntmps67
  go_wp2_with (first | (refine wpList_load_row rfl 26 _ rfl w.heap.size rfl 26 _ (0, 0) _ hB1.heap Tryd.underlying26 rfl hs26 ?_))
  have hz82 : Tryd.zeroCells82 = lI (List.replicate 67 0) := by rfl
  rw [hz82]
  have hbel0 : Below w.heap.size w ((w.alloc (.cells (darr d) 26)).alloc (.cells (lI (List.replicate 67 0)) 82)) := (by repeat (first | (with_reducible exact Below.refl _ _) | (with_reducible refine Below.drew ?_) | (with_reducible refine belowDrewN ?_ _) | (with_reducible refine belowAlloc ?_ _) | ((with_reducible refine belowSet2 ?_ ?_); omega) | (with_reducible assumption) | (with_reducible refine belowVia (by assumption) ?_) | (with_reducible refine belowVia (Grow.below (by assumption)) ?_)))
  generalize (w.alloc (.cells (darr d) 26)).alloc (.cells (lI (List.replicate 67 0)) 82) = w0 at *
  rw [← digP_zero d] at hB2
  clear hz82 hB1
  go_loopw [3, 7] (fun sm y wr => ∃ i : Nat, i ≤ 32 ∧ sm = .int .i64 (dsum (d.take i)) ∧ y = .int .i64 i ∧ Below w.heap.size w wr ∧ Box wr D (w.heap.size + 1) 82 (lI (digP d i))) (fun _ y _ => 32 - (intOf y).toNat)
  case atStart => exact ⟨0, by omega, rfl, rfl, hbel0, hB2⟩
  case round =>
    clear hB2 hbel0
    obtain ⟨i, hi, rfl, rfl, hbel, hB⟩ := hrel
    by_cases hlt : i < 32
    · have hdi : d[i]? = some (d[i]'(by omega)) := List.getElem?_eq_getElem _
      have hcell : (darr d)[i]? = some (bv (d[i]'(by omega))) := by rw [darr_full d hd]; simp [hdi]
      have HS := Lib.hid (dsum_succ d i _ hdi)
      have HP := Lib.hid (digP_succ d i _ hdi hlt)
      have hc := (d[i]'(by omega)).toNat_lt
      have hsl := dsum_le (d.take i)
      have HLT : (d.take i).length ≤ 32 := by rw [List.length_take]; omega
      have hlen := digP_len d hd i hi
      generalize d[i]'(by omega) = c at *
      generalize dsum (d.take i) = sm at *
      generalize digP d i = l at *
      unfold bv at hcell
      have hc0 : (0 : Int) ≤ (c.toNat : Int) ∧ (c.toNat : Int) < 256 := by omega
      generalize (c.toNat : Int) = cv at *
      have hix := fun W => run_index_agg (P := Tryd.prog) (t := 26) Tryd.underlying26 (by kernel_rfl) ⟨.u8, Tryd.underlying5⟩ (darr d) i hlt _ hcell W
      have q0 := hB.held (lI_at l (2 * i) l[2 * i] (List.getElem?_eq_getElem (by omega)))
      obtain ⟨q0, f0⟩ := q0
      obtain ⟨q1, f1⟩ := hB.held (lI_at l (2 * i + 1) l[2 * i + 1] (List.getElem?_eq_getElem (by omega)))
      have g0 : (0 : Int) ≤ (i : Int) := by omega
      have g1 : (i : Int) < 32 := by omega
      go_wp2_with fail
      have hB1 := (hB.set_ (2 * i) (.int .i64 (cv / 16))).set_ (2 * i + 1) (.int .i64 (cv % 16))
      have hbel1 : Below w.heap.size w ((wr.setCell ⟨w.heap.size + 1, 2 * i, none⟩ (.int .i64 (cv / 16))).setCell ⟨w.heap.size + 1, 2 * i + 1, none⟩ (.int .i64 (cv % 16))) := (by repeat (first | (with_reducible exact Below.refl _ _) | (with_reducible refine Below.drew ?_) | (with_reducible refine belowDrewN ?_ _) | (with_reducible refine belowAlloc ?_ _) | ((with_reducible refine belowSet2 ?_ ?_); omega) | (with_reducible assumption) | (with_reducible refine belowVia (by assumption) ?_) | (with_reducible refine belowVia (Grow.below (by assumption)) ?_)))
      rw [lI_set, lI_set, HP.out] at hB1
      have HP2 := HP
      clear q0 f0 q1 f1 hB hbel
      generalize (wr.setCell ⟨w.heap.size + 1, 2 * i, none⟩ (.int .i64 (cv / 16))).setCell ⟨w.heap.size + 1, 2 * i + 1, none⟩ (.int .i64 (cv % 16)) = w1 at *
      have q0 := (hB1.cell (2 * i)).trans (lI_at _ _ (cv / 16) (by rw [← HP.out, List.getElem?_set_ne (by omega), List.getElem?_set_self (by omega)]))
      have q1 := (hB1.cell (2 * i + 1)).trans (lI_at _ _ (cv % 16) (by rw [← HP.out, List.getElem?_set_self (by rw [List.length_set]; omega)]))
      clear HP HP2
      go_quiet (fail)
      go_wp2_with fail
      go_roundw
      case rel =>
        first
          | exact ⟨i + 1, by omega, by rw [HS.out]; congr 1; omega, by go_num, belowDrewN hbel1 _, hB1.drewN _⟩
          | ((repeat apply Exists.intro); exact ⟨⟨i + 1, by omega, by rw [HS.out]; congr 1; omega, by go_num, belowDrewN hbel1 _, hB1.drewN _⟩, rfl⟩)
      case measure => simp [intOf]; omega
    · obtain rfl : i = 32 := by omega
      rw [show ((32 : Nat) : Int) = 32 from rfl, show d.take 32 = d from List.take_of_length_le (by omega)]
      have hsl := dsum_le d
      rw [hd] at hsl
      have HE := Lib.hid (digP_end d hd)
      have hlen := digP_len d hd 32 (by omega)
      generalize digP d 32 = l at *
      generalize dsum d = sm at *
      have hm1 := i64_mask4 (sm / 16)
      have hm2 := i64_mask4 sm
      obtain ⟨q0, f0⟩ := hB.held (lI_at l 64 l[64] (List.getElem?_eq_getElem (by omega)))
      obtain ⟨q1, f1⟩ := hB.held (lI_at l 65 l[65] (List.getElem?_eq_getElem (by omega)))
      obtain ⟨q2, f2⟩ := hB.held (lI_at l 66 l[66] (List.getElem?_eq_getElem (by omega)))
      have hB1 := ((hB.set_ 64 (.int .i64 (sm / 256))).set_ 65 (.int .i64 (sm / 16 % 16))).set_ 66 (.int .i64 (sm % 16))
      rw [lI_set, lI_set, lI_set, HE.out] at hB1
      have hr67 : (lI (digF d)).size = 67 := by have := congrArg List.length HE.out; simp [hlen] at this; simp [lI, ← this]
      have hz82 : (Tryd.prog.info? 82).map (·.size) = some (lI (digF d)).size := by rw [hr67]; kernel_rfl
      obtain ⟨R, hR⟩ : ∃ R, R = digF d := ⟨_, rfl⟩
      rw [← hR] at hB1 hz82
      have HR := Lib.hid hR
      clear HE hR hr67
      have hone : (lI R).all (·.oneCell') = true := by simp [lI]; intro x _; rfl
      have hbel1 : Below w.heap.size w (((wr.setCell ⟨w.heap.size + 1, 64, none⟩ (.int .i64 (sm / 256))).setCell ⟨w.heap.size + 1, 65, none⟩ (.int .i64 (sm / 16 % 16))).setCell ⟨w.heap.size + 1, 66, none⟩ (.int .i64 (sm % 16))) := (by repeat (first | (with_reducible exact Below.refl _ _) | (with_reducible refine Below.drew ?_) | (with_reducible refine belowDrewN ?_ _) | (with_reducible refine belowAlloc ?_ _) | ((with_reducible refine belowSet2 ?_ ?_); omega) | (with_reducible assumption) | (with_reducible refine belowVia (by assumption) ?_) | (with_reducible refine belowVia (Grow.below (by assumption)) ?_)))
      go_wp2_with (first | ((with_reducible show wpList _ _ _ ((⟨some 49, _, _, _, _, _⟩ : Oper) :: _) _ _); refine wpList_load_row rfl 82 _ rfl (w.heap.size + 1) rfl 82 _ (0, 0) _ hB1.heap Tryd.underlying82 rfl hz82 ?_) | ((with_reducible show wpList _ _ _ ((⟨none, .store 82 _ _, _, _, _, _⟩ : Oper) :: _) _ _); refine wpList_store_row rfl 82 _ _ rfl (w.heap.size + 1) (lI R) rfl rfl 82 (lI R) hB1.heap hz82 rfl hone ?_))
      refine bodyPost_ret (results_cell_row rfl _ _ _ _ _ _ _ rfl (hB1.setRow _).heap Tryd.underlying82 rfl hz82) rfl ⟨by rw [HR.out], belowRow hbel1 (by omega) _⟩
theorem digF_len (d : List UInt8) (hd : d.length = 32) : (digF d).length = 67 := by
  unfold digF
  rw [List.length_append, hex_len, hd]; rfl
/-- the slice value v reads as these numbers. -/
def NS (D : Gh) (v : Value) (l : List Int) : Prop := Sl D v (l.map (Value.int .i64))
set_option maxRecDepth 100000 in
set_option maxHeartbeats 1000000 in
theorem Digits_c (d : List UInt8) (hd : d.length = 32) (D : Gh) (w : World) (hk : Keeps D w) :
    Calls Tryd.prog 39 #[dg d] w fun e w' => ∃ g D', e = .returned (.slice (some ⟨g, 0, none⟩) 67 67) ∧ Grow w D w' D' ∧ NS D' (.slice (some ⟨g, 0, none⟩) 67 67) (digF d) := by
  have hB1 := Box.new2 hk rfl 26 (darr d)
  have hs26 := sz26 d hd
  have HD := Lib.hid (fun W hk => digits_c d hd D W hk)
  simp only [dg_darr d hd] at HD ⊢
  have hz82 : (Tryd.prog.info? 82).map (·.size) = some (lI (digF d)).size := by rw [show (lI (digF d)).size = 67 by simp [lI, digF_len d hd]]; kernel_rfl
  have hsz : Tryd.zeroCells82.size = (lI (digF d)).size := by rw [show (lI (digF d)).size = 67 by simp [lI, digF_len d hd]]; rfl
  have hlen := Lib.hid (digF_len d hd)
  obtain ⟨R, hR⟩ : ∃ R, R = digF d := ⟨_, rfl⟩
  rw [← hR] at HD hz82 hsz hlen ⊢
  clear hR
  have hone : (lI R).all (·.oneCell') = true := by simp [lI]; intro x _; rfl
  go_enter Tryd.func39, Tryd.ntmps39
  go_wp2_with ((with_reducible show wpList _ _ _ ((⟨_, .load 26 _, _, _, _, _⟩ : Oper) :: _) _ _); refine wpList_load_row rfl 26 _ rfl (w.heap.size) rfl 26 _ (0, 0) _ (hB1.heap) Tryd.underlying26 rfl (hs26) ?_)
  refine (HD.out _ (hk.alloc _)).mono ?_
  rintro e w1 ⟨rfl, hb1⟩
  have hbel : Below w.heap.size w w1 := belowVia hb1 (by repeat (first | (with_reducible exact Below.refl _ _) | (with_reducible refine Below.drew ?_) | (with_reducible refine belowDrewN ?_ _) | (with_reducible refine belowAlloc ?_ _) | ((with_reducible refine belowSet2 ?_ ?_); omega) | (with_reducible assumption) | (with_reducible refine belowVia (by assumption) ?_) | (with_reducible refine belowVia (Grow.below (by assumption)) ?_)))
  have hk1 : Keeps D w1 := hk.below hbel (Nat.le_refl _)
  have hB2 := Box.new2 hk1 rfl 82 (lI R)
  have hbel2 := belowAlloc hbel (.cells (lI R) 82)
  have hG : Grow w D (w1.alloc (.cells (lI R) 82)) D := Grow.of_below hk hbel2
  obtain ⟨D', hG', _, hc, _⟩ := hG.pubBox hB2 hbel.size
  go_wp2_with (first | (((with_reducible show wpList _ _ _ ((⟨_, .store 82 _ _, _, _, _, _⟩ : Oper) :: _) _ _); refine wpList_store_row rfl 82 _ _ rfl (w1.heap.size) (lI R) rfl rfl 82 (Tryd.zeroCells82) (heap_alloc_new w1 _) (hz82) (hsz) (hone) ?_); rw [World.setRow_alloc_new]))
  go_ret
  refine ⟨_, D', rfl, hG', some ⟨w1.heap.size, 0, none⟩, 67, by rw [List.length_map, hlen.out], by rw [List.length_map, hlen.out]; omega, by simp [maxLen], by simp, fun _ => ⟨_, _, rfl, fun j u e => ?_⟩⟩
  rw [Nat.zero_add]
  exact hc j u (by simpa [lI] using e)
end Go.Proofs.YtohknemfcohhfaaDoor
