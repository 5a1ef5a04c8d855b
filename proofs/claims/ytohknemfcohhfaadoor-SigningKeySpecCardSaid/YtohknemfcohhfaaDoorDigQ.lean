/-
  What is proved here: the chapter's examples (sane) hold.
-/
import Derived.Test.YtohknemfcohhfaaDoorRows
import Derived.Test.YtohknemfcohhfaaDoorBaseC
import Derived.Test.YtohknemfcohhfaaDoorSha
import Derived.Test.YtohknemfcohhfaaDoorDigA
import Derived.Test.YtohknemfcohhfaaDoorDigC
import Derived.Test.YtohknemfcohhfaaDoorDigD
import Derived.Test.YtohknemfcohhfaaDoorDigE
import Derived.Test.YtohknemfcohhfaaDoorDigF
import Derived.Test.YtohknemfcohhfaaDoorDigG
import Derived.Test.YtohknemfcohhfaaDoorDigH
import Derived.Test.YtohknemfcohhfaaDoorDigI
import Derived.Test.YtohknemfcohhfaaDoorDigJ
import Derived.Test.YtohknemfcohhfaaDoorDigK
import Derived.Test.YtohknemfcohhfaaDoorDigL
import Derived.Test.YtohknemfcohhfaaDoorDigM
import Derived.Test.YtohknemfcohhfaaDoorDigN
import Derived.Test.YtohknemfcohhfaaDoorDigO
import Derived.Test.YtohknemfcohhfaaDoorDigP
import Derived.Test.YtohknemfcohhfaaDoorTree
import Derived.Test.YtohknemfcohhfaaDoorShelf
import Derived.Lib.ConvBytes
import Derived.StillTailTactics
import Derived.Lib.AppendZerosOnto
import Derived.Deep.RegionHeld3
import Derived.Stop.BytesEq
import Derived.Great.BuildSlice
import Derived.Deep.MidRow
import Derived.Deep.RegionLaw
import Derived.Deep.DeepCutAuto
import Derived.Deep.QuietTactic
import Derived.BigQuiet
import Derived.Laws.EntriesVeiled
namespace Go.Proofs.YtohknemfcohhfaaDoor
open Go.RowKit Go.VS
/-- []byte of a constant string: the literal's row, marked; known from now on. -/
theorem conv_lit (bs : List UInt8) (hl : bs.length ≤ 1000) (D : Gh) (w : World) (hk : Keeps D w) :
    ∃ w' D', (convert 22 22 (.slice (some ⟨w.heap.size, 0, none⟩) bs.length bs.length)).run Tryd.prog (w.alloc (.cells (bs.map bv).toArray 5)) = .ok (.slice (some ⟨w.heap.size, 0, none⟩) bs.length bs.length) w' ∧ Grow w D w' D' ∧ BS D' (.slice (some ⟨w.heap.size, 0, none⟩) bs.length bs.length) bs := by
  have hsh : (w.alloc (.cells (bs.map bv).toArray 5)).shape? w.heap.size = some (5, (bs.map bv).toArray.size) := by
    simp [World.shape?, World.alloc, -World.alloc_eq]
  refine ⟨(w.alloc (.cells (bs.map bv).toArray 5)).freeze ⟨w.heap.size, (bs.map bv).toArray.size, none⟩ 1, D.add w.heap.size (bs.map bv), ?_, ?_, ?_⟩
  · simp only [List.size_toArray, List.length_map] at hsh
    simp [convert, run_underlying Tryd.underlying22, run_underlying Tryd.underlying5, markStringish, hsh]
  · have hb : Below w.heap.size w ((w.alloc (.cells (bs.map bv).toArray 5)).freeze ⟨w.heap.size, (bs.map bv).toArray.size, none⟩ 1) := ⟨rfl, rfl, rfl, by simp [World.freeze, World.alloc, -World.alloc_eq], fun j hj => by
      have h1 : w.heap.size ≠ j := by omega
      simp [World.freeze, World.alloc, -World.alloc_eq, Array.getElem?_modify, Array.getElem?_push, h1, Ne.symm h1]⟩
    refine ⟨hb, (hk.below hb (Nat.le_refl _)).add fun o v e => ?_, Gh.le_add (hk.offNew (Nat.le_refl _)) _, fun b hb o => off_add_lt (Nat.le_refl _) b hb o⟩
    have hh : ((w.alloc (.cells (bs.map bv).toArray 5)).freeze ⟨w.heap.size, (bs.map bv).toArray.size, none⟩ 1).heap[w.heap.size]? = some (.cells (bs.map bv).toArray 5 ((bs.map bv).toArray.size, (bs.map bv).toArray.size + 1)) := by
      simp [World.freeze, World.alloc, -World.alloc_eq]
      rw [Array.getElem_modify_self]
      simp
    rw [cell_of_row _ _ _ _ _ _ hh]
    simpa using e
  · refine ⟨some ⟨w.heap.size, 0, none⟩, bs.length, by simp, by simp, by unfold maxLen; omega, by simp, fun _ => ⟨_, _, rfl, fun j u e => ?_⟩⟩
    rw [Nat.zero_add, Gh.add_at]; exact e
theorem eq26 (xs ys : List UInt8) (hx : xs.length = 32) (hy : ys.length = 32) (W : World) : (Op.equalIn 10000 26 (.agg (darr xs)) (.agg (darr ys))).run Tryd.prog W = .ok (xs == ys) W := by
  rw [darr_full xs hx, darr_full ys hy]
  exact run_equalIn_bytes W 9998 26 5 32 Tryd.underlying26 Tryd.underlying5 Tryd.sizeOf5 xs ys hx hy
theorem lenF02 : lenF 0 2 = 1 := by rw [lenF_lo (by omega) (half_pos 2), lenF_one 0 (half_lt (by omega))]
theorem lenF01 : lenF 0 1 = 0 := lenF_one 0 (by omega)
theorem climb02 (sh : List UInt8 → List UInt8) : climbR sh zeros32 0 2 [] = (zeros32, 1) := by
  unfold climbR
  rw [if_neg]
  rintro ⟨_, _, _, h⟩
  have : ([] : List Dg).length = lenF 0 2 := h
  rw [lenF02] at this
  simp at this
theorem climb01 (sh : List UInt8 → List UInt8) (d : List UInt8) : climbR sh d 0 1 [] = (tagB sh leafT d, 0) := by
  unfold climbR
  rw [if_pos ⟨by omega, by omega, by omega, lenF01.symm⟩]
  exact congrArg (·, (0 : Int)) (climbF_one _ d 0 [] (by decide))
/-- a slice literal of one digest, known. -/
theorem ds_lit {w : World} {D : Gh} (hk : Keeps D w) (d : List UInt8) (hd : d.length = 32) : ∃ D', Grow w D (w.alloc (.cells (darr d) 26)) D' ∧ DS D' (.slice (some ⟨w.heap.size, 0, none⟩) 1 1) [d] := by
  obtain ⟨D', h1, h2, h3, h4⟩ := ((Grow.refl hk).alloc (.cells (darr d) 26)).pubBox (Box.new2 hk rfl 26 (darr d)) (Nat.le_refl _)
  refine ⟨D', h1, fun x hx => by simp at hx; rw [hx]; exact hd, by simp [flat, hd], some ⟨w.heap.size, 0, none⟩, 1, rfl, Nat.le_refl _, by simp [maxLen], by simp, fun _ => ⟨_, _, rfl, fun j u e => ?_⟩⟩
  rw [Nat.zero_add]
  refine h3 j u ?_
  rw [darr_full d hd]
  simpa [flat] using e
theorem tree_one {sh : List UInt8 → List UInt8} (hs : Sh sh) (d : List UInt8) (hd : d.length = 32) (D : Gh) (w : World) (hk : Keeps D w) (hT : Tab D) :
    Calls Tryd.prog 23 #[.slice (some ⟨w.heap.size, 0, none⟩) 1 1] (w.alloc (.cells (darr d) 26)) fun e w' => e = .returned (.agg (darr (tagB sh leafT d))) ∧ Below w.heap.size w w' := by
  obtain ⟨D', hG, hds⟩ := ds_lit hk d hd
  refine (tree_c hs _ 1 1 [d] D' _ hG.keeps (hT.le hG.le) hds (by omega)).mono fun e w' h => ⟨?_, belowVia h.2 hG.below⟩
  rw [h.1, treeF_one, dg_darr (tagB sh leafT d) (hs.len _)]
def abcD : List UInt8 := [0xba, 0x78, 0x16, 0xbf, 0x8f, 0x01, 0xcf, 0xea, 0x41, 0x41, 0x40, 0xde, 0x5d, 0xae, 0x22, 0x23, 0xb0, 0x03, 0x61, 0xa3, 0x96, 0x17, 0x7a, 0x9c, 0xb4, 0x10, 0xff, 0x61, 0xf2, 0x00, 0x15, 0xad]
def nilD : List UInt8 := [0xe3, 0xb0, 0xc4, 0x42, 0x98, 0xfc, 0x1c, 0x14, 0x9a, 0xfb, 0xf4, 0xc8, 0x99, 0x6f, 0xb9, 0x24, 0x27, 0xae, 0x41, 0xe4, 0x64, 0x9b, 0x93, 0x4c, 0xa4, 0x95, 0x99, 0x1b, 0x78, 0x52, 0xb8, 0x55]
def oneD : List UInt8 := 1 :: List.replicate 31 0
theorem sh_abc {sh : List UInt8 → List UInt8} (hs : Sh sh) : sh [97, 98, 99] = abcD := (hs _).trans sha_abc
theorem sh_nil {sh : List UInt8 → List UInt8} (hs : Sh sh) : sh [] = nilD := (hs _).trans sha_nil
theorem abc_cells : (darr abcD)[0]? = some (.int .u8 186) ∧ (darr abcD)[1]? = some (.int .u8 120) ∧ (darr abcD)[2]? = some (.int .u8 22) ∧ (darr abcD)[3]? = some (.int .u8 191) ∧ (darr abcD)[31]? = some (.int .u8 173) := ⟨by rfl, by rfl, by rfl, by rfl, by rfl⟩
theorem nil_cells : (darr nilD)[0]? = some (.int .u8 227) ∧ (darr nilD)[1]? = some (.int .u8 176) ∧ (darr nilD)[31]? = some (.int .u8 85) := ⟨by rfl, by rfl, by rfl⟩
set_option maxRecDepth 100000 in
set_option maxHeartbeats 1000000 in
theorem sane27_c {sh : List UInt8 → List UInt8} (hs : Sh sh) (D : Gh) (w : World) (hk : Keeps D w) (hT : Tab D) : Calls Tryd.prog 17 #[] w fun e w' => e = .returned (.bool true) ∧ Below w.heap.size w w' := by
  obtain ⟨w0, D1, hrun0, hG1, hbs1⟩ := conv_lit [97, 98, 99] (by simp) D w hk
  go_enter Tryd.func17, Tryd.ntmps17
  go_wp2_with fail
  change Oper.upon _ _ _ _ _ ((Sem.run _ _ (w.alloc (.cells (([97, 98, 99] : List UInt8).map bv).toArray 5))).andThen _)
  have hrun0' : (convert 22 22 (.slice (some ⟨w.heap.size, 0, none⟩) 3 3)).run Tryd.prog (w.alloc (.cells (([97, 98, 99] : List UInt8).map bv).toArray 5)) = _ := hrun0
  rw [hrun0']
  clear hrun0 hrun0'
  have hbs1' : BS D1 (.slice (some ⟨w.heap.size, 0, none⟩) 3 3) [97, 98, 99] := hbs1
  go_wp2_with fail
  refine (sum_s hs _ 3 3 [97, 98, 99] D1 _ hG1.keeps hbs1' (by omega) (hT.le hG1.le)).mono ?_
  rintro e w1 ⟨rfl, hb1⟩
  rw [sh_abc hs]
  have hk1 := hG1.keeps.below hb1 (Nat.le_refl _)
  have hbel1 := belowVia hb1 hG1.below
  have hT1 := hT.le hG1.le
  clear hb1 hbs1 hbs1' hG1
  go_wp2_with fail
  refine (sum_s hs none 0 0 [] D1 _ hk1 (BS.nil D1) (by omega) hT1).mono ?_
  rintro e w2 ⟨rfl, hb2⟩
  rw [sh_nil hs]
  have hk2 := hk1.below hb2 (Nat.le_refl _)
  have hbel2 := belowVia hb2 hbel1
  clear hb2 hk1 hbel1
  rw [dg_darr abcD rfl, dg_darr nilD rfl]
  have hB1 := (Box.new2 hk2 rfl 26 (darr [])).alloc (.cells (darr []) 26)
  have hB2 := Box.new2 (hk2.alloc (.cells (darr []) 26)) (g := w2.heap.size + 1) (by simp) 26 (darr [])
  have hB1' := hB1.setRow (darr abcD)
  have hB2' := hB2.farRow (p := w2.heap.size) (by omega) (darr abcD)
  have hB1'' := hB1'.farRow (p := w2.heap.size + 1) (by omega) (darr nilD)
  have hB2'' := hB2'.setRow (darr nilD)
  have hk3 : Keeps D1 ((((w2.alloc (.cells (darr []) 26)).alloc (.cells (darr []) 26)).setRow w2.heap.size (darr abcD)).setRow (w2.heap.size + 1) (darr nilD)) := keepsRow (keepsRow ((by repeat (with_reducible first | assumption | refine Keeps.drew ?_ | refine Keeps.drewN ?_ _ | refine Keeps.alloc ?_ _ | exact Grow.keeps (by assumption)))) hB1.off _) hB2.off _
  have hbel3 : Below w.heap.size w ((((w2.alloc (.cells (darr []) 26)).alloc (.cells (darr []) 26)).setRow w2.heap.size (darr abcD)).setRow (w2.heap.size + 1) (darr nilD)) := belowRow (belowRow ((by repeat (first | (with_reducible exact Below.refl _ _) | (with_reducible refine Below.drew ?_) | (with_reducible refine belowDrewN ?_ _) | (with_reducible refine belowAlloc ?_ _) | ((with_reducible refine belowSet2 ?_ ?_); omega) | (with_reducible assumption) | (with_reducible refine belowVia (by assumption) ?_) | (with_reducible refine belowVia (Grow.below (by assumption)) ?_)))) hbel2.size _) (by have := hbel2.size; omega) _
  have hz1 := sz26 abcD rfl
  have hz2 := sz26 nilD rfl
  go_wp2_with (first | (refine wpList_store_row rfl 26 _ _ rfl w2.heap.size (darr abcD) rfl rfl 26 (darr []) hB1.heap hz1 rfl (darr_one _) ?_) | (refine wpList_store_row rfl 26 _ _ rfl (w2.heap.size + 1) (darr nilD) rfl rfl 26 (darr []) hB2'.heap hz2 rfl (darr_one _) ?_))
  refine (path_nil _).mono ?_
  rintro e W ⟨rfl, hW⟩
  have hW' : (((w2.alloc (.cells (darr []) 26)).alloc (.cells (darr []) 26)).setRow w2.heap.size (darr abcD)).setRow (w2.heap.size + 1) (darr nilD) = W := hW
  rw [hW'] at hB1'' hB2'' hk3 hbel3
  have hws := hbel2.size
  clear hW hW' hB1 hB2 hB1' hB2' hk2 hbel2 hz1 hz2
  generalize w2.heap.size = g1 at *
  go_wp2_with fail
  refine (path_one _ _ _).mono ?_
  rintro e W1 ⟨rfl, hW⟩
  have hW' : W.alloc (.cells (darr oneD) 26) = W1 := hW
  have hB3 := hB1''.alloc (.cells (darr oneD) 26)
  have hB4 := hB2''.alloc (.cells (darr oneD) 26)
  have hk4 := hk3.alloc (.cells (darr oneD) 26)
  have hbel4 := belowAlloc hbel3 (.cells (darr oneD) 26)
  rw [hW'] at hB3 hB4 hk4 hbel4
  clear hW hW' hB1'' hB2'' hk3 hbel3
  go_wp2_with fail
  refine (climbR_c hs zeros32 rfl 0 2 none 0 0 [] D1 _ hk4 hT1 (DS.nil D1)).mono ?_
  rintro e W2 ⟨rfl, hb5⟩
  rw [climb02, show dg (zeros32, (1 : Int)).1 = .agg (darr zeros32) from dg_darr zeros32 rfl]
  have hB5 := (hB3.below hb5 hB3.lt).alloc (.cells (darr zeros32) 26)
  have hB6 := (hB4.below hb5 hB4.lt).alloc (.cells (darr zeros32) 26)
  have hk5 := (hk4.below hb5 (Nat.le_refl _)).alloc (.cells (darr zeros32) 26)
  have hbel5 := belowAlloc (belowVia hb5 hbel4) (.cells (darr zeros32) 26)
  clear hB3 hB4 hk4 hbel4 hb5
  have hz3 := sz26 zeros32 rfl
  go_wp2_with (refine wpList_store_row rfl 26 _ _ rfl W2.heap.size (darr zeros32) rfl rfl 26 (darr []) (heap_alloc_new W2 _) hz3 rfl (darr_one _) ?_; rw [World.setRow_alloc_new])
  refine (climbR_c hs oneD rfl 0 1 none 0 0 [] D1 _ hk5 hT1 (DS.nil D1)).mono ?_
  rintro e W3 ⟨rfl, hb6⟩
  rw [climb01]
  have hr32 := Lib.hid (show (tagB sh leafT oneD).length = 32 from hs.len _)
  have HTO := Lib.hid (fun W hk => tree_one hs oneD rfl D1 W hk hT1)
  generalize tagB sh leafT oneD = r at *
  rw [show dg (r, (0 : Int)).1 = .agg (darr r) from dg_darr r hr32.out]
  have hB7 := (hB5.below hb6 hB5.lt).alloc (.cells (darr r) 26)
  have hB8 := (hB6.below hb6 hB6.lt).alloc (.cells (darr r) 26)
  have hk7 := (hk5.below hb6 (Nat.le_refl _)).alloc (.cells (darr r) 26)
  have hbel7 := belowAlloc (belowVia hb6 hbel5) (.cells (darr r) 26)
  have hB9 := Box.new2 (hk5.below hb6 (Nat.le_refl _)) rfl 26 (darr r)
  clear hB5 hB6 hk5 hbel5 hb6 hz3
  have hzr := sz26 r hr32.out
  have hsr : (darr []).size = (darr r).size := by rw [darr_size _ (by simp), darr_size _ (by rw [hr32.out]; omega)]
  obtain ⟨a0, a1, a2, a3, a31⟩ := abc_cells
  obtain ⟨n0, n1, n31⟩ := nil_cells
  have c0 := (hB7.cell 0).trans a0
  have c1 := (hB7.cell 1).trans a1
  have c2 := (hB7.cell 2).trans a2
  have c3 := (hB7.cell 3).trans a3
  have c31 := (hB7.cell 31).trans a31
  have e0 := (hB8.cell 0).trans n0
  have e1 := (hB8.cell 1).trans n1
  have e31 := (hB8.cell 31).trans n31
  clear a0 a1 a2 a3 a31 n0 n1 n31
  go_wp2_with (refine wpList_store_row rfl 26 _ _ rfl W3.heap.size (darr r) rfl rfl 26 (darr []) (heap_alloc_new W3 _) hzr hsr (darr_one _) ?_; rw [World.setRow_alloc_new])
  clear c0 c1 c2 c3 c31 e0 e1 e31 hB7 hB8
  generalize hg9 : W3.heap.size = g9 at *
  generalize W3.alloc (Obj.cells (darr r) 26) = W4 at *
  have hu26 := Tryd.underlying26
  have hsz := sz26l r hr32.out
  have SH : Hid (∀ W, Box W D1 g9 26 (darr r) → W.rangeAt g9 0 (r.map bv)) := fun W h j v hv => by
    rw [Nat.zero_add, h.cell, darr_full r hr32.out]; simpa using hv
  have heq : ∀ W, (Op.equalIn 10000 26 (.agg (r.map bv).toArray) (.agg (darr r))).run Tryd.prog W = .ok true W := fun W => by
    have := eq26 r r hr32.out hr32.out W
    rw [← darr_full r hr32.out, this]
    simp
  have hk7d := hk7.drew
  have hB9d := hB9.drew
  have hbel7d := hbel7.drew
  have hlt9 := hB9.lt
  go_region_held3 (fun w' => w'.rangeAt g9 0 (r.map bv))
    (first | (refine SH.out _ ?_; (repeat (with_reducible first | assumption | refine Box.drew ?_ | refine Box.alloc ?_ _)); done) | go_keep)
    (first | (go_at_call 23; refine (HTO.out W4.drew hk7d).mono ?_; rintro e W5 ⟨rfl, hb9⟩; have hB10 : Box W5 D1 g9 26 (darr r) := hB9d.below hb9 hlt9; have hbel10 : Below w.heap.size w W5 := belowVia hb9 hbel7d))
  all_goals
    go_wp2_with fail
    go_ret
    exact ⟨rfl, hbel10⟩
end Go.Proofs.YtohknemfcohhfaaDoor
