/-
  What is proved here: Sum, Tagged and half of the reference
-/
import Derived.Test.YtohknemfcohhfaaDoorRows
import Derived.Test.YtohknemfcohhfaaDoorBaseC
import Derived.Test.YtohknemfcohhfaaDoorSha
import Derived.Test.YtohknemfcohhfaaDoorDigA
import Derived.Test.YtohknemfcohhfaaDoorDigB
import Derived.Test.YtohknemfcohhfaaDoorDigC
import Derived.Test.YtohknemfcohhfaaDoorDigD
import Derived.Test.YtohknemfcohhfaaDoorDigE
import Derived.Test.YtohknemfcohhfaaDoorDigF
import Derived.Test.YtohknemfcohhfaaDoorDigG
import Derived.Test.YtohknemfcohhfaaDoorDigL
import Derived.Test.YtohknemfcohhfaaDoorLawHalves
import Derived.Test.YtohknemfcohhfaaDoorDigU
import Derived.Test.YtohknemfcohhfaaDoorDigV
import Derived.Lib.ConvBytes
import Derived.StillTailTactics
import Derived.Lib.AppendZerosOnto
import Derived.Deep.RegionHeld3
import Derived.Deep.MidRow
import Derived.Deep.RegionLaw
import Derived.Deep.DeepCutAuto
import Derived.Deep.QuietTactic
import Derived.BigQuiet
import Derived.Laws.EntriesVeiled
namespace Go.Proofs.YtohknemfcohhfaaDoor
open Go.RowKit Go.VS
def zeros32' : List UInt8 := List.replicate 32 0
theorem darr_zero' : darr [] = darr zeros32' := by rfl
theorem bs_mid {D : Gh} {b o n c k m : Nat} {bs : List UInt8} (h : BS D (.slice (some ⟨b, o, none⟩) n c) bs) (hk : k + m ≤ n) : BS D (.slice (some ⟨b, o + k, none⟩) m (c - k)) ((bs.drop k).take m) := by
  have h1 : BS D (.slice (some ⟨b, o + k, none⟩) (n - k) (c - k)) (bs.drop k) := by
    unfold BS
    rw [List.map_drop]
    exact Sl.drop h (by omega)
  exact bs_take h1 (by omega)
set_option maxRecDepth 100000 in
set_option maxHeartbeats 2000000 in
theorem rsum_c (A : Option Addr) (n c : Nat) (bs : List UInt8) (D : Gh) (w : World) (hk : Keeps D w) (hb : BS D (.slice A n c) bs) (hlim : n ≤ 1000000) :
    Calls Tryd.prog 19 #[.slice A n c] w fun e w' => e = .returned (dg (shaF bs)) ∧ Below w.heap.size w w' := by
  obtain ⟨hn, hnc, hcm⟩ := hb.len
  unfold maxLen at hcm
  have HN := Lib.hid hn
  clear hn
  have hB2 := (Box.new2 hk rfl 26 (darr [])).alloc (.cells (stV s0F) 69)
  have hB3 := Box.new2 (hk.alloc (.cells (darr []) 26)) (g := w.heap.size + 1) (by simp) 69 (stV s0F)
  have hbel := Lib.hid (show Below w.heap.size w ((w.alloc (.cells (darr []) 26)).alloc (.cells (stV s0F) 69)) from (by repeat (first | (with_reducible exact Below.refl _ _) | (with_reducible refine Below.drew ?_) | (with_reducible refine belowDrewN ?_ _) | (with_reducible refine belowAlloc ?_ _) | ((with_reducible refine belowSet2 ?_ ?_); omega) | (with_reducible assumption) | (with_reducible refine belowVia (by assumption) ?_) | (with_reducible refine belowVia (Grow.below (by assumption)) ?_))))
  go_enter Tryd.func19, Tryd.ntmps19
  go_wp2_with fail
  refine (rpad_c A n c bs D _ ((by repeat (with_reducible first | assumption | refine Keeps.drew ?_ | refine Keeps.drewN ?_ _ | refine Keeps.alloc ?_ _ | exact Grow.keeps (by assumption)))) hb hlim).mono ?_
  rintro e w1 ⟨A1, c1, D1, rfl, hG1, hb1⟩
  have hB2' := hB2.grow hG1
  have hB3' := hB3.grow hG1
  have hbel1 := belowVia hG1.below hbel.out
  have hkp1 := hG1.keeps
  obtain ⟨hp1, hp2, hp3⟩ := pad_len bs
  rw [← HN.out] at hp3
  obtain ⟨_, hnc1, hcm1⟩ := hb1.len
  unfold maxLen at hcm1
  have HS := Lib.hid (show shaF bs = outF (blocksF ((padF bs).length / 64) s0F (padF bs)) from rfl)
  generalize padF bs = P0 at *
  obtain ⟨M, hM⟩ : ∃ M, P0.length = 64 * M := ⟨P0.length / 64, by omega⟩
  rw [hM] at hb1 hnc1 ⊢
  rw [hM, Nat.mul_div_cancel_left _ (by decide : 0 < 64)] at HS
  have hM0 : M ≤ 20000 := by omega
  have hM1 : 0 < M := by omega
  have hMM := Lib.hid hM
  obtain ⟨b, o, rfl, _⟩ := hb1.all_ hkp1 (by omega)
  clear hM hp1 hp2 hp3 hG1 hB2 hB3 hbel
  go_wp2_with fail
  go_loopw [5] (fun p wr => ∃ (m : Nat) (h : St), m ≤ M ∧ p = .int .i64 (64 * (m : Int)) ∧ blocksF (M - m) h (P0.drop (64 * m)) = blocksF M s0F P0 ∧ Below w.heap.size w wr ∧ Keeps D1 wr ∧ Box wr D1 w.heap.size 26 (darr []) ∧ Box wr D1 (w.heap.size + 1) 69 (stV h)) (fun p _ => 64 * M - (intOf p).toNat)
  case atStart => exact ⟨0, s0F, by omega, rfl, by simp, hbel1, hkp1, hB2', hB3'⟩
  case round =>
    clear hbel1 hkp1 hB2' hB3'
    obtain ⟨m, h, hmM, rfl, hbl, hbel, hkp, hB2, hB3⟩ := hrel
    have HBL := Lib.hid hbl
    clear hbl
    by_cases hm0 : m < M
    · have hpos : 64 * (m : Int) < 64 * (M : Int) := by omega
      have hmid := bs_mid hb1 (k := 64 * m) (m := 64) (by omega)
      have hsl : ∀ W, (Instr.slice 22 (.slice (some ⟨b, o, none⟩) (64 * M) c1) (some (.int .i64 (64 * (m : Int)))) (some (.int .i64 (64 * (m : Int) + 64))) none).run Tryd.prog W = .ok (.slice (some ⟨b, o + 64 * m, none⟩) 64 (c1 - 64 * m)) W := fun W => by
        have := run_slice_mid (P := Tryd.prog) Tryd.underlying22 (by kernel_rfl) b o (64 * M) c1 (64 * m) (64 * m + 64) (by omega) (by omega) (by omega) W
        rw [show 64 * m + 64 - 64 * m = 64 by omega] at this
        simpa using this
      obtain ⟨q0, q1, q2, q3, q4, q5, q6, q7⟩ := cells8 hB3
      have hw0 : IntKind.i64.wrap (64 * (m : Int) + 64) = 64 * (m : Int) + 64 := by rw [IntKind.wrap_i64]; omega
      go_wp2_with fail
      go_still_tail 6, (by kernel_rfl)
      change wpList _ _ _ _ _ wr.drew
      go_wp2_with fail
      refine (rblock_c h _ _ ((P0.drop (64 * m)).take 64) (by rw [List.length_take, List.length_drop, hMM.out]; omega) D1 _ hkp.drew hmid).mono ?_
      rintro e w2 ⟨rfl, hb2⟩
      clear q0 q1 q2 q3 q4 q5 q6 q7 hmid hsl
      have hB2' := hB2.drew.below hb2 (by simpa using hB2.lt)
      have hB3' := hB3.drew.below hb2 (by simpa using hB3.lt)
      have hkp' := hkp.drew.below hb2 (Nat.le_refl _)
      have hbel' := belowVia hb2 hbel.drew
      have HB' := Lib.hid (show blocksF (M - (m + 1)) (mixF h ((P0.drop (64 * m)).take 64)) (P0.drop (64 * (m + 1))) = blocksF M s0F P0 by
        have := HBL.out
        rw [show M - m = (M - (m + 1)) + 1 by omega, blocksF, List.drop_drop] at this
        exact this)
      generalize mixF h ((P0.drop (64 * m)).take 64) = h' at *
      clear hB2 hB3 hkp hbel hb2
      go_wp2_with (refine wpList_store_row rfl 69 _ _ rfl (w.heap.size + 1) (stV h') rfl rfl 69 _ hB3'.heap (by kernel_rfl) rfl (stV_one _) ?_)
      exact ⟨⟨m + 1, h', by omega, by first | rfl | (congr 1; omega), HB'.out, belowRow hbel' (by omega) _, keepsRow hkp' hB3'.off _, hB2'.farRow (by omega) _, hB3'.setRow _⟩, by simp [intOf]; omega⟩
    · obtain rfl : m = M := by omega
      have HS2 := Lib.hid (show shaF bs = outF h from HS.out.trans (by rw [← HBL.out, Nat.sub_self]; rfl))
      have hB2d := hB2.alloc (.cells (darr []) 26)
      have hB3d := hB3.alloc (.cells (darr []) 26)
      have hB6 := Box.new2 hkp rfl 26 (darr [])
      have hbel6 := belowAlloc hbel (.cells (darr []) 26)
      have hlt3 := hB3.lt
      have hz26 := sz26 zeros32' rfl
      rw [← darr_zero'] at hz26
      go_wp2_with (refine wpList_store_row rfl 26 _ _ rfl wr.heap.size (darr []) rfl rfl 26 (darr []) (heap_alloc_new wr _) hz26 rfl (darr_one _) ?_; rw [World.setRow_alloc_new])
      clear hB2 hB3 hbel hkp hz26
      generalize wr.heap.size = g6 at *
      generalize wr.alloc (Obj.cells (darr []) 26) = W6 at *
      go_loopw [7] (fun x wx => ∃ i : Nat, i ≤ 32 ∧ x = .int .i64 i ∧ Below w.heap.size w wx ∧ Box wx D1 w.heap.size 26 (darr []) ∧ Box wx D1 (w.heap.size + 1) 69 (stV h) ∧ Box wx D1 g6 26 (darr ((outF h).take i))) (fun x _ => 32 - (intOf x).toNat)
      case atStart => exact ⟨0, by omega, rfl, hbel6, hB2d, hB3d, hB6⟩
      case round =>
        clear hbel6 hB2d hB3d hB6
        obtain ⟨i, hi8, rfl, hbel, hB2, hB3, hB6⟩ := hrel
        by_cases hlt : i < 32
        · obtain ⟨a, k, ha, hk4, rfl⟩ : ∃ a k, a < 8 ∧ k < 4 ∧ i = 4 * a + k := ⟨i / 4, i % 4, by omega, by omega, by omega⟩
          have hca := (hB3.cell a).trans (lV_at (stL h) a ((stL h).getD a 0) (by rw [List.getElem?_eq_getElem (show a < (stL h).length from ha)]; simp [List.getD, List.getElem?_eq_getElem (show a < (stL h).length from ha)]))
          have hoa := out_at h a k ha hk4
          generalize (stL h).getD a 0 = xi at hca hoa
          have hl : ((outF h).take (4 * a + k)).length = 4 * a + k := by rw [List.length_take, outF_len]; omega
          have hend := darr_end ((outF h).take (4 * a + k)) (by rw [hl]; omega)
          have hset := darr_set ((outF h).take (4 * a + k)) ((outF h).getD (4 * a + k) 0) (by rw [hl]; omega)
          rw [hl] at hend hset
          rw [← outF_take h _ (by omega), hoa] at hset
          obtain ⟨qk, fk⟩ := hB6.held hend
          have HSET := Lib.hid hset
          clear hl hend hset hoa
          have hs0 : (0 : Int) ≤ 24 - 8 * (k : Int) := by omega
          have d1 : (4 * (a : Int) + (k : Int)) / 4 = a := by omega
          have d2 : (4 * (a : Int) + (k : Int)) % 4 = k := by omega
          have d3 : (4 * (a : Int) + (k : Int)).tdiv 4 = a := by rw [Int.tdiv_eq_ediv_of_nonneg (by omega)]; exact d1
          have d4 : (4 * (a : Int) + (k : Int)).tmod 4 = k := by rw [Int.tmod_eq_emod_of_nonneg (by omega)]; exact d2
          have d5 : (a : Int) < 8 := by omega
          have d6 : (4 * (a : Int) + (k : Int)) < 32 := by omega
          have d7 : (24 - 8 * (k : Int)).toNat = 24 - 8 * k := by omega
          have d8 : (4 * (a : Int) + (k : Int)).toNat = 4 * a + k := by omega
          go_wp2
          have hf := hB6.set_ (4 * a + k) (.int .u8 (xi / 2 ^ (24 - 8 * k) % 256))
          rw [HSET.out] at hf
          have hf2 := belowSet2 (b := g6) (o := 4 * a + k) (u := .int .u8 (xi / 2 ^ (24 - 8 * k) % 256)) (by have := hbel.size; omega) hbel
          exact ⟨⟨4 * a + k + 1, by omega, by first | rfl | (congr 1; omega), hf2, Box.far2 (by omega) hB2, Box.far2 (by omega) hB3, hf⟩, by simp [intOf]; omega⟩
        · obtain rfl : i = 32 := by omega
          rw [show (outF h).take 32 = outF h from rfl] at hB6
          have hd32 := outF_len h
          generalize outF h = d at *
          have hsz : (Tryd.prog.info? 26).map (·.size) = some (darr d).size := sz26 d hd32
          have hsr : (darr []).size = (darr d).size := by rw [darr_size _ (by simp), darr_size _ (by omega)]
          have HD := Lib.hid hd32
          clear hd32
          go_wp2_with (first | (refine wpList_load_row rfl 26 _ rfl g6 rfl 26 _ (0, 0) _ hB6.heap Tryd.underlying26 rfl hsz ?_) | (refine wpList_store_row rfl 26 _ _ rfl w.heap.size (darr d) rfl rfl 26 _ hB2.heap hsz hsr (darr_one _) ?_))
          refine bodyPost_ret (results_cell_row rfl _ _ _ _ _ _ _ rfl (hB2.setRow _).heap Tryd.underlying26 rfl hsz) rfl ⟨?_, belowRow hbel (Nat.le_refl _) _⟩
          rw [HS2.out, darr_full _ HD.out]
          rfl
theorem rsum_s {sh : List UInt8 → List UInt8} (hs : Sh sh) (A : Option Addr) (n c : Nat) (bs : List UInt8) (D : Gh) (w : World) (hk : Keeps D w) (hb : BS D (.slice A n c) bs) (hlim : n ≤ 1000000) :
    Calls Tryd.prog 19 #[.slice A n c] w fun e w' => e = .returned (dg (sh bs)) ∧ Below w.heap.size w w' := by
  rw [hs bs]
  exact rsum_c A n c bs D w hk hb hlim
set_option maxRecDepth 100000 in
set_option maxHeartbeats 400000 in
theorem rtag_c {sh : List UInt8 → List UInt8} (hs : Sh sh) (t : List UInt8) (ht : t.length ≤ 100000) (A : Option Addr) (n c : Nat) (bs : List UInt8) (D : Gh) (w : World) (hk : Keeps D w) (hb : BS D (.slice A n c) bs) (hlim : n ≤ 100000) :
    Calls Tryd.prog 21 #[.string (str t), .slice A n c] w fun e w' => e = .returned (dg (tagB sh t bs)) ∧ Below w.heap.size w w' := by
  obtain ⟨i0, hi, hz0, hz1, hz2⟩ := info_parts info5
  have hB4 := Box.new2 hk rfl 26 (darr [])
  have hbel0 := Lib.hid (show Below w.heap.size w (w.alloc (.cells (darr []) 26)) from (by repeat (first | (with_reducible exact Below.refl _ _) | (with_reducible refine Below.drew ?_) | (with_reducible refine belowDrewN ?_ _) | (with_reducible refine belowAlloc ?_ _) | ((with_reducible refine belowSet2 ?_ ?_); omega) | (with_reducible assumption) | (with_reducible refine belowVia (by assumption) ?_) | (with_reducible refine belowVia (Grow.below (by assumption)) ?_))))
  obtain ⟨c1, w1, D1, hrun1, hG1, hb1⟩ := conv_bytes t (by omega) D (w.alloc (.cells (darr []) 26)) ((by repeat (with_reducible first | assumption | refine Keeps.drew ?_ | refine Keeps.drewN ?_ _ | refine Keeps.alloc ?_ _ | exact Grow.keeps (by assumption))))
  rw [show (w.alloc (.cells (darr []) 26)).heap.size = w.heap.size + 1 by simp] at hrun1 hb1
  go_enter Tryd.func21, Tryd.ntmps21
  go_wp2_with fail
  change Oper.upon _ _ _ _ _ ((Sem.run _ _ (w.alloc (.cells (darr []) 26))).andThen _)
  rw [hrun1]
  clear hrun1
  have hB4' := hB4.grow hG1
  have hbel1 := belowVia hG1.below hbel0.out
  have hG1' : Grow w D w1 D1 := ⟨hbel1, hG1.keeps, hG1.le, fun b hb o => hG1.old b (by simp; omega) o⟩
  clear hB4 hbel0 hG1 hbel1
  go_wp2_with fail
  refine (rsum_s hs _ _ _ t D1 _ hG1'.keeps hb1 (by omega)).mono ?_
  rintro e w2 ⟨rfl, hb2⟩
  have hB4'' := hB4'.below hb2 hB4'.lt
  have hG2 : Grow w D w2 D1 := hG1'.trans (Grow.of_below hG1'.keeps hb2)
  have hlt := hG2.below.size
  have h32 := Lib.hid (hs.len t)
  have hTB := Lib.hid (show tagB sh t bs = sh (sh t ++ bs) from rfl)
  generalize sh t = d1 at hTB h32 ⊢
  rw [dg_darr d1 h32.out]
  clear hB4' hb2 hG1' hb1
  have hB5 := Box.new2 hG2.keeps rfl 26 (darr d1)
  have hG3 := hG2.alloc (.cells (darr d1) 26)
  have hB4 := hB4''.alloc (.cells (darr d1) 26)
  obtain ⟨D3, hG3', hle3, hbs3, hoff3⟩ := dgBox_bs hG3 hB5 h32.out hlt
  have hB4x := hB4.le (hoff3 _ hB4.off (by have := hB4''.lt; omega))
  have hsd : (darr []).size = (darr d1).size := by rw [darr_size _ (by simp), darr_size _ (by rw [h32.out]; omega)]
  have hs26 := sz26 d1 h32.out
  have hbW := hb.le hG3'.le
  clear hB5 hG3 hB4 hle3 hoff3
  have hW2 : w.heap.size < (w2.alloc (.cells (darr d1) 26)).heap.size := hB4x.lt
  have hbel3 := hG3'.below
  have hWs : (w2.alloc (.cells (darr d1) 26)).heap.size = w2.heap.size + 1 := by simp
  have hown0 := own_e0 (s := 1) (Nat.le_refl _) (heap_alloc_new (w2.alloc (.cells (darr d1) 26)) (.cells #[] 5))
  rw [hWs] at hown0
  clear hB4'' hG2 hlt
  go_wp2_with (first | (refine wpList_store_row rfl 26 _ _ rfl w2.heap.size (darr d1) rfl rfl 26 (darr []) (heap_alloc_new w2 _) hs26 hsd (darr_one _) ?_; rw [World.setRow_alloc_new]) | (at_builtin; refine wpList_append_sl _ rfl _ _ 22 rfl (w2.heap.size + 1) 5 i0 (.int .u8 0) 1 Tryd.underlying22 hi hz0 hz1 hz2 rfl _ 0 [] rfl hown0 D3 (hG3'.keeps.alloc _) _ _ _ _ rfl hbs3 (bv_one _) ?c1 ?c2 ?c3 ?_))
  case c1 => unfold maxLen; omega
  case c2 => omega
  case c3 => first | (simp; done) | (simp; omega)
  intro A1 cap1 w5 hown1 hg1 hb5
  generalize w2.heap.size = g5 at *
  generalize w2.alloc (Obj.cells (darr d1) 26) = W at *
  have hG5 : Grow W D3 w5 D3 := ((Grow.refl hG3'.keeps).alloc _).row hg1 (by simp only [Value.ownBlock]; rintro k ⟨rfl⟩; omega) (by simp only [Value.ownBlock]; rintro k ⟨rfl⟩; exact hG3'.keeps.offNew (by omega))
  clear hg1 hb5
  go_wp2_with (at_builtin; refine wpList_append_sl _ rfl _ _ 22 rfl (g5 + 1) 5 i0 (.int .u8 0) 1 Tryd.underlying22 hi hz0 hz1 hz2 rfl _ _ _ rfl hown1 D3 hG5.keeps _ _ _ _ rfl hbW (bv_one _) ?c1 ?c2 ?c3 ?_)
  case c1 => unfold maxLen; omega
  case c2 => omega
  case c3 => have := hG5.below.size; omega
  intro A6 cap6 w6 hown6 hg6 hb6
  have hG6 : Grow W D3 w6 D3 := hG5.row hg6 (fun k h => by have := (hown1.lt k h).1; omega) (fun k h => hG3'.keeps.offNew (by have := (hown1.lt k h).1; omega))
  obtain ⟨D7, hG7, hle7, hsl7, hoff7⟩ := hG6.pub hown6 (by omega) (fun g h => hG3'.keeps.offNew (by have := (hown6.lt g h).1; omega))
  have hb7 : BS D7 (.slice A6 (32 + n) cap6) (d1 ++ bs) := by
    unfold BS; rw [List.map_append]; simpa using hsl7
  have hG8 := hG3'.trans hG7
  have hB4y := hB4x.grow hG7
  clear hown1 hown6 hg6 hb6 hG6 hG5 hsl7 hoff7 hle7
  go_wp2_with fail
  refine (rsum_s hs _ _ _ (d1 ++ bs) D7 _ hG8.keeps hb7 (by omega)).mono ?_
  rintro e w9 ⟨rfl, hb9⟩
  rw [← hTB.out]
  have hB4z := hB4y.below hb9 hB4y.lt
  have hbel6 := belowVia hb9 hG8.below
  have hr32 := Lib.hid (show (tagB sh t bs).length = 32 from hs.len _)
  generalize hr : tagB sh t bs = r at hr32 ⊢
  have HR := Lib.hid hr
  clear hr
  rw [dg_darr r hr32.out]
  have hsr : (darr []).size = (darr r).size := by rw [darr_size _ (by simp), darr_size _ (by rw [hr32.out]; omega)]
  have hsr26 := sz26 r hr32.out
  go_wp2_with (refine wpList_store_row rfl 26 _ _ rfl w.heap.size (darr r) rfl rfl 26 (darr []) hB4z.heap hsr26 hsr (darr_one _) ?_)
  refine bodyPost_ret (results_cell_row rfl _ _ _ _ _ _ _ rfl (hB4z.setRow _).heap Tryd.underlying26 rfl hsr26) rfl ⟨?_, belowRow hbel6 (Nat.le_refl _) _⟩
  rw [HR.out, dg_darr r hr32.out]
set_option maxRecDepth 100000 in
set_option maxHeartbeats 400000 in
theorem rhalf_c (n : Nat) (h2 : 2 ≤ n) (hn : n ≤ 1099511627776) (w : World) : Calls Tryd.prog 57 #[.int .i64 n] w fun e w' => e = .returned (.int .i64 (half n)) ∧ w = w' := by
  go_enter Tryd.func57, Tryd.ntmps57
  go_wp2_with fail
  go_loop [3] (fun x => ∃ k : Nat, x = .int .i64 k ∧ k < n ∧ (∃ j, k = 2 ^ j)) (fun x => 2 * n - (intOf x).toNat)
  case atStart => exact ⟨1, rfl, by omega, 0, rfl⟩
  case round =>
    obtain ⟨k, rfl, hkn, hpow⟩ := hrel
    have hk1 : 1 ≤ k := by obtain ⟨j, rfl⟩ := hpow; exact Nat.two_pow_pos j
    by_cases hlt : 2 * k < n
    · have g1 : (2 : Int) * (k : Int) < (n : Int) := by omega
      have hpow' : ∃ j, 2 * k = 2 ^ j := by obtain ⟨j, rfl⟩ := hpow; exact ⟨j + 1, by rw [Nat.pow_succ']⟩
      clear hpow
      go_wp2_with fail
      exact ⟨⟨2 * k, by first | rfl | (congr 1; omega), hlt, hpow'⟩, by simp only [intOf]; omega⟩
    · have g1 : ¬ ((2 : Int) * (k : Int) < (n : Int)) := by omega
      have hkh := half_is h2 hpow hkn hlt
      clear hpow
      go_wp2_with fail
      go_ret
      exact ⟨by first | rfl | rw [hkh], rfl⟩
end Go.Proofs.YtohknemfcohhfaaDoor
