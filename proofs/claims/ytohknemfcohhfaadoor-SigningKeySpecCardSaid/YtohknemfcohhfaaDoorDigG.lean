/-
  What is proved here: Tagged, leaf, split.
-/
import Derived.Test.YtohknemfcohhfaaDoorRows
import Derived.Test.YtohknemfcohhfaaDoorBaseC
import Derived.Test.YtohknemfcohhfaaDoorSha
import Derived.Test.YtohknemfcohhfaaDoorDigA
import Derived.Test.YtohknemfcohhfaaDoorDigC
import Derived.Test.YtohknemfcohhfaaDoorDigD
import Derived.Test.YtohknemfcohhfaaDoorDigE
import Derived.Test.YtohknemfcohhfaaDoorDigF
import Derived.Test.YtohknemfcohhfaaDoorTree
import Derived.Test.YtohknemfcohhfaaDoorShelf
import Derived.Lib.ConvBytes
import Derived.StillTailTactics
import Derived.Lib.AppendZerosOnto
import Derived.Deep.RegionHeld3
import Derived.Deep.RegionLaw
import Derived.Deep.DeepCutAuto
import Derived.Deep.QuietTactic
import Derived.BigQuiet
import Derived.Laws.EntriesVeiled
namespace Go.Proofs.YtohknemfcohhfaaDoor
open Go.RowKit Go.VS
/-- sh is the hash function (a letter, so that nobody reckons it out). -/
def Sh (sh : List UInt8 → List UInt8) : Prop := ∀ b, sh b = shaF b
theorem Sh.len {sh : List UInt8 → List UInt8} (hs : Sh sh) (b : List UInt8) : (sh b).length = 32 := by rw [hs b]; rfl
/-- the hash of b in the domain of a tag. -/
def tagB (sh : List UInt8 → List UInt8) (t : List UInt8) (b : List UInt8) : List UInt8 := sh (sh t ++ b)
theorem sum_s {sh : List UInt8 → List UInt8} (hs : Sh sh) (A : Option Addr) (n c : Nat) (bs : List UInt8) (D : Gh) (w : World) (hk : Keeps D w) (hb : BS D (.slice A n c) bs) (hlim : n ≤ 1000000) (hT : Tab D) :
    Calls Tryd.prog 18 #[.slice A n c] w fun e w' => e = .returned (dg (sh bs)) ∧ Below w.heap.size w w' := by
  rw [hs bs]
  exact sum_c A n c bs D w hk hb hlim hT
theorem conv_bytes (s : List UInt8) (hs : s.length ≤ 1000000) (D : Gh) (w : World) (hk : Keeps D w) : ∃ c w' D', (convert 9 22 (.string (str s))).run Tryd.prog w = .ok (.slice (some ⟨w.heap.size, 0, none⟩) s.length c) w' ∧ Grow w D w' D' ∧ BS D' (.slice (some ⟨w.heap.size, 0, none⟩) s.length c) s := by
  have hrun := Lib.run_convert_string_bytes (P := Tryd.prog) w 9 22 5 (str s) Tryd.underlying9 Tryd.underlying22 Tryd.underlying5
  have hsz : (str s).size = s.length := by simp [str, ByteArray.size]
  have hcell : ∀ j (hj : j < s.length), (Lib.bytesWorld w 5 (str s)).cell? ⟨w.heap.size, j, none⟩ = some (bv s[j]) := fun j hj => by
    rw [Lib.bytesWorld_cell w 5 (str s) j (by rw [hsz]; exact hj)]
    simp [str, bv, hj]
  have hbel : Below w.heap.size w (Lib.bytesWorld w 5 (str s)) := ⟨rfl, rfl, rfl, by rw [Lib.bytesWorld_size]; omega, fun j hj => Lib.bytesWorld_at_old w 5 (str s) j hj⟩
  have hge := grownCap_ge w (str s).size 0 5
  have hle := grownCap_le_maxLen w (str s).size 0 5 (by rw [hsz]; unfold maxLen; omega)
  rw [hsz] at hrun hge hle
  have ho := hk.offNew (Nat.le_refl w.heap.size)
  refine ⟨_, _, D.add w.heap.size (s.map bv), hrun, ⟨hbel, (hk.below hbel (Nat.le_refl _)).add fun o v e => ?_, Gh.le_add ho _, fun b hb o => off_add_lt (Nat.le_refl _) b hb o⟩, ?_⟩
  · have hj : o < s.length := by
      rcases Nat.lt_or_ge o s.length with h | h
      · exact h
      · rw [List.getElem?_eq_none (by simpa using h)] at e; cases e
    rw [hcell o hj, ← e]
    simp [hj]
  · refine ⟨some ⟨w.heap.size, 0, none⟩, _, by simp, by simpa using hge, hle, by simp, fun _ => ⟨_, _, rfl, fun j u e => ?_⟩⟩
    rw [Nat.zero_add, Gh.add_at]; exact e
theorem bitLen_log2 : ∀ (x : Nat), 0 < x → x < 2 ^ 64 → Lib.bitLen x = Nat.log2 x + 1 := by
  intro x
  induction x using Nat.strongRecOn with
  | ind x ih =>
    intro h0 h64
    rw [Lib.bitLen_half x (by omega) h64, Nat.log2_def]
    by_cases h : x ≥ 2
    · rw [if_pos h, ih (x / 2) (by omega) (by omega) (by omega)]
      omega
    · obtain rfl : x = 1 := by omega
      rfl
theorem half_bound {n : Nat} (h : 2 ≤ n) (hn : n ≤ 1099511627776) : Nat.log2 (n - 1) < 40 := (Nat.log2_lt (by omega)).2 (by omega)
set_option maxHeartbeats 1000000 in
theorem split_c (n : Nat) (h2 : 2 ≤ n) (hn : n ≤ 1099511627776) (w : World) : Calls Tryd.prog 55 #[.int .i64 n] w fun e w' => e = .returned (.int .i64 (half n)) ∧ w = w' := by
  have hlog := half_bound h2 hn
  have hu : IntKind.u64.wrap ((n : Int) - 1) = ((n - 1 : Nat) : Int) := by rw [IntKind.wrap_u64]; omega
  have hbl := bitLen_log2 (n - 1) (by omega) (by omega)
  have hhalf : half n = 2 ^ Nat.log2 (n - 1) := rfl
  have hpow : 2 ^ Nat.log2 (n - 1) < 1099511627776 := by have := half_lt h2; rw [hhalf] at this; omega
  generalize Nat.log2 (n - 1) = L at *
  have HH := Lib.hid hhalf
  have HBL := Lib.hid hbl
  clear hhalf hbl
  have hc := fun W => Tryd.bits_Len (n - 1 : Nat) W (by omega) (by omega)
  simp only [Int.toNat_natCast, HBL.out] at hc
  have hL0 : (0 : Int) ≤ (L : Int) := by omega
  go_enter Tryd.func55, Tryd.ntmps55
  go_wp2_with fail
  refine (hc w).mono ?_
  rintro e w' ⟨rfl, rfl⟩
  go_wp2
  go_ret
  refine ⟨?_, rfl⟩
  have hp : ((2 : Int) ^ L) = ((2 ^ L : Nat) : Int) := by rw [Int.natCast_pow]; rfl
  have hw : wrap64 ((2 : Int) ^ L) = ((2 ^ L : Nat) : Int) := by
    rw [hp]
    generalize 2 ^ L = x at *
    simp only [wrap64]
    omega
  rw [HH.out, hw]
  rfl

/-- what a whole digest in a variable reads as, sliced. -/
theorem dgBox_bs {w wr : World} {D D' : Gh} {g : Nat} {d : List UInt8} (h : Grow w D wr D') (hB : Box wr D' g 26 (darr d)) (hd : d.length = 32) (hg : w.heap.size ≤ g) :
    ∃ D'', Grow w D wr D'' ∧ D'.le D'' ∧ BS D'' (.slice (some ⟨g, 0, none⟩) 32 32) d ∧ (∀ k, D'.off k → k ≠ g → D''.off k) := by
  obtain ⟨D'', h1, h2, h3, h4⟩ := h.pubBox hB hg
  refine ⟨D'', h1, h2, ⟨some ⟨g, 0, none⟩, 32, by simp [hd], by simp [hd], by simp [maxLen], by simp, fun _ => ⟨g, 0, rfl, fun j u e => ?_⟩⟩, h4⟩
  rw [Nat.zero_add]
  refine h3 j u ?_
  rw [darr_full d hd]
  simpa using e
theorem dg_darr (d : List UInt8) (h : d.length = 32) : dg d = .agg (darr d) := by rw [darr_full d h]; rfl
theorem sz26 (d : List UInt8) (h : d.length = 32) : (Tryd.prog.info? 26).map (·.size) = some (darr d).size := by rw [darr_size d (by omega)]; kernel_rfl
theorem info5' : ∃ i, Tryd.prog.info? 5 = some i ∧ i.zero = some (.int .u8 0) ∧ i.size = 1 ∧ i.bytes = 1 := info_parts info5

set_option maxRecDepth 100000 in
set_option maxHeartbeats 400000 in
theorem tag_c {sh : List UInt8 → List UInt8} (hs : Sh sh) (t : List UInt8) (ht : t.length ≤ 100000) (A : Option Addr) (n c : Nat) (bs : List UInt8) (D : Gh) (w : World) (hk : Keeps D w) (hb : BS D (.slice A n c) bs) (hlim : n ≤ 100000) (hT : Tab D) :
    Calls Tryd.prog 20 #[.string (str t), .slice A n c] w fun e w' => e = .returned (dg (tagB sh t bs)) ∧ Below w.heap.size w w' := by
  obtain ⟨i0, hi, hz0, hz1, hz2⟩ := info_parts info5
  have hB4 := Box.new2 hk rfl 26 (darr [])
  have hbel0 := Lib.hid (show Below w.heap.size w (w.alloc (.cells (darr []) 26)) from (by repeat (first | (with_reducible exact Below.refl _ _) | (with_reducible refine Below.drew ?_) | (with_reducible refine belowDrewN ?_ _) | (with_reducible refine belowAlloc ?_ _) | ((with_reducible refine belowSet2 ?_ ?_); omega) | (with_reducible assumption) | (with_reducible refine belowVia (by assumption) ?_) | (with_reducible refine belowVia (Grow.below (by assumption)) ?_))))
  obtain ⟨c1, w1, D1, hrun1, hG1, hb1⟩ := conv_bytes t (by omega) D (w.alloc (.cells (darr []) 26)) ((by repeat (with_reducible first | assumption | refine Keeps.drew ?_ | refine Keeps.drewN ?_ _ | refine Keeps.alloc ?_ _ | exact Grow.keeps (by assumption))))
  rw [show (w.alloc (.cells (darr []) 26)).heap.size = w.heap.size + 1 by simp] at hrun1 hb1
  go_enter Tryd.func20, Tryd.ntmps20
  go_wp2_with fail
  change Oper.upon _ _ _ _ _ ((Sem.run _ _ (w.alloc (.cells (darr []) 26))).andThen _)
  rw [hrun1]
  clear hrun1
  have hB4' := hB4.grow hG1
  have hbel1 := belowVia hG1.below hbel0.out
  have hG1' : Grow w D w1 D1 := ⟨hbel1, hG1.keeps, hG1.le, fun b hb o => hG1.old b (by simp; omega) o⟩
  clear hB4 hbel0 hG1 hbel1
  go_wp2_with fail
  refine (sum_s hs _ _ _ t D1 _ hG1'.keeps hb1 (by omega) (hT.le hG1'.le)).mono ?_
  rintro e w2 ⟨rfl, hb2⟩
  have hB4'' := hB4'.below hb2 hB4'.lt
  have hG2 : Grow w D w2 D1 := hG1'.trans (Grow.of_below hG1'.keeps hb2)
  have hlt := hG2.below.size
  have h32 := Lib.hid (hs.len t)
  have hTB := Lib.hid (show tagB sh t bs = sh (sh t ++ bs) from rfl)
  generalize sh t = d1 at hTB h32 ⊢
  rw [dg_darr d1 h32.out]
  clear hB4' hb2 hG1' hb1
  have hB5 := Box.new2 hG2.keeps rfl 26 (darr d1)
  have hG3 := hG2.alloc (.cells (darr d1) 26)
  have hB4 := hB4''.alloc (.cells (darr d1) 26)
  obtain ⟨D3, hG3', hle3, hbs3, hoff3⟩ := dgBox_bs hG3 hB5 h32.out hlt
  have hB4x := hB4.le (hoff3 _ hB4.off (by have := hB4''.lt; omega))
  obtain ⟨A4, c4, w4, hrun4, D4, hG4, hb4⟩ := run_append_full (P := Tryd.prog) (w2.alloc (.cells (darr d1) 26)) 22 22 5 i0 (.int .u8 0) 1 Tryd.underlying22 hi hz0 hz1 hz2 rfl D3 hG3'.keeps _ 32 _ hbs3 (by omega) A n c _ (hb.le hG3'.le) (by unfold maxLen; omega) (by omega)
  have hb4' : BS D4 (.slice A4 (32 + n) c4) (d1 ++ bs) := by unfold BS; rw [List.map_append]; exact hb4
  have hB4y := hB4x.grow hG4
  have hG5 := hG3'.trans hG4
  clear hB5 hG3 hB4 hle3 hbs3 hoff3 hB4x hG3' hb4 hB4''
  have hsd : (darr []).size = (darr d1).size := by rw [darr_size _ (by simp), darr_size _ (by rw [h32.out]; omega)]
  have hs26 := sz26 d1 h32.out
  go_wp2_with (first | (refine wpList_store_row rfl 26 _ _ rfl w2.heap.size (darr d1) rfl rfl 26 (darr []) (heap_alloc_new w2 _) hs26 hsd (darr_one _) ?_; rw [World.setRow_alloc_new]) | (at_builtin; refine Lib.wpList_append_run _ rfl _ _ 22 22 rfl _ _ rfl rfl _ _ hrun4 ?_))
  refine (sum_s hs _ _ _ (d1 ++ bs) D4 _ hG5.keeps hb4' (by omega) (hT.le hG5.le)).mono ?_
  rintro e w6 ⟨rfl, hb6⟩
  rw [← hTB.out]
  have hB4z := hB4y.below hb6 hB4y.lt
  have hbel6 := belowVia hb6 hG5.below
  have hr32 := Lib.hid (show (tagB sh t bs).length = 32 from hs.len _)
  generalize hr : tagB sh t bs = r at hr32 ⊢
  have HR := Lib.hid hr
  clear hr
  rw [dg_darr r hr32.out]
  have hsr : (darr []).size = (darr r).size := by rw [darr_size _ (by simp), darr_size _ (by rw [hr32.out]; omega)]
  have hsr26 := sz26 r hr32.out
  go_wp2_with (refine wpList_store_row rfl 26 _ _ rfl w.heap.size (darr r) rfl rfl 26 (darr []) hB4z.heap hsr26 hsr (darr_one _) ?_)
  refine bodyPost_ret (results_cell_row rfl _ _ _ _ _ _ _ rfl (hB4z.setRow _).heap Tryd.underlying26 rfl hsr26) rfl ⟨?_, belowRow hbel6 (Nat.le_refl _) _⟩
  rw [HR.out, dg_darr r hr32.out]

set_option maxRecDepth 100000 in
set_option maxHeartbeats 400000 in
theorem leaf_c {sh : List UInt8 → List UInt8} (hs : Sh sh) (d : List UInt8) (hd : d.length = 32) (D : Gh) (w : World) (hk : Keeps D w) (hT : Tab D) :
    Calls Tryd.prog 54 #[dg d] w fun e w' => e = .returned (dg (tagB sh leafT d)) ∧ Below w.heap.size w w' := by
  have HD := Lib.hid hd
  clear hd
  rw [dg_darr d HD.out]
  have hB1 := Box.new2 hk rfl 26 (darr d)
  have hG1 := (Grow.refl hk).alloc (.cells (darr d) 26)
  obtain ⟨D2, hG2, hle2, hbs2, hoff2⟩ := dgBox_bs hG1 hB1 HD.out (Nat.le_refl _)
  have hB2 := Box.new2 hG2.keeps rfl 26 (darr [])
  have hG3 := hG2.alloc (.cells (darr []) 26)
  rw [show (w.alloc (.cells (darr d) 26)).heap.size = w.heap.size + 1 by simp] at hB2
  clear hG1 hB1
  go_enter Tryd.func54, Tryd.ntmps54
  go_wp2_with fail
  refine (tag_c hs leafT (by decide) _ 32 32 d D2 _ hG3.keeps hbs2 (by omega) (hT.le hG2.le)).mono ?_
  rintro e w3 ⟨rfl, hb3⟩
  have hB4z := hB2.below hb3 (by simp)
  have hbel6 := belowVia hb3 hG3.below
  have hr32 := Lib.hid (show (tagB sh leafT d).length = 32 from hs.len _)
  generalize hr : tagB sh leafT d = r at hr32 ⊢
  have HR := Lib.hid hr
  clear hr
  rw [dg_darr r hr32.out]
  have hsr : (darr []).size = (darr r).size := by rw [darr_size _ (by simp), darr_size _ (by rw [hr32.out]; omega)]
  have hsr26 := sz26 r hr32.out
  go_wp2_with (refine wpList_store_row rfl 26 _ _ rfl (w.heap.size + 1) (darr r) rfl rfl 26 (darr []) hB4z.heap hsr26 hsr (darr_one _) ?_)
  refine bodyPost_ret (results_cell_row rfl _ _ _ _ _ _ _ rfl (hB4z.setRow _).heap Tryd.underlying26 rfl hsr26) rfl ⟨?_, belowRow hbel6 (by omega) _⟩
  rw [HR.out, dg_darr r hr32.out]
end Go.Proofs.YtohknemfcohhfaaDoor
