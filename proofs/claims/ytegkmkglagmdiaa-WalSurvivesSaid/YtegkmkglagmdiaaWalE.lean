/-
  What is proved here: encode
-/
import Derived.Test.YtegkmkglagmdiaaRows
import Derived.Test.YtegkmkglagmdiaaBaseB
import Derived.Test.YtegkmkglagmdiaaCrc
import Derived.Test.YtegkmkglagmdiaaWalP
import Derived.Test.YtegkmkglagmdiaaWalA
import Derived.Test.YtegkmkglagmdiaaWalB
import Derived.Test.YtegkmkglagmdiaaWalC
import Derived.Test.YtegkmkglagmdiaaWalD
import Derived.Test.YtegkmkglagmdiaaDiskF
import Derived.Laws.BitsAllLaws
import Derived.Deep.RegionHeld3
import Derived.Deep.RegionLaw
import Derived.Deep.DeepCutAuto
import Derived.Deep.QuietTactic
import Derived.BigQuiet
import Derived.Laws.EntriesVeiled
import Derived.Deep.MidRow
import Derived.Laws.CopyRow
namespace Go.Proofs.Ytegkmkglagmdiaa
open Go.RowKit Go.VS
/-- a variable that is only read: known from now on. -/
theorem pubW {w wr : World} {D D' : Gh} {g : Nat} {t : TypeId} {cs : Array Value} (h : Grow w D wr D') (hB : Box wr D' g t cs) (hb : w.heap.size ≤ g) :
    ∃ D'', Grow w D wr D'' ∧ D'.le D'' ∧ (∀ o u, cs[o]? = some u → D'' g o = some u) ∧ (∀ k, D'.off k → k ≠ g → D''.off k) := by
  refine ⟨D'.add g cs.toList, ⟨h.below, h.keeps.add fun o u e => ?_, h.le.trans (Gh.le_add hB.off _), fun b hb' o => (off_add_lt (by omega) b hb' o).trans (h.old b hb' o)⟩, Gh.le_add hB.off _, fun o u e => by rw [Gh.add_at]; simpa using e, fun k hk hne => Gh.add_off _ hk hne⟩
  rw [hB.cell]; simpa using e
theorem new2W {w : World} {D : Gh} (hk : Keeps D w) {g : Nat} (hg : g = w.heap.size) (t : TypeId) (cs : Array Value) : Box (w.alloc (.cells cs t)) D g t cs := hg ▸ Box.new hk t cs
theorem box_pub {w : World} {D : Gh} (hk : Keeps D w) (t : TypeId) (cs : Array Value) : ∃ D', Grow w D (w.alloc (.cells cs t)) D' ∧ (∀ o u, cs[o]? = some u → D' w.heap.size o = some u) ∧ (∀ k, D.off k → k ≠ w.heap.size → D'.off k) :=
  let ⟨D', h1, _, h3, h4⟩ := pubW ((Grow.refl hk).alloc (.cells cs t)) (Box.new hk t cs) (Nat.le_refl _)
  ⟨D', h1, h3, h4⟩
theorem setRowW {w : World} {D : Gh} {g : Nat} {t : TypeId} {cs : Array Value} (h : Box w D g t cs) (cs' : Array Value) : Box (w.setRow g cs') D g t cs' := ⟨setRow_heap w g cs cs' t _ h.heap, h.off⟩
theorem belowRowW {B g : Nat} {w M : World} (h : Below B w M) (hg : B ≤ g) (cs : Array Value) : Below B w (M.setRow g cs) :=
  ⟨h.os, h.tape, h.output, by simpa [World.setRow] using h.size, fun i hi => (setRow_other M g i cs (by omega)).trans (h.block i hi)⟩
theorem keepsRowW {D : Gh} {w : World} (h : Keeps D w) {g : Nat} (hg : D.off g) (cs : Array Value) : Keeps D (w.setRow g cs) := fun b o v e => by
  have hb : b ≠ g := by rintro rfl; rw [hg o] at e; cases e
  exact (World.cell?_of_block (a := ⟨b, o, none⟩) (setRow_other w g b cs hb)).trans (h b o v e)
/-- bytes as the cells of a variable. -/
def bA (X : List UInt8) : Array Value := (X.map bv).toArray
theorem bA_at (X : List UInt8) (i : Nat) (x : UInt8) (h : X[i]? = some x) : (bA X)[i]? = some (bv x) := by simp [bA, h]
theorem bA_set (X : List UInt8) (i : Nat) (x : UInt8) : (bA X).setIfInBounds i (bv x) = bA (X.set i x) := by simp [bA, List.map_set]
/-- bytes copied over others, from a place on. -/
def over (X : List UInt8) (o : Nat) (Y : List UInt8) : List UInt8 := X.take o ++ Y ++ X.drop (o + Y.length)
theorem over_len (X : List UInt8) (o : Nat) (Y : List UInt8) (h : o + Y.length ≤ X.length) : (over X o Y).length = X.length := by simp [over]; omega
theorem box_copy {w : World} {D : Gh} {g : Nat} {X : List UInt8} (hB : Box w D g 5 (bA X)) (hk : Keeps D w) (o dLen dCap : Nat) (A : Option Addr) (n c : Nat) (Y : List UInt8) (hs : BS D (.slice A n c) Y) (hn : n ≤ dLen) (ho : o + n ≤ X.length) :
    (Builtin.copy_ #[32, 32] 3 #[.slice (some ⟨g, o, none⟩) dLen dCap, .slice A n c]).run Try.prog w = .ok (goInt n) (w.setRow g (bA (over X o Y))) := by
  obtain ⟨hm, _, _, hc⟩ := Sl.cells hk hs
  simp only [List.length_map] at hm
  rcases Nat.eq_zero_or_pos n with h0 | h0
  · subst h0
    obtain rfl : Y = [] := List.eq_nil_of_length_eq_zero hm.symm
    have e : over X o [] = X := by simp [over]
    rw [e, setRow_self w g (bA X) 5 (0, 0) hB.heap]
    exact run_copy_none (P := Try.prog) w 32 32 3 5 _ A dLen dCap 0 c Try.underlying32 size5 (by simp)
  · obtain ⟨b, ob, rfl, hcc⟩ := hc h0
    have hmin : Nat.min n dLen = n := Nat.min_eq_left hn
    have hrun := run_copy_row (P := Try.prog) w 32 32 3 5 g o dLen dCap ⟨b, ob, none⟩ n c (bA X) 5 (Y.map bv) Try.underlying32 size5 hB.heap (by rw [hmin, List.length_map]; exact hm.symm) (fun j v e => by rw [Addr.add_lit]; exact hcc j v e) (by simp [bA]; omega) (bv_one Y)
    rw [hrun]
    congr 2
    · rw [List.length_map, ← hm]
    · congr 1
      simp [bA, over, List.map_take, List.map_drop]
theorem bs_ghost {w : World} {D : Gh} {g : Nat} {X : List UInt8} (hB : Box w D g 5 (bA X)) : ∃ D' : Gh, Keeps D' w ∧ ∀ o m, o + m ≤ X.length → X.length ≤ 1000 → BS D' (.slice (some ⟨g, o, none⟩) m (X.length - o)) ((X.drop o).take m) := by
  refine ⟨fun b o => if b = g then (bA X)[o]? else none, fun b o v h => ?_, fun o m hom hX => ⟨some ⟨g, o, none⟩, X.length - o, by simp; omega, by simp; omega, by unfold maxLen; omega, by simp, fun _ => ⟨g, o, rfl, fun j u e => ?_⟩⟩⟩
  · dsimp only at h
    split at h
    · rename_i hb; subst hb; rw [hB.cell]; exact h
    · cases h
  · dsimp only
    rw [if_pos rfl]
    rw [List.getElem?_map, List.getElem?_take] at e
    split at e
    · rw [List.getElem?_drop] at e
      simpa [bA] using e
    · simp at e
theorem u4_cells (x : Nat) (hx : x < 4294967296) : (u4 x).map bv = [.int .u8 (x / 16777216 : Nat), .int .u8 ((x / 65536 : Nat) % 256 : Nat), .int .u8 ((x / 256 : Nat) % 256 : Nat), .int .u8 (x % 256 : Nat)] := by
  simp only [u4, List.map_cons, List.map_nil, bv, UInt8.toNat_ofNat']
  have h : x / 16777216 % 256 = x / 16777216 := by omega
  simp [h]
theorem u4_cellsI (x : Nat) (hx : x < 4294967296) : (u4 x).map bv = [.int .u8 ((x : Int) / 16777216), .int .u8 ((x : Int) / 65536 % 256), .int .u8 ((x : Int) / 256 % 256), .int .u8 ((x : Int) % 256)] := by
  rw [u4_cells x hx]
  simp
theorem bv_ofNat (m : Nat) : bv (UInt8.ofNat m) = .int .u8 ((m : Int) % 256) := by
  unfold bv
  rw [UInt8.toNat_ofNat']
  congr 1
/-- a sector as far as encode has filled it. -/
def secX (g s h d t : List UInt8) : List UInt8 := g ++ (s ++ (h ++ (d ++ t)))
theorem over_at (P Q Y : List UInt8) (o : Nat) (h : P.length = o) : over (P ++ Q) o Y = P ++ (Y ++ Q.drop Y.length) := by
  subst h
  unfold over
  rw [List.take_left, List.drop_length_add_append, List.append_assoc]
theorem enc_steps (gen k flags n : Nat) (data : List UInt8) (hn : n = data.length) (h : n ≤ 112) :
    ∃ X4, X4 = ((((over (over (List.replicate 128 0) 0 (u4 gen)) 124 (u4 gen)).set 8 (UInt8.ofNat (k / 256))).set 9 (UInt8.ofNat k)).set 10 (UInt8.ofNat flags)).set 11 (UInt8.ofNat n) ∧
      ((over X4 12 data).drop 8).take 116 = bodyS k flags data ∧ over (over X4 12 data) 4 (u4 (crcF (bodyS k flags data))) = encS gen k flags data := by
  refine ⟨_, rfl, ?_⟩
  have e4 : ((((over (over (List.replicate 128 0) 0 (u4 gen)) 124 (u4 gen)).set 8 (UInt8.ofNat (k / 256))).set 9 (UInt8.ofNat k)).set 10 (UInt8.ofNat flags)).set 11 (UInt8.ofNat n) = (u4 gen ++ ([0, 0, 0, 0] ++ [UInt8.ofNat (k / 256), UInt8.ofNat k, UInt8.ofNat flags, UInt8.ofNat n])) ++ (List.replicate 112 0 ++ u4 gen) := by rfl
  rw [e4]
  subst hn
  rw [over_at _ _ data 12 (by simp [u4_len])]
  have e5 : (List.replicate 112 (0 : UInt8) ++ u4 gen).drop data.length = List.replicate (112 - data.length) 0 ++ u4 gen := by
    rw [List.drop_append_of_le_length (by simp; omega), List.drop_replicate]
  rw [e5]
  have e6 : (u4 gen ++ ([0, 0, 0, 0] ++ [UInt8.ofNat (k / 256), UInt8.ofNat k, UInt8.ofNat flags, UInt8.ofNat data.length])) ++ (data ++ (List.replicate (112 - data.length) 0 ++ u4 gen)) = u4 gen ++ ([0, 0, 0, 0] ++ (bodyS k flags data ++ u4 gen)) := by
    simp [bodyS]
  rw [e6]
  have hbl := bodyS_len k flags data h
  constructor
  · rw [← List.append_assoc, show (8 : Nat) = (u4 gen ++ [0, 0, 0, 0]).length by simp [u4_len], List.drop_left, show (116 : Nat) = (bodyS k flags data).length from hbl.symm, List.take_left]
  · rw [over_at _ _ (u4 (crcF (bodyS k flags data))) 4 (u4_len gen)]
    rw [show (u4 (crcF (bodyS k flags data))).length = 4 from rfl]
    rfl
set_option maxRecDepth 100000 in
set_option maxHeartbeats 2000000 in
theorem encode_c (gen : Nat) (hg : gen < 4294967296) (flags : Nat) (hf : flags ≤ 3) (A : Option Addr) (n c : Nat) (data : List UInt8) (hn : n ≤ 112) (k : Nat) (hk65 : k < 65536) (D : Gh) (w : World) (hk : Keeps D w) (hs : BS D (.slice A n c) data) :
    Calls Try.prog 61 #[.agg #[.int .u32 gen, .int .i64 flags, .slice A n c], .int .i64 k] w fun e w' => ∃ A' c' D', e = .returned (.slice A' 128 c') ∧ Grow w D w' D' ∧ BS D' (.slice A' 128 c') (encS gen k flags data) := by
  obtain ⟨hn1, hn2, hn3⟩ := hs.len
  obtain ⟨X4, hX4, hbody, hfin⟩ := enc_steps gen k flags n data hn1 hn
  obtain ⟨Z, hZ⟩ : ∃ Z, Z = List.replicate 128 (0 : UInt8) := ⟨_, rfl⟩
  have HZ := Lib.hid hZ
  have hZl : Z.length = 128 := by rw [hZ]; simp
  rw [← hZ] at hX4
  have HX4 := Lib.hid hX4
  have HBD := Lib.hid hbody
  have HFN := Lib.hid hfin
  have HN := Lib.hid hn1
  clear hX4 hbody hfin hn1
  unfold maxLen at hn3
  obtain ⟨D1, hG1, hv1, hoff1⟩ := box_pub hk 84 #[.int .u32 gen, .int .i64 flags, .slice A n c]
  have kv0 := hv1 0 _ rfl
  have kv1 := hv1 1 _ rfl
  have kv2 := hv1 2 _ rfl
  have hs1 := hs.le hG1.le
  have hB5 := new2W hG1.keeps (g := w.heap.size + 1) (by simp) 5 (bA Z)
  have hG2 := hG1.alloc (.cells (bA Z) 5)
  have q0 := hG2.keeps _ _ _ kv0
  have q1 := hG2.keeps _ _ _ kv1
  have q2 := hG2.keeps _ _ _ kv2
  have hmk : (Instr.makeSlice 32 (.int .i64 128) (.int .i64 128)).run Try.prog (w.alloc (.cells #[.int .u32 gen, .int .i64 flags, .slice A n c] 84)) = .ok (.slice (some ⟨w.heap.size + 1, 0, none⟩) 128 128) ((w.alloc (.cells #[.int .u32 gen, .int .i64 flags, .slice A n c] 84)).alloc (.cells (bA Z) 5)) := by
    have h : (Instr.makeSlice 32 (.int .i64 128) (.int .i64 128)).run Try.prog (w.alloc (.cells #[.int .u32 gen, .int .i64 flags, .slice A n c] 84)) = .ok (.slice (some ⟨(w.alloc (.cells #[.int .u32 gen, .int .i64 flags, .slice A n c] 84)).heap.size, 0, none⟩) 128 128) ((w.alloc (.cells #[.int .u32 gen, .int .i64 flags, .slice A n c] 84)).alloc (.cells (bA Z) 5)) := by
      have hgen : ∀ Z : List UInt8, Z = List.replicate 128 0 → (Instr.makeSlice 32 (.int .i64 128) (.int .i64 128)).run Try.prog (w.alloc (.cells #[.int .u32 gen, .int .i64 flags, .slice A n c] 84)) = .ok (.slice (some ⟨(w.alloc (.cells #[.int .u32 gen, .int .i64 flags, .slice A n c] 84)).heap.size, 0, none⟩) 128 128) ((w.alloc (.cells #[.int .u32 gen, .int .i64 flags, .slice A n c] 84)).alloc (.cells (bA Z) 5)) := fun Z hz => by
        subst hz
        kernel_rfl
      exact hgen Z HZ.out
    rw [h]
    simp
  clear hv1 hoff1 hG1 hk hs hZ
  go_enter Try.func61, Try.ntmps61
  go_wp2_with fail
  refine (four_c gen hg _).mono ?_
  rintro e w2 ⟨rfl, hb2⟩
  have hG3 := hG2.trans (Grow.of_below hG2.keeps hb2)
  have hB5a := hB5.below hb2 hB5.lt
  clear hG2 hB5 hb2 hmk q0 q1 q2
  obtain ⟨D2, hG4, hv4, hoff4⟩ := box_pub hG3.keeps 38 #[.int .u8 ((gen : Int) / 16777216), .int .u8 ((gen : Int) / 65536 % 256), .int .u8 ((gen : Int) / 256 % 256), .int .u8 ((gen : Int) % 256)]
  have hB5b := (hB5a.alloc (.cells #[.int .u8 ((gen : Int) / 16777216), .int .u8 ((gen : Int) / 65536 % 256), .int .u8 ((gen : Int) / 256 % 256), .int .u8 ((gen : Int) % 256)] 38)).le (hoff4 _ hB5a.off (by have := hB5a.lt; omega))
  have hbg : BS D2 (.slice (some ⟨w2.heap.size, 0, none⟩) 4 4) (u4 gen) := by
    refine ⟨some ⟨w2.heap.size, 0, none⟩, 4, rfl, by simp [u4_len], by simp [maxLen], by simp, fun _ => ⟨_, _, rfl, fun j u e => ?_⟩⟩
    rw [u4_cellsI gen hg] at e
    rw [Nat.zero_add]
    exact hv4 j u (by simpa using e)
  have hG5 := hG3.trans hG4
  have hle := hG4.le
  have hc1 := box_copy hB5b hG5.keeps 0 128 128 _ 4 4 (u4 gen) hbg (by omega) (by rw [hZl]; omega)
  have hZ1 : (over Z 0 (u4 gen)).length = 128 := by rw [over_len _ _ _ (by rw [hZl, u4_len]; omega), hZl]
  have hB5c := setRowW hB5b (bA (over Z 0 (u4 gen)))
  have hk5 := keepsRowW hG5.keeps hB5b.off (bA (over Z 0 (u4 gen)))
  have hbel5 := belowRowW hG5.below (show w.heap.size ≤ w.heap.size + 1 by omega) (bA (over Z 0 (u4 gen)))
  replace kv0 := hle _ _ _ kv0
  replace kv1 := hle _ _ _ kv1
  replace kv2 := hle _ _ _ kv2
  have hs2 := hs1.le hle
  have HOLD := Lib.hid (show D.le D2 ∧ ∀ b, b < w.heap.size → ∀ o, D2 b o = D b o from ⟨hG5.le, hG5.old⟩)
  clear hG3 hB5a hv4 hoff4 hG4 hG5 hB5b hle hs1
  generalize over Z 0 (u4 gen) = Z1 at *
  go_wp2_with fail
  generalize (w2.alloc (.cells #[.int .u8 ((gen : Int) / 16777216), .int .u8 ((gen : Int) / 65536 % 256), .int .u8 ((gen : Int) / 256 % 256), .int .u8 ((gen : Int) % 256)] 38)).setRow (w.heap.size + 1) (bA Z1) = Wc at *
  clear hc1
  have hk5d := hk5.drew
  have hB5d := hB5c.drew
  have hbel5d := hbel5.drew
  clear hk5 hB5c hbel5
  refine wp_region_held_drew (S := fun _ => True) (by kernel_rfl) trivial (fun hHeld => ?_)
  generalize Wc.drew = Wd at *
  refine wpAnyH_take (i := 0) (v := ?_) rfl (by kernel_rfl) (by kernel_rfl) (by kernel_rfl) (fun _ _ _ h => h) (Or.inl ⟨by rfl, ?_⟩) hHeld ?_
  rotate_left
  · (intro wz hSw; (try dsimp only at hSw); go_simp; try with_reducible rfl)
  simp only [Act.put, List.getElem_toArray, List.getElem_cons_zero, List.setIfInBounds_toArray, List.set_cons_zero, List.set_cons_succ]
  refine wpAnyH_take (i := 1) (v := ?_) rfl (by kernel_rfl) (by kernel_rfl) (by kernel_rfl) (fun _ _ _ h => h) (Or.inl ⟨by rfl, ?_⟩) hHeld ?_
  rotate_left
  · (intro wz hSw; (try dsimp only at hSw); go_simp; try with_reducible rfl)
  simp only [Act.put, List.getElem_toArray, List.getElem_cons_zero, List.getElem_cons_succ, List.setIfInBounds_toArray, List.set_cons_zero, List.set_cons_succ]
  refine wpAnyH_take (i := 2) (v := ?_) rfl (by kernel_rfl) (by kernel_rfl) (by kernel_rfl) (fun _ _ _ h => h) (Or.inl ⟨by rfl, ?_⟩) hHeld ?_
  rotate_left
  · (intro wz hSw; (try dsimp only at hSw); go_simp; try with_reducible rfl)
  simp only [Act.put, List.getElem_toArray, List.getElem_cons_zero, List.getElem_cons_succ, List.setIfInBounds_toArray, List.set_cons_zero, List.set_cons_succ]
  have hc2 := box_copy hB5d hk5d 124 4 4 _ 4 4 (u4 gen) hbg (by omega) (by rw [hZ1]; omega)
  refine wpAnyH_ready (rs := [3]) (by kernel_rfl) (by simp) (AllReadyH.cons rfl (fun K' hK => ?_) AllReadyH.nil)
  go_simp
  refine hK.out _ _ trivial (fun hHeld => ?_)
  clear hK K' hc2 hHeld
  refine wpAnyH_done (by kernel_rfl) ?_ _
  have hZ2 : (over Z1 124 (u4 gen)).length = 128 := by rw [over_len _ _ _ (by rw [hZ1, u4_len]; omega), hZ1]
  have hB5e := setRowW hB5d (bA (over Z1 124 (u4 gen)))
  have hk5e := keepsRowW hk5d hB5d.off (bA (over Z1 124 (u4 gen)))
  have hbel5e := belowRowW hbel5d (show w.heap.size ≤ w.heap.size + 1 by omega) (bA (over Z1 124 (u4 gen)))
  clear hB5d hk5d hbel5d
  generalize over Z1 124 (u4 gen) = Z2 at *
  generalize Wd.setRow (w.heap.size + 1) (bA Z2) = We at *
  obtain ⟨x8, hx8⟩ : ∃ x, Z2[8]? = some x := ⟨_, List.getElem?_eq_getElem (by omega)⟩
  obtain ⟨x9, hx9⟩ : ∃ x, Z2[9]? = some x := ⟨_, List.getElem?_eq_getElem (by omega)⟩
  have c8 : We.cell? ⟨w.heap.size + 1, 8, none⟩ = some (.int .u8 (x8.toNat : Int)) := (hB5e.cell 8).trans (bA_at Z2 8 x8 hx8)
  have c9 : We.cell? ⟨w.heap.size + 1, 9, none⟩ = some (.int .u8 (x9.toNat : Int)) := (hB5e.cell 9).trans (bA_at Z2 9 x9 hx9)
  have f8 := hB5e.frozen 8
  have f9 := hB5e.frozen 9
  have hB5f := (hB5e.set_ 8 (bv (UInt8.ofNat (k / 256)))).set_ 9 (bv (UInt8.ofNat k))
  rw [bA_set, bA_set] at hB5f
  have hk5f := (hk5e.setCell (p := ⟨w.heap.size + 1, 8, none⟩) hB5e.off (bv (UInt8.ofNat (k / 256)))).setCell (p := ⟨w.heap.size + 1, 9, none⟩) hB5e.off (bv (UInt8.ofNat k))
  have hbel5f : Below w.heap.size w ((We.setCell ⟨w.heap.size + 1, 8, none⟩ (bv (UInt8.ofNat (k / 256)))).setCell ⟨w.heap.size + 1, 9, none⟩ (bv (UInt8.ofNat k))) := (hbel5e.setCell (p := ⟨w.heap.size + 1, 8, none⟩) (by show w.heap.size ≤ w.heap.size + 1; omega) _).setCell (p := ⟨w.heap.size + 1, 9, none⟩) (by show w.heap.size ≤ w.heap.size + 1; omega) _
  rw [bv_ofNat, bv_ofNat] at hB5f hk5f hbel5f
  have ek : ((k / 256 : Nat) : Int) % 256 = (k : Int) / 256 := by omega
  rw [ek] at hB5f hk5f hbel5f
  have hZ3 : ((Z2.set 8 (UInt8.ofNat (k / 256))).set 9 (UInt8.ofNat k)).length = 128 := by simp [hZ2]
  clear hx8 hx9 ek hB5e hk5e hbel5e
  go_wp2_with fail
  generalize (We.setCell ⟨w.heap.size + 1, 8, none⟩ (.int .u8 ((k : Int) / 256))).setCell ⟨w.heap.size + 1, 9, none⟩ (.int .u8 ((k : Int) % 256)) = Wf at *
  generalize (Z2.set 8 (UInt8.ofNat (k / 256))).set 9 (UInt8.ofNat k) = Z3 at *
  clear c8 c9 f8 f9 hZ2
  have hkd := hk5f.drew
  have hBd := hB5f.drew
  have hbeld := hbel5f.drew
  clear hk5f hB5f hbel5f
  have SH : Hid (∀ W, Keeps D2 W → (W.cell? ⟨w.heap.size, 1, none⟩ = some (.int .i64 flags) ∧ W.cell? ⟨w.heap.size, 2, none⟩ = some (.slice A n c))) := fun W h => ⟨h _ _ _ kv1, h _ _ _ kv2⟩
  refine wp_region_held_drew (S := fun W => W.cell? ⟨w.heap.size, 1, none⟩ = some (.int .i64 flags) ∧ W.cell? ⟨w.heap.size, 2, none⟩ = some (.slice A n c)) (by kernel_rfl) (SH.out _ hkd) (fun hHeld => ?_)
  generalize Wf.drew = Wg at *
  have hfl : (flags : Int) % 256 = flags := by omega
  have hnl : (n : Int) % 256 = n := by omega
  have hwf : IntKind.u8.wrap (flags : Int) = flags := by rw [IntKind.wrap_u8]; exact hfl
  have hwn : IntKind.u8.wrap (n : Int) = n := by rw [IntKind.wrap_u8]; exact hnl
  obtain ⟨x10, hx10⟩ : ∃ x, Z3[10]? = some x := ⟨_, List.getElem?_eq_getElem (by omega)⟩
  obtain ⟨x11, hx11⟩ : ∃ x, Z3[11]? = some x := ⟨_, List.getElem?_eq_getElem (by omega)⟩
  have c10 : Wg.cell? ⟨w.heap.size + 1, 10, none⟩ = some (.int .u8 (x10.toNat : Int)) := (hBd.cell 10).trans (bA_at Z3 10 x10 hx10)
  have f10 := hBd.frozen 10
  have hB10 := hBd.set_ 10 (bv (UInt8.ofNat flags))
  rw [bA_set] at hB10
  have hk10 := hkd.setCell (p := ⟨w.heap.size + 1, 10, none⟩) hBd.off (bv (UInt8.ofNat flags))
  have hbel10 : Below w.heap.size w (Wg.setCell ⟨w.heap.size + 1, 10, none⟩ (bv (UInt8.ofNat flags))) := hbeld.setCell (p := ⟨w.heap.size + 1, 10, none⟩) (by show w.heap.size ≤ w.heap.size + 1; omega) _
  rw [bv_ofNat, hfl] at hB10 hk10 hbel10
  have c11 : (Wg.setCell ⟨w.heap.size + 1, 10, none⟩ (.int .u8 flags)).cell? ⟨w.heap.size + 1, 11, none⟩ = some (.int .u8 (x11.toNat : Int)) := (hB10.cell 11).trans (bA_at _ 11 x11 (by rw [List.getElem?_set_ne (by omega)]; exact hx11))
  have f11 := hB10.frozen 11
  have hB11 := hB10.set_ 11 (bv (UInt8.ofNat n))
  rw [bA_set] at hB11
  have hk11 := hk10.setCell (p := ⟨w.heap.size + 1, 11, none⟩) hB10.off (bv (UInt8.ofNat n))
  have hbel11 : Below w.heap.size w ((Wg.setCell ⟨w.heap.size + 1, 10, none⟩ (.int .u8 flags)).setCell ⟨w.heap.size + 1, 11, none⟩ (bv (UInt8.ofNat n))) := hbel10.setCell (p := ⟨w.heap.size + 1, 11, none⟩) (by show w.heap.size ≤ w.heap.size + 1; omega) _
  rw [bv_ofNat, hnl] at hB11 hk11 hbel11
  have hZ4 : ((Z3.set 10 (UInt8.ofNat flags)).set 11 (UInt8.ofNat n)).length = 128 := by simp [hZ3]
  clear hx10 hx11
  refine wpAnyH_take (i := 0) (v := ?_) rfl (by kernel_rfl) (by kernel_rfl) (by kernel_rfl) (fun _ _ _ h => h) (Or.inl ⟨by rfl, ?_⟩) hHeld ?_
  rotate_left
  · (intro wz hSw; (try dsimp only at hSw); go_simp; try with_reducible rfl)
  simp only [Act.put, List.getElem_toArray, List.getElem_cons_zero, List.setIfInBounds_toArray, List.set_cons_zero, List.set_cons_succ]
  refine wpAnyH_take (i := 1) (v := ?_) rfl (by kernel_rfl) (by kernel_rfl) (by kernel_rfl) (fun _ _ _ h => h) (Or.inl ⟨by rfl, ?_⟩) hHeld ?_
  rotate_left
  · (intro wz hSw; (try dsimp only at hSw); go_simp; try with_reducible rfl)
  simp only [Act.put, List.getElem_toArray, List.getElem_cons_zero, List.getElem_cons_succ, List.setIfInBounds_toArray, List.set_cons_zero, List.set_cons_succ]
  refine wpAnyH_take (i := 2) (v := ?_) rfl (by kernel_rfl) (by kernel_rfl) (by kernel_rfl) (fun _ _ _ h => h) (Or.inl ⟨by rfl, ?_⟩) hHeld ?_
  rotate_left
  · (intro wz hSw; (try dsimp only at hSw); go_simp; try with_reducible rfl)
  simp only [Act.put, List.getElem_toArray, List.getElem_cons_zero, List.getElem_cons_succ, List.setIfInBounds_toArray, List.set_cons_zero, List.set_cons_succ]
  refine wpAnyH_take (i := 3) (v := ?_) rfl (by kernel_rfl) (by kernel_rfl) (by kernel_rfl) (fun _ _ _ h => h) (Or.inl ⟨by rfl, ?_⟩) hHeld ?_
  rotate_left
  · (intro wz hSw; (try dsimp only at hSw); go_simp; try with_reducible rfl)
  simp only [Act.put, List.getElem_toArray, List.getElem_cons_zero, List.getElem_cons_succ, List.setIfInBounds_toArray, List.set_cons_zero, List.set_cons_succ]
  refine wpAnyH_take (i := 4) (v := ?_) rfl (by kernel_rfl) (by kernel_rfl) (by kernel_rfl) (fun _ _ _ h => h) (Or.inl ⟨by rfl, ?_⟩) hHeld ?_
  rotate_left
  · (intro wz hSw; (try dsimp only at hSw); go_simp; try with_reducible rfl)
  simp only [Act.put, List.getElem_toArray, List.getElem_cons_zero, List.getElem_cons_succ, List.setIfInBounds_toArray, List.set_cons_zero, List.set_cons_succ]
  refine wpAnyH_take (i := 5) (v := ?_) rfl (by kernel_rfl) (by kernel_rfl) (by kernel_rfl) (fun _ _ _ h => h) (Or.inl ⟨by rfl, ?_⟩) hHeld ?_
  rotate_left
  · (intro wz hSw; (try dsimp only at hSw); go_simp; try with_reducible rfl)
  simp only [Act.put, List.getElem_toArray, List.getElem_cons_zero, List.getElem_cons_succ, List.setIfInBounds_toArray, List.set_cons_zero, List.set_cons_succ]
  refine wpAnyH_take (i := 6) (v := ?_) rfl (by kernel_rfl) (by kernel_rfl) (by kernel_rfl) (fun _ _ _ h => h) (Or.inl ⟨by rfl, ?_⟩) hHeld ?_
  rotate_left
  · (intro wz hSw; (try dsimp only at hSw); go_simp; try with_reducible rfl)
  simp only [Act.put, List.getElem_toArray, List.getElem_cons_zero, List.getElem_cons_succ, List.setIfInBounds_toArray, List.set_cons_zero, List.set_cons_succ]
  refine wpAnyH_take (i := 7) (v := ?_) rfl (by kernel_rfl) (by kernel_rfl) (by kernel_rfl) (fun _ _ _ h => h) (Or.inl ⟨by rfl, ?_⟩) hHeld ?_
  rotate_left
  · (intro wz hSw; (try dsimp only at hSw); go_simp; try with_reducible rfl)
  simp only [Act.put, List.getElem_toArray, List.getElem_cons_zero, List.getElem_cons_succ, List.setIfInBounds_toArray, List.set_cons_zero, List.set_cons_succ]
  refine wpAnyH_take (i := 8) (v := ?_) rfl (by kernel_rfl) (by kernel_rfl) (by kernel_rfl) (fun _ _ _ h => h) (Or.inl ⟨by rfl, ?_⟩) hHeld ?_
  rotate_left
  · (intro wz hSw; (try dsimp only at hSw); go_simp; try with_reducible rfl)
  simp only [Act.put, List.getElem_toArray, List.getElem_cons_zero, List.getElem_cons_succ, List.setIfInBounds_toArray, List.set_cons_zero, List.set_cons_succ]
  refine wpAnyH_take (i := 9) (v := ?_) rfl (by kernel_rfl) (by kernel_rfl) (by kernel_rfl) (fun _ _ _ h => h) (Or.inl ⟨by rfl, ?_⟩) hHeld ?_
  rotate_left
  · (intro wz hSw; (try dsimp only at hSw); go_simp; try with_reducible rfl)
  simp only [Act.put, List.getElem_toArray, List.getElem_cons_zero, List.getElem_cons_succ, List.setIfInBounds_toArray, List.set_cons_zero, List.set_cons_succ]
  refine wpAnyH_ready (rs := [10]) (by kernel_rfl) (by simp) (AllReadyH.cons rfl (fun K' hK => ?_) AllReadyH.nil)
  go_simp
  refine hK.out _ _ (SH.out _ hk10) (fun hHeld => ?_)
  clear hK K' c10 f10
  refine wpAnyH_take (i := 11) (v := ?_) rfl (by kernel_rfl) (by kernel_rfl) (by kernel_rfl) (fun _ _ _ h => h) (Or.inl ⟨by rfl, ?_⟩) hHeld ?_
  rotate_left
  · (intro wz hSw; (try dsimp only at hSw); go_simp; try with_reducible rfl)
  simp only [Act.put, List.getElem_toArray, List.getElem_cons_zero, List.getElem_cons_succ, List.setIfInBounds_toArray, List.set_cons_zero, List.set_cons_succ]
  refine wpAnyH_ready (rs := [12]) (by kernel_rfl) (by simp) (AllReadyH.cons rfl (fun K' hK => ?_) AllReadyH.nil)
  go_simp
  refine hK.out _ _ (SH.out _ hk11) (fun hHeld => ?_)
  clear hK K' c11 f11
  refine wpAnyH_done (by kernel_rfl) ?_ _
  have hX := HX4.out
  rw [← hX] at hB11 hZ4
  have HXX := Lib.hid hX
  clear hX HX4 hB10 hk10 hbel10 hBd hkd hbeld hZ3
  generalize (Wg.setCell ⟨w.heap.size + 1, 10, none⟩ (.int .u8 flags)).setCell ⟨w.heap.size + 1, 11, none⟩ (.int .u8 n) = Wh at *
  go_wp2_with fail
  have hkd := hk11.drew
  have hBd := hB11.drew
  have hbeld := hbel11.drew
  clear hk11 hB11 hbel11
  have SH2 : Hid (∀ W, Keeps D2 W → W.cell? ⟨w.heap.size, 2, none⟩ = some (.slice A n c)) := fun W h => h _ _ _ kv2
  refine wp_region_held_drew (S := fun W => W.cell? ⟨w.heap.size, 2, none⟩ = some (.slice A n c)) (by kernel_rfl) (SH2.out _ hkd) (fun hHeld => ?_)
  generalize Wh.drew = Wi at *
  have hc3 := box_copy hBd hkd 12 116 116 _ n c data hs2 (by omega) (by omega)
  have hZ5 : (over X4 12 data).length = 128 := by rw [over_len _ _ _ (by rw [hZ4, ← HN.out]; omega), hZ4]
  have hB5 := setRowW hBd (bA (over X4 12 data))
  have hk5 := keepsRowW hkd hBd.off (bA (over X4 12 data))
  have hbel5 := belowRowW hbeld (show w.heap.size ≤ w.heap.size + 1 by omega) (bA (over X4 12 data))
  refine wpAnyH_take (i := 0) (v := ?_) rfl (by kernel_rfl) (by kernel_rfl) (by kernel_rfl) (fun _ _ _ h => h) (Or.inl ⟨by rfl, ?_⟩) hHeld ?_
  rotate_left
  · (intro wz hSw; (try dsimp only at hSw); go_simp; try with_reducible rfl)
  simp only [Act.put, List.getElem_toArray, List.getElem_cons_zero, List.setIfInBounds_toArray, List.set_cons_zero, List.set_cons_succ]
  refine wpAnyH_take (i := 1) (v := ?_) rfl (by kernel_rfl) (by kernel_rfl) (by kernel_rfl) (fun _ _ _ h => h) (Or.inl ⟨by rfl, ?_⟩) hHeld ?_
  rotate_left
  · (intro wz hSw; (try dsimp only at hSw); go_simp; try with_reducible rfl)
  simp only [Act.put, List.getElem_toArray, List.getElem_cons_zero, List.getElem_cons_succ, List.setIfInBounds_toArray, List.set_cons_zero, List.set_cons_succ]
  refine wpAnyH_take (i := 2) (v := ?_) rfl (by kernel_rfl) (by kernel_rfl) (by kernel_rfl) (fun _ _ _ h => h) (Or.inl ⟨by rfl, ?_⟩) hHeld ?_
  rotate_left
  · (intro wz hSw; (try dsimp only at hSw); go_simp; try with_reducible rfl)
  simp only [Act.put, List.getElem_toArray, List.getElem_cons_zero, List.getElem_cons_succ, List.setIfInBounds_toArray, List.set_cons_zero, List.set_cons_succ]
  refine wpAnyH_take (i := 3) (v := ?_) rfl (by kernel_rfl) (by kernel_rfl) (by kernel_rfl) (fun _ _ _ h => h) (Or.inl ⟨by rfl, ?_⟩) hHeld ?_
  rotate_left
  · (intro wz hSw; (try dsimp only at hSw); go_simp; try with_reducible rfl)
  simp only [Act.put, List.getElem_toArray, List.getElem_cons_zero, List.getElem_cons_succ, List.setIfInBounds_toArray, List.set_cons_zero, List.set_cons_succ]
  refine wpAnyH_ready (rs := [4]) (by kernel_rfl) (by simp) (AllReadyH.cons rfl (fun K' hK => ?_) AllReadyH.nil)
  go_simp
  refine hK.out _ _ (SH2.out _ hk5) (fun hHeld => ?_)
  clear hK K' hc3 hHeld SH SH2
  refine wpAnyH_done (by kernel_rfl) ?_ _
  clear hBd hkd hbeld HXX hZ4
  generalize over X4 12 data = X5 at *
  generalize Wi.setRow (w.heap.size + 1) (bA X5) = Wj at *
  obtain ⟨D9, hk9, hbs9⟩ := bs_ghost hB5
  have hbs := hbs9 8 116 (by omega) (by omega)
  rw [hZ5] at hbs
  have hbs' : BS D9 (.slice (some ⟨w.heap.size + 1, 8, none⟩) 116 120) ((X5.drop 8).take 116) := hbs
  rw [HBD.out] at hbs'
  have HSC := Lib.hid (sum_c _ 116 120 (bodyS k flags data) D9 Wj hk9 hbs')
  have hcl := crcF_lt (bodyS k flags data)
  generalize crcF (bodyS k flags data) = cr at *
  clear hbs hbs9 hk9 hbs'
  go_wp2_with fail
  refine HSC.out.mono ?_
  rintro e w3 ⟨rfl, hw3⟩
  subst hw3
  clear HSC
  go_wp2_with fail
  refine (four_c cr hcl _).mono ?_
  rintro e w4 ⟨rfl, hb4⟩
  have hk6 := hk5.below hb4 (Nat.le_refl _)
  have hbel6 := belowVia hb4 hbel5
  have hB6 := hB5.below hb4 hB5.lt
  clear hk5 hbel5 hB5 hb4
  obtain ⟨D3, hG7, hv7, hoff7⟩ := box_pub hk6 38 #[.int .u8 ((cr : Int) / 16777216), .int .u8 ((cr : Int) / 65536 % 256), .int .u8 ((cr : Int) / 256 % 256), .int .u8 ((cr : Int) % 256)]
  have hB7 := (hB6.alloc (.cells #[.int .u8 ((cr : Int) / 16777216), .int .u8 ((cr : Int) / 65536 % 256), .int .u8 ((cr : Int) / 256 % 256), .int .u8 ((cr : Int) % 256)] 38)).le (hoff7 _ hB6.off (by have := hB6.lt; omega))
  have hbc : BS D3 (.slice (some ⟨w4.heap.size, 0, none⟩) 4 4) (u4 cr) := by
    refine ⟨some ⟨w4.heap.size, 0, none⟩, 4, rfl, by simp [u4_len], by simp [maxLen], by simp, fun _ => ⟨_, _, rfl, fun j u e => ?_⟩⟩
    rw [u4_cellsI cr hcl] at e
    rw [Nat.zero_add]
    exact hv7 j u (by simpa using e)
  have hbel7 : Below w.heap.size w (w4.alloc (.cells #[.int .u8 ((cr : Int) / 16777216), .int .u8 ((cr : Int) / 65536 % 256), .int .u8 ((cr : Int) / 256 % 256), .int .u8 ((cr : Int) % 256)] 38)) := belowAlloc hbel6 _
  have hold7 := hG7.old
  have hle7 := hG7.le
  have hk7 := hG7.keeps
  have HSZ := Lib.hid (show w.heap.size ≤ w4.heap.size from hbel6.size)
  clear hv7 hoff7 hG7 hB6 hk6 hbel6
  go_wp2_with fail
  generalize hW : w4.alloc (.cells #[.int .u8 ((cr : Int) / 16777216), .int .u8 ((cr : Int) / 65536 % 256), .int .u8 ((cr : Int) / 256 % 256), .int .u8 ((cr : Int) % 256)] 38) = Wk at *
  clear hW
  have hkd := hk7.drew
  have hBd := hB7.drew
  have hbeld := hbel7.drew
  clear hk7 hB7 hbel7
  refine wp_region_held_drew (S := fun _ => True) (by kernel_rfl) trivial (fun hHeld => ?_)
  generalize Wk.drew = Wl at *
  have hc4 := box_copy hBd hkd 4 124 124 _ 4 4 (u4 cr) hbc (by omega) (by omega)
  have hZ6 : (over X5 4 (u4 cr)).length = 128 := by rw [over_len _ _ _ (by rw [hZ5, u4_len]; omega), hZ5]
  have hB8 := setRowW hBd (bA (over X5 4 (u4 cr)))
  have hk8 := keepsRowW hkd hBd.off (bA (over X5 4 (u4 cr)))
  have hbel8 := belowRowW hbeld (show w.heap.size ≤ w.heap.size + 1 by omega) (bA (over X5 4 (u4 cr)))
  refine wpAnyH_take (i := 0) (v := ?_) rfl (by kernel_rfl) (by kernel_rfl) (by kernel_rfl) (fun _ _ _ h => h) (Or.inl ⟨by rfl, ?_⟩) hHeld ?_
  rotate_left
  · (intro wz hSw; (try dsimp only at hSw); go_simp; try with_reducible rfl)
  simp only [Act.put, List.getElem_toArray, List.getElem_cons_zero, List.setIfInBounds_toArray, List.set_cons_zero, List.set_cons_succ]
  refine wpAnyH_take (i := 1) (v := ?_) rfl (by kernel_rfl) (by kernel_rfl) (by kernel_rfl) (fun _ _ _ h => h) (Or.inl ⟨by rfl, ?_⟩) hHeld ?_
  rotate_left
  · (intro wz hSw; (try dsimp only at hSw); go_simp; try with_reducible rfl)
  simp only [Act.put, List.getElem_toArray, List.getElem_cons_zero, List.getElem_cons_succ, List.setIfInBounds_toArray, List.set_cons_zero, List.set_cons_succ]
  refine wpAnyH_take (i := 2) (v := ?_) rfl (by kernel_rfl) (by kernel_rfl) (by kernel_rfl) (fun _ _ _ h => h) (Or.inl ⟨by rfl, ?_⟩) hHeld ?_
  rotate_left
  · (intro wz hSw; (try dsimp only at hSw); go_simp; try with_reducible rfl)
  simp only [Act.put, List.getElem_toArray, List.getElem_cons_zero, List.getElem_cons_succ, List.setIfInBounds_toArray, List.set_cons_zero, List.set_cons_succ]
  refine wpAnyH_ready (rs := [3]) (by kernel_rfl) (by simp) (AllReadyH.cons rfl (fun K' hK => ?_) AllReadyH.nil)
  go_simp
  refine hK.out _ _ trivial (fun hHeld => ?_)
  clear hK K' hc4 hHeld
  refine wpAnyH_done (by kernel_rfl) ?_ _
  clear hBd hkd hbeld
  rw [HFN.out] at hB8 hk8 hbel8 hZ6 ⊢
  generalize Wl.setRow (w.heap.size + 1) (bA (encS gen k flags data)) = Wm at *
  obtain ⟨hold1, hold2⟩ := HOLD.out
  have hG8 : Grow w D Wm D3 := ⟨hbel8, hk8, hold1.trans hle7, fun b hb o => (hold7 b (Nat.lt_of_lt_of_le hb HSZ.out) o).trans (hold2 b hb o)⟩
  obtain ⟨D4, hG9, hle9, hcl9, _⟩ := pubW hG8 hB8 (by omega)
  have hfinal : BS D4 (.slice (some ⟨w.heap.size + 1, 0, none⟩) 128 128) (encS gen k flags data) := by
    refine ⟨some ⟨w.heap.size + 1, 0, none⟩, 128, by simp [hZ6], by simp [hZ6], by simp [maxLen], by simp, fun _ => ⟨_, _, rfl, fun j u e => ?_⟩⟩
    rw [Nat.zero_add]
    exact hcl9 j u (by simpa [bA] using e)
  clear hB8 hk8 hbel8 hG8 hle9 hcl9 hold1 hold2
  go_wp2_with fail
  go_ret
  exact ⟨_, _, D4, rfl, hG9, hfinal⟩
end Go.Proofs.Ytegkmkglagmdiaa
