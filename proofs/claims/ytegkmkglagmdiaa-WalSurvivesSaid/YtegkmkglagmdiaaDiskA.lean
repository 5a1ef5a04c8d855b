/-
  What is proved here: contracts of small functions that the disk's functions call: a sector of equal bytes, slices.Clone, slices.IndexFunc and slices.ContainsFunc with the closure of disk.Check.
-/
import Derived.Test.YtegkmkglagmdiaaRows
import Derived.Test.YtegkmkglagmdiaaBase
import Derived.Deep.RegionHeld3
import Derived.Deep.DeepCutAuto
import Derived.Deep.QuietTactic
import Derived.BigQuiet
import Derived.Laws.EntriesVeiled
namespace Go.Proofs.Ytegkmkglagmdiaa
open Go.RowKit Go.VS

/-- the cells of a sector of which k bytes are c already. -/
def wholeCells (k : Nat) (c : Int) : Array Value := (List.replicate k (Value.int .u8 c) ++ List.replicate (128 - k) (Value.int .u8 0)).toArray

theorem mk128 (w : World) : (Instr.makeSlice 32 (.int .i64 128) (.int .i64 128)).run Try.prog w = .ok (.slice (some ⟨w.heap.size, 0, none⟩) 128 128) (w.alloc (.cells (wholeCells 0 0) 5)) := by kernel_rfl
theorem wholeCells_zero (c : Int) : wholeCells 0 c = wholeCells 0 0 := by simp [wholeCells]
theorem wholeCells_size (k : Nat) (c : Int) (h : k ≤ 128) : (wholeCells k c).size = 128 := by simp [wholeCells]; omega
theorem wholeCells_get (k : Nat) (c : Int) (h : k < 128) : (wholeCells k c)[k]? = some (.int .u8 0) := by
  simp only [wholeCells, List.getElem?_toArray]
  rw [List.getElem?_append_right (by simp), List.length_replicate, Nat.sub_self, List.getElem?_replicate, if_pos (by omega)]
theorem wholeCells_set (k : Nat) (c : Int) (h : k < 128) : (wholeCells k c).setIfInBounds k (.int .u8 c) = wholeCells (k + 1) c := by
  unfold wholeCells
  rw [List.setIfInBounds_toArray]
  congr 1
  rw [List.set_append_right _ _ (by simp), List.length_replicate, Nat.sub_self]
  have : 128 - k = (128 - (k + 1)) + 1 := by omega
  rw [this, List.replicate_succ, List.set_cons_zero, List.replicate_succ' (n := k), List.append_assoc]
  rfl

set_option maxRecDepth 100000 in
set_option maxHeartbeats 400000 in
theorem whole_x (c : Int) (w : World) :
    Calls Try.prog 20 #[.int .u8 c] w fun e w' => e = .returned (.slice (some ⟨w.heap.size, 0, none⟩) 128 128) ∧ w' = w.alloc (.cells (wholeCells 128 c) 5) := by
  have hm := mk128
  have h0 := Lib.hid (wholeCells_zero c)
  go_enter Try.func20, Try.ntmps20
  go_wp2
  go_loopw [4, 8] (fun _ i wr => ∃ k : Nat, k ≤ 128 ∧ i = .int .i64 k ∧ wr = w.alloc (.cells (wholeCells k c) 5)) (fun _ i _ => 128 - (intOf i).toNat)
  case atStart => exact ⟨0, by omega, rfl, by rw [h0.out]⟩
  case round =>
    obtain ⟨k, hk, rfl, rfl⟩ := hrel
    by_cases hlt : k < 128
    · have hc := wholeCells_get k c hlt
      have hs := Lib.hid (wholeCells_set k c hlt)
      go_wp2
      go_roundw
      case rel => exact ⟨k + 1, by omega, by go_num, by rw [hs.out]⟩
      case measure => simp [intOf]; omega
    · obtain rfl : k = 128 := by omega
      go_wp2
      go_ret
      exact ⟨rfl, rfl⟩

theorem whole_c (c : UInt8) (D : Gh) (w : World) (hk : Keeps D w) : Calls Try.prog 20 #[.int .u8 c.toNat] w fun e w' => ∃ a D', e = .returned (.slice a 128 128) ∧ Grow w D w' D' ∧ BS D' (.slice a 128 128) (List.replicate 128 c) := by
  refine (whole_x _ w).mono ?_
  rintro e w' ⟨rfl, rfl⟩
  obtain ⟨D', hg, hb⟩ := BS.new (w' := w.alloc (.cells (wholeCells 128 c.toNat) 5)) hk (List.replicate 128 c) 5 (by simp [maxLen]) (by rw [heap_alloc_new]; simp [wholeCells, bv]) ((Below.refl _ _).alloc (Nat.le_refl _) _)
  exact ⟨_, D', rfl, hg, by simpa using hb⟩
theorem info5 : (Try.prog.info? 5).map (fun i => (i.zero, i.size, i.bytes)) = some (some (.int .u8 0), 1, 1) := by kernel_rfl
theorem info32 : (Try.prog.info? 32).map (fun i => (i.zero, i.size, i.bytes)) = some (some (.slice none 0 0), 1, 24) := by kernel_rfl

set_option maxHeartbeats 400000 in
theorem clone32 (A : Option Addr) (n c : Nat) (vs : List Value) (D : Gh) (w : World) (hk : Keeps D w) (hs : Sl D (.slice A n c) vs) (h1 : ∀ u ∈ vs, u.oneCell' = true) (hn : n ≤ 140737488355328) :
    Calls Try.prog 48 #[.slice A n c] w fun e w' => ∃ A' c', e = .returned (.slice A' n c') ∧ Below w.heap.size w w' ∧ w'.ownsRow w.heap.size 5 1 (.slice A' n c') n vs := by
  obtain ⟨i0, hi, hz0, hz1, hz2⟩ := info_parts info5
  have hnil := fun w a n c => Lib.run_eql_slice_nil (P := Try.prog) w 32 5 a n c 0 0 Try.underlying32
  obtain ⟨hm, hnc, hcm, hc⟩ := hs.cells hk
  rcases A with _ | ad
  · have h0 : n = 0 := by
      rcases Nat.eq_zero_or_pos n with h0 | h0
      · exact h0
      · obtain ⟨b, o, h, _⟩ := hc h0; cases h
    subst h0
    obtain rfl : vs = [] := List.eq_nil_of_length_eq_zero hm.symm
    clear hm hnc hcm hc
    go_enter Try.func48, Try.ntmps48
    go_wp2
    go_ret
    exact ⟨none, 0, rfl, Below.refl _ _, World.ownsRow_nil _ _ _ _⟩
  · clear hm hnc hcm hc
    go_enter Try.func48, Try.ntmps48
    go_wp2_with (at_builtin; refine wpList_append_sl _ rfl _ _ 32 rfl w.heap.size 5 i0 (.int .u8 0) 1 Try.underlying32 hi hz0 hz1 hz2 rfl _ 0 [] rfl (own_empty (Nat.le_refl _) (heap_alloc_new _ _)) D (hk.alloc _) _ _ _ vs rfl hs h1 ?c1 ?c2 ?c3 ?_)
    case c1 => unfold maxLen; omega
    case c2 => omega
    case c3 => simp
    intro A' c' w1 hown hgr hob
    go_wp2
    go_ret
    refine ⟨A', c', rfl, ?_, hown⟩
    exact ((Below.refl _ _).alloc (Nat.le_refl _) _).grown hgr (by simp) (by simp [Value.ownBlock])
set_option maxHeartbeats 400000 in
theorem clone24 (A : Option Addr) (n c : Nat) (vs : List Value) (D : Gh) (w : World) (hk : Keeps D w) (hs : Sl D (.slice A n c) vs) (h1 : ∀ u ∈ vs, u.oneCell' = true) (hn : n ≤ 4096) :
    Calls Try.prog 62 #[.slice A n c] w fun e w' => ∃ A' c', e = .returned (.slice A' n c') ∧ Below w.heap.size w w' ∧ w'.ownsRow w.heap.size 32 1 (.slice A' n c') n vs := by
  obtain ⟨i0, hi, hz0, hz1, hz2⟩ := info_parts info32
  have hnil := fun w a n c => Lib.run_eql_slice_nil (P := Try.prog) w 24 32 a n c 0 0 Try.underlying24
  obtain ⟨hm, hnc, hcm, hc⟩ := hs.cells hk
  rcases A with _ | ad
  · have h0 : n = 0 := by
      rcases Nat.eq_zero_or_pos n with h0 | h0
      · exact h0
      · obtain ⟨b, o, h, _⟩ := hc h0; cases h
    subst h0
    obtain rfl : vs = [] := List.eq_nil_of_length_eq_zero hm.symm
    clear hm hnc hcm hc
    go_enter Try.func62, Try.ntmps62
    go_wp2
    go_ret
    exact ⟨none, 0, rfl, Below.refl _ _, World.ownsRow_nil _ _ _ _⟩
  · clear hm hnc hcm hc
    go_enter Try.func62, Try.ntmps62
    go_wp2_with (at_builtin; refine wpList_append_sl _ rfl _ _ 24 rfl w.heap.size 32 i0 (.slice none 0 0) 24 Try.underlying24 hi hz0 hz1 hz2 rfl _ 0 [] rfl (own_empty (Nat.le_refl _) (heap_alloc_new _ _)) D (hk.alloc _) _ _ _ vs rfl hs h1 ?c1 ?c2 ?c3 ?_)
    case c1 => unfold maxLen; omega
    case c2 => omega
    case c3 => simp
    intro A' c' w1 hown hgr hob
    go_wp2
    go_ret
    refine ⟨A', c', rfl, ?_, hown⟩
    exact ((Below.refl _ _).alloc (Nat.le_refl _) _).grown hgr (by simp) (by simp [Value.ownBlock])
set_option maxHeartbeats 400000 in
theorem idx_c (A : Option Addr) (n c g : Nat) (xs : List (List UInt8)) (D : Gh) (w : World) (hk : Keeps D w) (hs : SS D (.slice A n c) xs)
    (hg : w.cell? ⟨g, 0, none⟩ = some (.func (.func 49) #[] #[])) (good : Bool) (hgood : good = true ↔ ∀ x ∈ xs, x.length = 128) :
    Calls Try.prog 63 #[.slice A n c, .func (.func 52) #[] #[.pointer (some ⟨g, 0, none⟩)]] w fun e w' => ∃ r : Int, e = .returned (.int .i64 r) ∧ (decide (0 ≤ r) = !good) ∧ w = w' := by
  obtain ⟨hn, hnc, hcm⟩ := hs.len
  unfold maxLen at hcm
  have HN := Lib.hid hn
  clear hn
  have HG := Lib.hid hgood
  clear hgood
  go_enter Try.func63, Try.ntmps63
  go_wp2
  go_loop [5, 8] (fun _ i => ∃ k : Nat, k ≤ n ∧ i = .int .i64 k ∧ ∀ j x, j < k → xs[j]? = some x → x.length = 128) (fun _ i => n - (intOf i).toNat)
  case atStart => exact ⟨0, Nat.zero_le _, rfl, fun j x h => by omega⟩
  case round =>
    obtain ⟨k, hk', rfl, hall⟩ := hrel
    have HA := Lib.hid hall
    clear hall
    by_cases hlt : k < n
    · have hkx : k < xs.length := by rw [← HN.out]; exact hlt
      obtain ⟨b, o, a', c', rfl, hcell, hbs⟩ := hs.at_ hk hkx
      clear hbs
      by_cases hx : xs[k].length = 128
      · have hb : ((xs[k].length : Int) == 128) = true := by simp; omega
        have HX := Lib.hid hx
        clear hx
        go_wp2
        go_round
        case rel => exact ⟨k + 1, by omega, by go_num, fun j x hj hx => by
          rcases Nat.lt_or_ge j k with h | h
          · exact HA.out j x h hx
          · obtain rfl : j = k := by omega
            rw [List.getElem?_eq_getElem hkx] at hx
            injection hx with hx
            rw [← hx]; exact HX.out⟩
        case measure => simp [intOf]; omega
      · have hb : ((xs[k].length : Int) == 128) = false := by simp; omega
        have HX := Lib.hid hx
        clear hx
        have hgf : good = false := by
          cases hgd : good with
          | false => rfl
          | true => exact absurd (HG.out.1 hgd _ (List.getElem_mem hkx)) HX.out
        have HF := Lib.hid hgf
        clear hgf
        go_wp2
        go_ret
        exact ⟨k, rfl, by rw [HF.out]; simp, rfl⟩
    · have hgt : good = true := HG.out.2 fun x hx => by
        obtain ⟨j, hj, rfl⟩ := List.getElem_of_mem hx
        exact HA.out j _ (by rw [← HN.out] at hj; omega) (List.getElem?_eq_getElem hj)
      have HF := Lib.hid hgt
      clear hgt
      go_wp2
      go_ret
      exact ⟨-1, rfl, by rw [HF.out]; rfl, rfl⟩

set_option maxHeartbeats 400000 in
theorem contains_c (A : Option Addr) (n c g : Nat) (xs : List (List UInt8)) (D : Gh) (w : World) (hk : Keeps D w) (hs : SS D (.slice A n c) xs)
    (hg : w.cell? ⟨g, 0, none⟩ = some (.func (.func 49) #[] #[])) (good : Bool) (hgood : good = true ↔ ∀ x ∈ xs, x.length = 128) :
    Calls Try.prog 51 #[.slice A n c, .func (.func 52) #[] #[.pointer (some ⟨g, 0, none⟩)]] w fun e w' => e = .returned (.bool (!good)) ∧ w = w' := by
  have HC := Lib.hid (idx_c A n c g xs D w hk hs hg good hgood)
  clear hgood hk hs hg
  go_enter Try.func51, Try.ntmps51
  go_wp2_with fail
  refine HC.out.mono ?_
  rintro e w' ⟨r, rfl, hr, rfl⟩
  have HR := Lib.hid hr
  clear hr
  go_wp2
  go_ret
  exact ⟨by rw [HR.out]; rfl, rfl⟩

structure Dsk where
  secs : List (List UInt8)
  left : Int
  tear : Int
  stopped : Bool

/-- Is a disk valid? -/
def okB (d : Dsk) : Bool := decide (1 ≤ d.secs.length ∧ d.secs.length ≤ 4096 ∧ (∀ x ∈ d.secs, x.length = 128) ∧ -1 ≤ d.left ∧ 0 ≤ d.tear ∧ d.tear ≤ 128 ∧ (d.stopped = true → d.left = 0))
def chk (d : Dsk) : Int := if okB d then 0 else 1

end Go.Proofs.Ytegkmkglagmdiaa
