/-
  What is proved here: digestsOf: the digests that a script determines.
-/
import Derived.Test.YtohknemfcohhfaaDoorRows
import Derived.Test.YtohknemfcohhfaaDoorBaseC
import Derived.Test.YtohknemfcohhfaaDoorSha
import Derived.Test.YtohknemfcohhfaaDoorDigA
import Derived.Test.YtohknemfcohhfaaDoorDigC
import Derived.Test.YtohknemfcohhfaaDoorDigD
import Derived.Test.YtohknemfcohhfaaDoorDigE
import Derived.Test.YtohknemfcohhfaaDoorDigF
import Derived.Test.YtohknemfcohhfaaDoorDigG
import Derived.Test.YtohknemfcohhfaaDoorDigH
import Derived.Test.YtohknemfcohhfaaDoorDigI
import Derived.Test.YtohknemfcohhfaaDoorDigJ
import Derived.Test.YtohknemfcohhfaaDoorDigK
import Derived.Test.YtohknemfcohhfaaDoorDigL
import Derived.Test.YtohknemfcohhfaaDoorDigM
import Derived.Test.YtohknemfcohhfaaDoorDigN
import Derived.Test.YtohknemfcohhfaaDoorTree
import Derived.Test.YtohknemfcohhfaaDoorShelf
import Derived.Lib.ConvBytes
import Derived.StillTailTactics
import Derived.Lib.AppendZerosOnto
import Derived.Deep.RegionHeld3
import Derived.Great.BuildSlice
import Derived.Deep.MidRow
import Derived.Deep.RegionLaw
import Derived.Deep.DeepCutAuto
import Derived.Deep.QuietTactic
import Derived.BigQuiet
import Derived.Laws.EntriesVeiled
namespace Go.Proofs.YtohknemfcohhfaaDoor
open Go.RowKit Go.VS
/-- the digest that a byte of a script, at its place, leads to. -/
def elD (b : UInt8) (i : Nat) : List UInt8 := (b % 4) :: UInt8.ofNat (i / 8) :: List.replicate 30 0
/-- the digests of a script. -/
def lD (bs : List UInt8) : List (List UInt8) := (List.range (min bs.length 40)).map fun i => elD (bs.getD i 0) i
theorem lD_len (bs : List UInt8) : (lD bs).length = min bs.length 40 := by simp [lD]
theorem elD_len (b : UInt8) (i : Nat) : (elD b i).length = 32 := rfl
theorem lD_all (bs : List UInt8) : ∀ d ∈ lD bs, d.length = 32 := by
  intro d hd
  simp only [lD, List.mem_map] at hd
  obtain ⟨i, _, rfl⟩ := hd
  rfl
theorem lD_take (bs : List UInt8) (i : Nat) (h : i < min bs.length 40) : (lD bs).take (i + 1) = (lD bs).take i ++ [elD (bs.getD i 0) i] := by
  rw [List.take_add_one]
  have : (lD bs)[i]? = some (elD (bs.getD i 0) i) := by unfold lD; rw [List.getElem?_map, List.getElem?_range h]; rfl
  rw [this]; rfl
theorem elD_cells (b : UInt8) (i : Nat) (hi : i < 40) : darr (elD b i) = #[.int .u8 ((b.toNat : Int) % 4), .int .u8 ((i : Int) / 8), .int .u8 0, .int .u8 0, .int .u8 0, .int .u8 0, .int .u8 0, .int .u8 0, .int .u8 0, .int .u8 0, .int .u8 0, .int .u8 0, .int .u8 0, .int .u8 0, .int .u8 0, .int .u8 0, .int .u8 0, .int .u8 0, .int .u8 0, .int .u8 0, .int .u8 0, .int .u8 0, .int .u8 0, .int .u8 0, .int .u8 0, .int .u8 0, .int .u8 0, .int .u8 0, .int .u8 0, .int .u8 0, .int .u8 0, .int .u8 0] := by
  rw [darr_full _ (elD_len b i)]
  simp only [elD, List.map_cons, bv, List.replicate, List.map_nil]
  have h1 : ((b % 4).toNat : Int) = (b.toNat : Int) % 4 := by simp
  have h2 : ((UInt8.ofNat (i / 8)).toNat : Int) = (i : Int) / 8 := by
    rw [UInt8.toNat_ofNat_of_lt' (by show i / 8 < 256; omega)]; omega
  rw [h1, h2]
  rfl
theorem own_emptyN {w : World} {base g s : Nat} {e : TypeId} (hg : base ≤ g) (h : w.heap[g]? = some (.cells #[] e (0, 0))) : w.ownsRow base e s (.slice (some ⟨g, 0, none⟩) 0 0) 0 [] :=
  ⟨by simp, .inr ⟨g, 0, #[], rfl, hg, h, Nat.le_refl _, by simp [maxLen], by simp, by simp⟩⟩
set_option maxRecDepth 100000 in
set_option maxHeartbeats 1000000 in
theorem digestsOf_c (A : Option Addr) (n c : Nat) (bs : List UInt8) (D : Gh) (w : World) (hk : Keeps D w) (hb : BS D (.slice A n c) bs) :
    Calls Tryd.prog 22 #[.slice A n c] w fun e w' => ∃ A' c' D', e = .returned (.slice A' (lD bs).length c') ∧ Grow w D w' D' ∧ DS D' (.slice A' (lD bs).length c') (lD bs) := by
  obtain ⟨hn, hnc, hcm⟩ := hb.len
  unfold maxLen at hcm
  have HN := Lib.hid hn
  clear hn
  have hown0 := Lib.hid (show (w.alloc (.cells #[] 26)).ownsRow w.heap.size 26 32 (.slice (some ⟨w.heap.size, 0, none⟩) 0 0) 0 (flat ((lD bs).take 0)) by
    rw [List.take_zero]; exact own_emptyN (Nat.le_refl _) (heap_alloc_new w _))
  go_enter Tryd.func22, Tryd.ntmps22
  go_wp2_with fail
  go_loopw [3, 4] (fun x y wr => ∃ (i : Nat) (A1 : Option Addr) (c1 : Nat), x = .slice A1 i c1 ∧ y = .int .i64 i ∧ i ≤ n ∧ i ≤ 40 ∧ wr.ownsRow w.heap.size 26 32 (.slice A1 i c1) i (flat ((lD bs).take i)) ∧ Grow w D wr D) (fun _ y _ => 40 - (intOf y).toNat)
  case atStart => exact ⟨0, _, _, rfl, rfl, by omega, by omega, hown0.out, (Grow.refl hk).alloc _⟩
  case round =>
    clear hown0
    obtain ⟨i, A1, c1, rfl, rfl, hin, hi40, hown, hG⟩ := hrel
    by_cases h1 : i < n
    · by_cases h2 : i < 40
      · have g1 : (i : Int) < (n : Int) := by omega
        have g2 : (i : Int) < 40 := by omega
        obtain ⟨b, o, rfl, hcell⟩ := hb.at_ hG.keeps (k := i) (by rw [← HN.out]; exact h1)
        have hel := elD_cells (bs.getD i 0) i h2
        have hgd : bs.getD i 0 = bs[i]'(by rw [← HN.out]; exact h1) := by simp [List.getD]; rw [List.getElem?_eq_getElem (by rw [← HN.out]; exact h1)]; rfl
        have htk := lD_take bs i (by rw [← HN.out]; omega)
        obtain ⟨A5, c5, w5, hrun5, hown5, hG5⟩ := app_step (elD (bs.getD i 0) i) (elD_len _ _) hk hown hG (Below.refl _ _) (by omega)
        rw [← htk] at hown5
        rw [hel, hgd] at hrun5
        clear htk hel hgd
        generalize bs[i]'(by rw [← HN.out]; exact h1) = x at *
        have hx1 : (0 : Int) ≤ (x.toNat : Int) := by omega
        have hx2 : (x.toNat : Int) < 256 := by have := x.toNat_lt; omega
        have hm1 : (x.toNat : Int).tmod 4 = (x.toNat : Int) % 4 := Int.tmod_eq_emod_of_nonneg hx1
        have hm2 : (i : Int).tdiv 8 = (i : Int) / 8 := Int.tdiv_eq_ediv_of_nonneg (by omega)
        have HOWN5 := Lib.hid hown5
        have HG5 := Lib.hid hG5
        clear hown hG hown5 hG5
        go_wp2_with (at_builtin; refine Lib.wpList_append_run _ rfl _ _ 30 30 rfl _ _ rfl rfl _ _ hrun5 ?_)
        exact ⟨⟨i + 1, A5, c5, rfl, rfl, by omega, by omega, HOWN5.out, HG5.out⟩, by simp only [intOf]; omega⟩
      · have g1 : (i : Int) < (n : Int) := by omega
        have g2 : ¬ ((i : Int) < 40) := by omega
        have hl : (lD bs).length = i := by rw [lD_len, ← HN.out]; omega
        rw [← hl, List.take_length] at hown
        obtain ⟨D2, hG2, _, hs2, _⟩ := hG.pubN hown (Nat.le_refl _) (fun g h => hk.offNew (hown.lt g h).1)
        have HP := Lib.hid (show ∃ A' c' D', Value.slice A1 i c1 = .slice A' (lD bs).length c' ∧ Grow w D wr D' ∧ DS D' (.slice A' (lD bs).length c') (lD bs) from ⟨A1, c1, D2, by rw [hl], hG2, lD_all bs, by rw [hl] at hs2 ⊢; exact hs2⟩)
        clear hown hl hG hG2 hs2
        go_wp2
        go_ret
        obtain ⟨A', c', D', e, h2⟩ := HP.out
        exact ⟨A', c', congrArg Ending.returned e, D', h2⟩
    · have g1 : ¬ ((i : Int) < (n : Int)) := by omega
      have hl : (lD bs).length = i := by rw [lD_len, ← HN.out]; omega
      rw [← hl, List.take_length] at hown
      obtain ⟨D2, hG2, _, hs2, _⟩ := hG.pubN hown (Nat.le_refl _) (fun g h => hk.offNew (hown.lt g h).1)
      have HP := Lib.hid (show ∃ A' c' D', Value.slice A1 i c1 = .slice A' (lD bs).length c' ∧ Grow w D wr D' ∧ DS D' (.slice A' (lD bs).length c') (lD bs) from ⟨A1, c1, D2, by rw [hl], hG2, lD_all bs, by rw [hl] at hs2 ⊢; exact hs2⟩)
      clear hown hl hG hG2 hs2
      go_wp2
      go_ret
      obtain ⟨A', c', D', e, h2⟩ := HP.out
      exact ⟨A', c', congrArg Ending.returned e, D', h2⟩
end Go.Proofs.YtohknemfcohhfaaDoor
