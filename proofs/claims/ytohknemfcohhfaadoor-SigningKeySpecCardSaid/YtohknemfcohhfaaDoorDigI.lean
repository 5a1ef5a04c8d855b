/-
  What is proved here: node.
-/
import Derived.Test.YtohknemfcohhfaaDoorRows
import Derived.Test.YtohknemfcohhfaaDoorBaseC
import Derived.Test.YtohknemfcohhfaaDoorSha
import Derived.Test.YtohknemfcohhfaaDoorDigA
import Derived.Test.YtohknemfcohhfaaDoorDigC
import Derived.Test.YtohknemfcohhfaaDoorDigD
import Derived.Test.YtohknemfcohhfaaDoorDigE
import Derived.Test.YtohknemfcohhfaaDoorDigF
import Derived.Test.YtohknemfcohhfaaDoorDigG
import Derived.Test.YtohknemfcohhfaaDoorDigH
import Derived.Test.YtohknemfcohhfaaDoorTree
import Derived.Test.YtohknemfcohhfaaDoorShelf
import Derived.Lib.ConvBytes
import Derived.StillTailTactics
import Derived.Lib.AppendZerosOnto
import Derived.Deep.RegionHeld3
import Derived.Deep.RegionLaw
import Derived.Deep.DeepCutAuto
import Derived.Deep.QuietTactic
import Derived.BigQuiet
import Derived.Laws.EntriesVeiled
namespace Go.Proofs.YtohknemfcohhfaaDoor
open Go.RowKit Go.VS
/-- a slice literal of byte slices: known from now on. -/
theorem ss_lit {w : World} {D : Gh} (hk : Keeps D w) (vs : List Value) (xs : List (List UInt8)) (hl : vs.length = xs.length) (hm : xs.length ≤ maxLen) (hv : ∀ (j : Nat) x u, xs[j]? = some x → vs[j]? = some u → BS D u x) :
    ∃ D', Grow w D (w.alloc (.cells vs.toArray 22)) D' ∧ SS D' (.slice (some ⟨w.heap.size, 0, none⟩) xs.length xs.length) xs := by
  have hb : Below w.heap.size w (w.alloc (.cells vs.toArray 22)) := (Below.refl _ _).alloc (Nat.le_refl _) _
  obtain ⟨D', hG, hsl⟩ := pub_row (e := 22) (v := .slice (some ⟨w.heap.size, 0, none⟩) vs.length vs.length) (n := vs.length) (vs := vs) hk hb (Nat.le_refl _) ⟨by simp, .inr ⟨w.heap.size, _, _, rfl, Nat.le_refl _, heap_alloc_new w _, Nat.le_refl _, by omega, by simp, by simp⟩⟩
  refine ⟨D', hG, vs, hl ▸ hsl, hl, fun j x u ex eu => (hv j x u ex eu).le hG.le⟩
theorem ss_lit2 {w : World} {D : Gh} (hk : Keeps D w) {u v : Value} {x y : List UInt8} (hu : BS D u x) (hv : BS D v y) : ∃ D', Grow w D (w.alloc (.cells #[u, v] 22)) D' ∧ SS D' (.slice (some ⟨w.heap.size, 0, none⟩) 2 2) [x, y] :=
  ss_lit hk [u, v] [x, y] rfl (by simp [maxLen]) (by
    intro j z q ez eq
    match j, ez, eq with
    | 0, ez, eq => simp at ez eq; subst ez; subst eq; exact hu
    | 1, ez, eq => simp at ez eq; subst ez; subst eq; exact hv
    | j + 2, ez, eq => simp at ez)
theorem Grow.via {w M w1 : World} {D D1 D2 : Gh} (k : Grow w D M D1) (h : Grow M D1 w1 D2) : Grow w D w1 D2 := k.trans h

set_option maxRecDepth 100000 in
set_option maxHeartbeats 400000 in
theorem node_c {sh : List UInt8 → List UInt8} (hs : Sh sh) (a b : List UInt8) (ha : a.length = 32) (hb : b.length = 32) (D : Gh) (w : World) (hk : Keeps D w) (hT : Tab D) :
    Calls Tryd.prog 56 #[dg a, dg b] w fun e w' => e = .returned (dg (tagB sh nodeT (a ++ b))) ∧ Below w.heap.size w w' := by
  have HA := Lib.hid ha
  have HB := Lib.hid hb
  clear ha hb
  rw [dg_darr a HA.out, dg_darr b HB.out]
  have hB1 := Box.new2 hk rfl 26 (darr a)
  have hG1 := (Grow.refl hk).alloc (.cells (darr a) 26)
  obtain ⟨D2, hG2, hle2, hbs2, hoff2⟩ := dgBox_bs hG1 hB1 HA.out (Nat.le_refl _)
  have hB2 := Box.new2 hG2.keeps rfl 26 (darr b)
  have hG3 := hG2.alloc (.cells (darr b) 26)
  obtain ⟨D3, hG4, hle3, hbs3, hoff3⟩ := dgBox_bs hG3 hB2 HB.out (by simp)
  have hB3 := Box.new2 hG4.keeps rfl 26 (darr [])
  have hG5 := hG4.alloc (.cells (darr []) 26)
  rw [show ((w.alloc (.cells (darr a) 26)).alloc (.cells (darr b) 26)).heap.size = w.heap.size + 1 + 1 by simp] at hB3
  rw [show (w.alloc (.cells (darr a) 26)).heap.size = w.heap.size + 1 by simp] at hbs3
  have hbs2' := hbs2.le hle3
  clear hB1 hG1 hbs2 hoff2 hG2 hB2 hG3 hoff3 hle2
  have hB3d := hB3.drew
  have hG5d := hG5.drew
  obtain ⟨W, hW⟩ : ∃ W, W = (((w.alloc (.cells (darr a) 26)).alloc (.cells (darr b) 26)).alloc (.cells (darr []) 26)).drew := ⟨_, rfl⟩
  rw [← hW] at hB3d hG5d
  clear hB3 hG5
  obtain ⟨D6, hG6, hss⟩ := ss_lit2 hG5d.keeps hbs2' hbs3
  have hB6 := hB3d.grow hG6
  have hG7 := hG5d.trans hG6
  go_enter Tryd.func56, Tryd.ntmps56
  go_wp2_with fail
  go_still_tail 2, (by kernel_rfl)
  change wpList _ _ _ _ _ (World.drew (((w.alloc (.cells (darr a) 26)).alloc (.cells (darr b) 26)).alloc (.cells (darr []) 26)))
  rw [← hW]
  clear hW hbs2' hbs3 hle3 hG4 hG5d hB3d
  go_wp2_with fail
  refine (concat_c _ _ _ [a, b] D6 _ hG6.keeps hss (by have := HA.out; have := HB.out; simp; omega) (by omega)).mono ?_
  rintro e w8 ⟨A8, c8, D8, rfl, hG8, hb8⟩
  have hfl : [a, b].flatten = a ++ b := by simp
  have hfll : [a, b].flatten.length = 64 := by rw [hfl, List.length_append, HA.out, HB.out]
  rw [hfll] at hb8 ⊢
  rw [hfl] at hb8
  clear hfl hfll
  have hB8 := hB6.grow hG8
  have hG9 := hG7.trans hG8
  clear hB6 hG7 hG8 hG6
  go_wp2_with fail
  refine (tag_c hs nodeT (by decide) _ 64 _ (a ++ b) D8 _ hG9.keeps hb8 (by omega) (hT.le hG9.le)).mono ?_
  rintro e w3 ⟨rfl, hb3⟩
  have hB4z := hB8.below hb3 hB8.lt
  have hbel6 := belowVia hb3 hG9.below
  have hr32 := Lib.hid (show (tagB sh nodeT (a ++ b)).length = 32 from hs.len _)
  generalize hr : tagB sh nodeT (a ++ b) = r at hr32 ⊢
  have HR := Lib.hid hr
  clear hr
  rw [dg_darr r hr32.out]
  have hsr : (darr []).size = (darr r).size := by rw [darr_size _ (by simp), darr_size _ (by rw [hr32.out]; omega)]
  have hsr26 := sz26 r hr32.out
  go_wp2_with (refine wpList_store_row rfl 26 _ _ rfl (w.heap.size + 1 + 1) (darr r) rfl rfl 26 (darr []) hB4z.heap hsr26 hsr (darr_one _) ?_)
  refine bodyPost_ret (results_cell_row rfl _ _ _ _ _ _ _ rfl (hB4z.setRow _).heap Tryd.underlying26 rfl hsr26) rfl ⟨?_, belowRow hbel6 (by omega) _⟩
  rw [HR.out, dg_darr r hr32.out]
end Go.Proofs.YtohknemfcohhfaaDoor
