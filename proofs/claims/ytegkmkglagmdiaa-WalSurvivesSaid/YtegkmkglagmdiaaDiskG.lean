/-
  What is proved here: the contract of the method write of disk.counter where the disk stops
-/
import Derived.Test.YtegkmkglagmdiaaRows
import Derived.Test.YtegkmkglagmdiaaDiskF
import Derived.Test.YtegkmkglagmdiaaBaseB
import Derived.Deep.RegionHeld3
import Derived.Deep.DeepCutAuto
import Derived.Deep.QuietTactic
import Derived.BigQuiet
import Derived.Laws.EntriesVeiled
namespace Go.Proofs.Ytegkmkglagmdiaa
open Go.RowKit Go.VS

set_option maxRecDepth 100000 in
set_option maxHeartbeats 2000000 in
theorem cwriteT_c (g : Nat) (A : Option Addr) (n c i : Nat) (xs : List (List UInt8)) (t : Int) (bA : Option Addr) (bc : Nat) (bs : List UInt8) (D : Gh) (w : World) (hk : Keeps D w) (hs : SS D (.slice A n c) xs)
    (hbx : Box w D g 71 #[.slice A n c, .int .i64 0, .int .i64 t, .bool false]) (hbs : BS D (.slice bA 128 bc) bs) (hok : chk ⟨xs, 0, t, false⟩ = 0) (hi : i < xs.length) :
    Calls Try.prog 47 #[.pointer (some ⟨g, 0, none⟩), .int .i64 i, .slice bA 128 bc] w fun e w' => ∃ A' c' D', e = .returned (.bool false) ∧ GrowB w D w' D' g ∧ Box w' D' g 71 #[.slice A' n c', .int .i64 0, .int .i64 t, .bool true] ∧ SS D' (.slice A' n c') (xs.set i (bs.take t.toNat ++ xs[i].drop t.toNat)) := by
  obtain ⟨hn, hnc, hcm⟩ := hs.len
  unfold maxLen at hcm
  obtain ⟨hn1, hn2, hlen, hl1, ht0, ht1, _⟩ := chk_len hok
  simp only at ht0 ht1 hn2
  obtain ⟨tn, rfl⟩ := Int.eq_ofNat_of_zero_le ht0
  clear hl1
  simp only [Int.toNat_natCast]
  obtain ⟨b, o, a', c2, rfl, hcell, hbi⟩ := hs.at_ hk hi
  have h128 : xs[i].length = 128 := hlen _ (List.getElem_mem hi)
  have hbl := hbs.len
  rw [h128] at hcell hbi
  have hin : i < n := by omega
  have hbc0 : ¬ bc = 0 := by have := hbl.2.1; omega
  have htb : tn ≤ bc := by have := hbl.2.1; omega
  have htb' : (tn : Int) ≤ (bc : Int) := by omega
  have hn4 : n ≤ 4096 := by omega
  have HL := Lib.hid (And.intro hlen (And.intro h128 (And.intro hn (And.intro hok hbl.1))))
  clear hlen h128 hn hok hn1 hn2 hbl
  have q := hbx.cell
  have f := hbx.frozen
  obtain ⟨vs, hvs, hvl, hve⟩ := id hs
  have hone := SS.one hvl hve
  have hve' := Lib.hid hve
  have hvl' := Lib.hid hvl
  clear hve hvl
  go_enter Try.func47, Try.ntmps47
  go_wp2_with fail
  refine (clone32 _ _ _ _ D _ hk hbi (bv_one _) (by omega)).mono ?_
  rintro e w1 ⟨sA, sc, rfl, hb1, hown⟩
  have hk1 := hk.below hb1 (Nat.le_refl _)
  have bx1 := hbx.below hb1 hbx.lt
  have q1 := bx1.cell
  have f1 := bx1.frozen
  go_wp2_with fail
  obtain ⟨w2, hrun, hown2, hgr2⟩ := run_copy_sl (P := Try.prog) 32 32 3 5 Try.underlying32 size5 w.heap.size sA 128 sc _ hown D hk1 bA tn bc _ (Sl.take hbs (by omega)) (fun u hu => bv_one _ u (List.mem_of_mem_take hu))
  rw [hrun]
  clear hrun
  have hk2 : Keeps D w2 := hk1.grown hgr2 (fun g hg => hk.offNew (hown.lt g hg).1)
  have bx2 := bx1.grown hgr2 (fun e => by have := (hown.lt g e.symm).1; have := hbx.lt; omega)
  have e2 : ((bs.map bv).take tn).take 128 ++ (xs[i].map bv).drop tn = (bs.take tn ++ xs[i].drop tn).map bv := by
    rw [List.take_of_length_le (by simp; omega), List.map_append, List.map_take, List.map_drop]
  rw [e2] at hown2
  have e3 : 128 = (bs.take tn ++ xs[i].drop tn).length := by
    have := HL.out.2.2.2.2; have := HL.out.2.1
    simp; omega
  have E3 := Lib.hid e3
  clear e3
  clear e2 q1 f1 q f
  have q2 := bx2.cell
  have f2 := bx2.frozen
  go_wp2_with fail
  have hk3 := hk2.setCell (p := ⟨g, 3, none⟩) hbx.off (.bool true)
  have bx3 := bx2.set_ 3 (.bool true)
  clear q2 f2
  refine (clone24 _ _ _ vs D _ (by first | exact hk3 | exact hk2) hvs hone hn4).mono ?_
  rintro e w3 ⟨A', c', rfl, hb3, hown3⟩
  obtain ⟨gr, cap, hv, hge, hlt⟩ := hown3.form (by omega)
  cases hv
  have bx4 := (by first | exact bx3 | exact bx2 : Box _ D g 71 _).below hb3 (by first | exact bx3.lt | exact bx2.lt)
  have q4 := bx4.cell
  have f4 := bx4.frozen
  obtain ⟨u, hu0, hu1, hu2⟩ := own_cell hown3 hin
  have hsw : w.heap.size ≤ w2.heap.size := Nat.le_trans hb1.size hgr2.size
  have hW3 : w2.heap.size ≤ gr := by first | exact hge | (simp only [World.size_setCell] at hge; exact hge)
  have hgr : g ≠ gr := by have := hbx.lt; omega
  have hgr' : gr ≠ g := Ne.symm hgr
  have hgA : w.grownBy w2 (some g) := gb_row (gb_below (gb_refl w g) hb1) hgr2 (fun k e => (hown.lt k e).1)
  have hgC := gb_set (p := ⟨gr, i, none⟩) (gb_set (p := ⟨g, 0, none⟩) (gb_below (by first | exact hgA | exact gb_set hgA (.inl rfl) _) hb3) (.inl rfl) (.slice (some ⟨gr, 0, none⟩) n c')) (.inr (Nat.le_trans hsw hW3)) (.slice sA 128 sc)
  have hog : Value.ownBlock (.slice sA 128 sc) ≠ some g := fun e => by have := (hown2.lt g e).1; have := hbx.lt; omega
  have hogr : Value.ownBlock (.slice sA 128 sc) ≠ some gr := fun e => by have := (hown2.lt gr e).2; omega
  have hS := own_far (p := ⟨gr, i, none⟩) (own_far (p := ⟨g, 0, none⟩) (own_below (by first | exact hown2 | exact own_far hown2 hog _) hb3) hog (.slice (some ⟨gr, 0, none⟩) n c')) hogr (.slice sA 128 sc)
  have hR := own_set (own_far (p := ⟨g, 0, none⟩) (own_base hown3 (by first | exact hsw | (simp only [World.size_setCell]; exact hsw))) (by simp [Value.ownBlock]; exact hgr') (.slice (some ⟨gr, 0, none⟩) n c')) i (.slice sA 128 sc)
  obtain ⟨D', hGB, hSS, hoff⟩ := pub_two hk hgC hbx.off hbx.lt hS E3.out hR hvl'.out hve'.out
  have bx5 := ((bx4.set_ 0 (.slice (some ⟨gr, 0, none⟩) n c')).far (p := ⟨gr, i, none⟩) hgr (.slice sA 128 sc)).le hoff
  have HF : Hid _ := And.intro hGB (And.intro bx5 hSS)
  clear hGB bx5 hSS hoff hR hS hgC hgA
  go_wp2
  go_ret
  exact ⟨_, _, D', rfl, HF.out.1, HF.out.2.1, HF.out.2.2⟩
end Go.Proofs.Ytegkmkglagmdiaa
