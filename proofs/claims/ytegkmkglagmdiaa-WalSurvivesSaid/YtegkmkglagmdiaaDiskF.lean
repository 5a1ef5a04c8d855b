/-
  What is proved here: the contract of the method write of disk.counter where the disk does not stop
-/
import Derived.Test.YtegkmkglagmdiaaRows
import Derived.Test.YtegkmkglagmdiaaDiskE
import Derived.Test.YtegkmkglagmdiaaBaseB
import Derived.Deep.RegionHeld3
import Derived.Deep.DeepCutAuto
import Derived.Deep.QuietTactic
import Derived.BigQuiet
import Derived.Laws.EntriesVeiled
namespace Go.Proofs.Ytegkmkglagmdiaa
open Go.RowKit Go.VS

/-- As Grow, but for one variable g, which may have been written. -/
structure GrowB (w : World) (D : Gh) (w' : World) (D' : Gh) (g : Nat) : Prop where
  grown : w.grownBy w' (some g)
  keeps : Keeps D' w'
  le : D.le D'
  old : ∀ b, b < w.heap.size → ∀ o, D' b o = D b o

theorem size5 : (Try.prog.info? 5).map (·.size) = some 1 := by kernel_rfl

/-- Two rows of the call's own, both known from now on: the second one holds the first as its element i. -/
theorem pub_two {w w' : World} {D : Gh} {g : Nat} {n i sn sc : Nat} {sA A' : Option Addr} {c' : Nat} {vs : List Value} {xs : List (List UInt8)} {bs : List UInt8}
    (hk : Keeps D w) (hg : w.grownBy w' (some g)) (hog : D.off g) (hgl : g < w.heap.size)
    (h1 : w'.ownsRow w.heap.size 5 1 (.slice sA sn sc) sn (bs.map bv)) (hsn : sn = bs.length)
    (h2 : w'.ownsRow w.heap.size 32 1 (.slice A' n c') n (vs.set i (.slice sA sn sc))) (hvl : vs.length = xs.length)
    (hvs : ∀ (j : Nat) x u, xs[j]? = some x → vs[j]? = some u → BS D u x) :
    ∃ D', GrowB w D w' D' g ∧ SS D' (.slice A' n c') (xs.set i bs) ∧ D'.off g := by
  have hk' : Keeps D w' := hk.grown hg (fun _ e => by cases e; exact hog)
  have o1 : ∀ k, Value.ownBlock (.slice sA sn sc) = some k → w.heap.size ≤ k := fun k e => (h1.lt k e).1
  have o2 : ∀ k, Value.ownBlock (.slice A' n c') = some k → w.heap.size ≤ k := fun k e => (h2.lt k e).1
  have key : ∀ (D : Gh) (base : Nat) (e : TypeId) (v : Value) (m : Nat) (us : List Value), Keeps D w' → (∀ k, v.ownBlock = some k → D.off k) → w'.ownsRow w.heap.size e 1 v m us →
      ∃ D', Keeps D' w' ∧ D.le D' ∧ (∀ b, b < w.heap.size → ∀ o, D' b o = D b o) ∧ Sl D' v us ∧ (∀ k, D.off k → v.ownBlock ≠ some k → D'.off k) := by
    intro D base e v m us hkD hoD hown
    have hl : us.length = m := by have := hown.1; omega
    rcases hown.2 with ⟨rfl, rfl⟩ | ⟨gg, cap, cur, rfl, hg, hh, hnc, hcm, hsz, htk⟩
    · obtain rfl : us = [] := List.eq_nil_of_length_eq_zero hl
      exact ⟨D, hkD, Gh.le.refl _, fun _ _ _ => rfl, Sl.nil D, fun k h _ => h⟩
    · have ho : D.off gg := hoD gg rfl
      refine ⟨D.add gg us, hkD.add fun o u e => ?_, Gh.le_add ho _, fun b hb o => off_add_lt hg b hb o, ?_, fun k hk hne => Gh.add_off _ hk (fun e => hne (by rw [e]; rfl))⟩
      · have := hown.cells (g := gg) rfl o u e
        simpa [Addr.add_lit] using this
      · refine ⟨some ⟨gg, 0, none⟩, cap, by rw [hl], by omega, hcm, by simp, fun _ => ⟨gg, 0, rfl, fun j u e => ?_⟩⟩
        rw [Nat.zero_add, Gh.add_at]; exact e
  obtain ⟨D1, k1, l1, old1, s1, f1⟩ := key D 0 5 _ _ _ hk' (fun k e => hk.offNew (o1 k e)) h1
  have hne : ∀ k, Value.ownBlock (.slice A' n c') = some k → Value.ownBlock (.slice sA sn sc) ≠ some k := by
    intro k e2 e1
    rcases h1.2 with ⟨ev, _⟩ | ⟨g1, cap1, cur1, ev1, _, hh1, _⟩
    · rw [ev] at e1; cases e1
    · rcases h2.2 with ⟨ev, _⟩ | ⟨g2, cap2, cur2, ev2, _, hh2, _⟩
      · rw [ev] at e2; cases e2
      · rw [ev1] at e1; rw [ev2] at e2
        have a1 : g1 = k := by simpa [Value.ownBlock] using e1
        have a2 : g2 = k := by simpa [Value.ownBlock] using e2
        subst a1; subst a2
        have := hh1.symm.trans hh2
        injection this with this
        injection this with _ ht
        cases ht
  obtain ⟨D2, k2, l2, old2, s2, f2⟩ := key D1 0 32 _ _ _ k1 (fun k e => f1 k (hk.offNew (o2 k e)) (hne k e)) h2
  refine ⟨D2, ⟨hg, k2, l1.trans l2, fun b hb o => (old2 b hb o).trans (old1 b hb o)⟩, ⟨_, s2, by simp [hvl], fun j x u ex eu => ?_⟩, fun o => ?_⟩
  · rw [List.getElem?_set] at ex eu
    by_cases hji : i = j
    · subst hji
      rw [if_pos rfl] at ex eu
      split at ex <;> split at eu <;> simp_all
      subst ex; subst eu
      exact (Sl.le s1 l2)
    · rw [if_neg hji] at ex eu
      exact (hvs j x u ex eu).le (l1.trans l2)
  · rw [old2 g hgl o, old1 g hgl o]; exact hog o

set_option maxRecDepth 100000 in
set_option maxHeartbeats 2000000 in
theorem cwrite_c (g : Nat) (A : Option Addr) (n c i : Nat) (xs : List (List UInt8)) (l t : Int) (bA : Option Addr) (bc : Nat) (bs : List UInt8) (D : Gh) (w : World) (hk : Keeps D w) (hs : SS D (.slice A n c) xs)
    (hbx : Box w D g 71 #[.slice A n c, .int .i64 l, .int .i64 t, .bool false]) (hbs : BS D (.slice bA 128 bc) bs) (hok : chk ⟨xs, l, t, false⟩ = 0) (hi : i < xs.length) (h0 : (l != 0) = true) (hlw : l ≤ 9223372036854775807) (l' : Int) (hl' : l' = if 0 < l then l - 1 else l) :
    Calls Try.prog 47 #[.pointer (some ⟨g, 0, none⟩), .int .i64 i, .slice bA 128 bc] w fun e w' => ∃ A' c' D', e = .returned (.bool true) ∧ GrowB w D w' D' g ∧ Box w' D' g 71 #[.slice A' n c', .int .i64 l', .int .i64 t, .bool false] ∧ SS D' (.slice A' n c') (xs.set i bs) := by
  obtain ⟨hn, hnc, hcm⟩ := hs.len
  unfold maxLen at hcm
  obtain ⟨hn1, hn2, hlen, hl1, ht0, ht1, _⟩ := chk_len hok
  simp only at hl1 ht0 ht1 hn2
  obtain ⟨b, o, a', c2, rfl, hcell, hbi⟩ := hs.at_ hk hi
  have h128 : xs[i].length = 128 := hlen _ (List.getElem_mem hi)
  have hbl := hbs.len
  rw [h128] at hcell hbi
  have hin : i < n := by omega
  have hn4 : n ≤ 4096 := by omega
  have HL := Lib.hid (And.intro hlen (And.intro h128 (And.intro hn (And.intro hok hbl.1))))
  clear hlen h128 hn hok hn1 hn2 hbl
  have q := hbx.cell
  have f := hbx.frozen
  obtain ⟨vs, hvs, hvl, hve⟩ := id hs
  have hone := SS.one hvl hve
  have hve' := Lib.hid hve
  have hvl' := Lib.hid hvl
  clear hve hvl
  have key : (decide (0 < l) = true ∧ l - 1 = l') ∨ (decide (0 < l) = false ∧ l = l') := by
    subst hl'
    split
    · left; simp; omega
    · right; simp; omega
  clear hl'
  rcases key with ⟨gl, rfl⟩ | ⟨gl, rfl⟩
  all_goals
    go_enter Try.func47, Try.ntmps47
    go_wp2_with fail
    refine (clone32 _ _ _ _ D _ hk hbi (bv_one _) (by omega)).mono ?_
    rintro e w1 ⟨sA, sc, rfl, hb1, hown⟩
    have hk1 := hk.below hb1 (Nat.le_refl _)
    have bx1 := hbx.below hb1 hbx.lt
    have q1 := bx1.cell
    have f1 := bx1.frozen
    go_wp2_with fail
    obtain ⟨w2, hrun, hown2, hgr2⟩ := run_copy_sl (P := Try.prog) 32 32 3 5 Try.underlying32 size5 w.heap.size sA 128 sc _ hown D hk1 bA 128 bc _ hbs (bv_one _)
    rw [hrun]
    clear hrun
    have hk2 : Keeps D w2 := hk1.grown hgr2 (fun g hg => hk.offNew (hown.lt g hg).1)
    have bx2 := bx1.grown hgr2 (fun e => by have := (hown.lt g e.symm).1; have := hbx.lt; omega)
    have e2 : (bs.map bv).take 128 ++ (xs[i].map bv).drop 128 = bs.map bv := by
      have := HL.out.2.2.2.2; have := HL.out.2.1
      rw [List.take_of_length_le (by simp; omega), List.drop_eq_nil_of_le (by simp; omega), List.append_nil]
    rw [e2] at hown2
    clear e2 q1 f1 q f
    have q2 := bx2.cell
    have f2 := bx2.frozen
    go_wp2_with fail
    have hk3 := hk2.setCell (p := ⟨g, 1, none⟩) hbx.off (.int .i64 (l - 1))
    have bx3 := bx2.set_ 1 (.int .i64 (l - 1))
    clear q2 f2
    refine (clone24 _ _ _ vs D _ (by first | exact hk3 | exact hk2) hvs hone hn4).mono ?_
    rintro e w3 ⟨A', c', rfl, hb3, hown3⟩
    obtain ⟨gr, cap, hv, hge, hlt⟩ := hown3.form (by omega)
    cases hv
    have bx4 := (by first | exact bx3 | exact bx2 : Box _ D g 71 _).below hb3 (by first | exact bx3.lt | exact bx2.lt)
    have q4 := bx4.cell
    have f4 := bx4.frozen
    obtain ⟨u, hu0, hu1, hu2⟩ := own_cell hown3 hin
    have hsw : w.heap.size ≤ w2.heap.size := Nat.le_trans hb1.size hgr2.size
    have hW3 : w2.heap.size ≤ gr := by first | exact hge | (simp only [World.size_setCell] at hge; exact hge)
    have hgr : g ≠ gr := by have := hbx.lt; omega
    have hgr' : gr ≠ g := Ne.symm hgr
    have hgA : w.grownBy w2 (some g) := gb_row (gb_below (gb_refl w g) hb1) hgr2 (fun k e => (hown.lt k e).1)
    have hgC := gb_set (p := ⟨gr, i, none⟩) (gb_set (p := ⟨g, 0, none⟩) (gb_below (by first | exact hgA | exact gb_set hgA (.inl rfl) _) hb3) (.inl rfl) (.slice (some ⟨gr, 0, none⟩) n c')) (.inr (Nat.le_trans hsw hW3)) (.slice sA 128 sc)
    have hog : Value.ownBlock (.slice sA 128 sc) ≠ some g := fun e => by have := (hown2.lt g e).1; have := hbx.lt; omega
    have hogr : Value.ownBlock (.slice sA 128 sc) ≠ some gr := fun e => by have := (hown2.lt gr e).2; omega
    have hS := own_far (p := ⟨gr, i, none⟩) (own_far (p := ⟨g, 0, none⟩) (own_below (by first | exact hown2 | exact own_far hown2 hog _) hb3) hog (.slice (some ⟨gr, 0, none⟩) n c')) hogr (.slice sA 128 sc)
    have hR := own_set (own_far (p := ⟨g, 0, none⟩) (own_base hown3 (by first | exact hsw | (simp only [World.size_setCell]; exact hsw))) (by simp [Value.ownBlock]; exact hgr') (.slice (some ⟨gr, 0, none⟩) n c')) i (.slice sA 128 sc)
    obtain ⟨D', hGB, hSS, hoff⟩ := pub_two hk hgC hbx.off hbx.lt hS HL.out.2.2.2.2 hR hvl'.out hve'.out
    have bx5 := ((bx4.set_ 0 (.slice (some ⟨gr, 0, none⟩) n c')).far (p := ⟨gr, i, none⟩) hgr (.slice sA 128 sc)).le hoff
    have HF : Hid _ := And.intro hGB (And.intro bx5 hSS)
    clear hGB bx5 hSS hoff hR hS hgC hgA
    go_wp2
    go_ret
    exact ⟨_, _, D', rfl, HF.out.1, HF.out.2.1, HF.out.2.2⟩
end Go.Proofs.Ytegkmkglagmdiaa
