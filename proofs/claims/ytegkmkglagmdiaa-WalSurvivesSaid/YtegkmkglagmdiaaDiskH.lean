/-
  What is proved here: the contract of disk.Write
-/
import Derived.Test.YtegkmkglagmdiaaRows
import Derived.Test.YtegkmkglagmdiaaDiskG
import Derived.Test.YtegkmkglagmdiaaBaseB
import Derived.Deep.RegionHeld3
import Derived.Deep.DeepCutAuto
import Derived.Deep.QuietTactic
import Derived.BigQuiet
import Derived.Laws.EntriesVeiled
namespace Go.Proofs.Ytegkmkglagmdiaa
open Go.RowKit Go.VS

theorem _root_.Go.VS.Box.growB {w w' : World} {D D' : Gh} {g g' : Nat} {t : TypeId} {cs : Array Value} (h : Box w D g' t cs) (hg : GrowB w D w' D' g) (hne : g' ≠ g) : Box w' D' g' t cs :=
  ⟨(hg.grown.block g' h.lt (fun e => hne (by injection e))).trans h.heap, fun o => (hg.old g' h.lt o).trans (h.off o)⟩
theorem GrowB.grow {w w1 w' : World} {D D' : Gh} {g : Nat} (h : GrowB w1 D w' D' g) (hb : Below w.heap.size w w1) (hg : w.heap.size ≤ g) : Grow w D w' D' :=
  ⟨hb.grown h.grown hb.size (fun k e => by injection e with e; omega), h.keeps, h.le, fun b hb' o => h.old b (Nat.lt_of_lt_of_le hb' hb.size) o⟩

def writeF (d : Dsk) (at_ : Int) (b : List UInt8) : Dsk × Int :=
  if chkAt d at_ ≠ 0 ∨ b.length ≠ 128 then (zeroD, 1)
  else if d.stopped then (d, 410)
  else if d.left = 0 then ({ d with secs := d.secs.set at_.toNat (b.take d.tear.toNat ++ (d.secs[at_.toNat]?.getD []).drop d.tear.toNat), stopped := true }, 410)
  else ({ d with secs := d.secs.set at_.toNat b, left := if 0 < d.left then d.left - 1 else d.left }, 0)

set_option maxRecDepth 100000 in
set_option maxHeartbeats 2000000 in
theorem write_c (A : Option Addr) (n c : Nat) (xs : List (List UInt8)) (l t at_ : Int) (s : Bool) (bA : Option Addr) (bn bc : Nat) (bs : List UInt8) (D : Gh) (w : World) (hk : Keeps D w) (hs : SS D (.slice A n c) xs) (hbs : BS D (.slice bA bn bc) bs) (hlw : l ≤ 9223372036854775807) :
    Calls Try.prog 19 #[.agg #[.slice A n c, .int .i64 l, .int .i64 t, .bool s], .int .i64 at_, .slice bA bn bc] w fun e w' => ∃ a n' c' D', e = .returned (.tuple #[.agg #[.slice a n' c', .int .i64 (writeF ⟨xs, l, t, s⟩ at_ bs).1.left, .int .i64 (writeF ⟨xs, l, t, s⟩ at_ bs).1.tear, .bool (writeF ⟨xs, l, t, s⟩ at_ bs).1.stopped], .int .i64 (writeF ⟨xs, l, t, s⟩ at_ bs).2]) ∧ Grow w D w' D' ∧ SS D' (.slice a n' c') (writeF ⟨xs, l, t, s⟩ at_ bs).1.secs := by
  obtain ⟨hn, hnc, hcm⟩ := hs.len
  obtain ⟨hbn, hbnc, hbcm⟩ := hbs.len
  unfold maxLen at hcm hbcm
  have HN := Lib.hid (And.intro hn hbn)
  have HC := fun W hk => Lib.hid (checkAt_c A n c xs l t at_ s D W hk hs)
  rcases chkAt01 ⟨xs, l, t, s⟩ at_ with h0 | h0
  · by_cases h128 : bn = 128
    · obtain ⟨hc0, hi0, hi1⟩ := chkAt0 h0
      obtain ⟨i, rfl⟩ := Int.eq_ofNat_of_zero_le hi0
      have hix : i < xs.length := by simp only at hi1; omega
      clear hi0 hi1
      subst h128
      cases s with
      | true =>
        have hf : writeF ⟨xs, l, t, true⟩ i bs = (⟨xs, l, t, true⟩, 410) := by unfold writeF; rw [if_neg (by rw [h0]; simp; omega), if_pos rfl]
        rw [hf]
        clear hf hn hbn
        have H0 := Lib.hid h0
        clear h0
        have HC0 := Lib.hid hc0
        clear hc0
        go_enter Try.func19, Try.ntmps19
        go_wp2_with fail
        refine (HC _ (by repeat (with_reducible first | assumption | refine Keeps.drew ?_ | refine Keeps.alloc ?_ _ | exact Grow.keeps (by assumption)))).out.mono ?_
        rintro e w1 ⟨rfl, hb1⟩
        rw [H0.out]
        have hk1 : Keeps D w1 := ((hk.alloc _).alloc _).below hb1 (Nat.le_refl _)
        have bd := ((Box.new hk 26 #[.slice A n c, .int .i64 l, .int .i64 t, .bool true]).alloc _).below hb1 (by simp; omega)
        have bx := (Box.new (hk.alloc (.cells #[.slice A n c, .int .i64 l, .int .i64 t, .bool true] 26)) 26 #[.slice none 0 0, .int .i64 0, .int .i64 0, .bool false]).below hb1 (by simp)
        simp only [World.size_alloc] at bx
        have hsz := bx.lt
        have q := bx.cell
        have f := bx.frozen
        have qd := bd.cell
        go_wp2
        exact bodyPost_ret (v := .tuple #[.agg #[.slice A n c, .int .i64 l, .int .i64 t, .bool true], .int .i64 410]) (by simp [results, Try.results19, go_sem, q, hsz]) rfl ⟨A, n, c, D, rfl, Grow.of_below hk (by repeat (with_reducible first | exact Below.refl _ _ | refine Below.drew ?_ | refine belowAlloc ?_ _ | refine Below.setCell ?_ (by simp) _ | assumption | refine belowVia (by assumption) ?_ | refine belowVia (Grow.below (by assumption)) ?_)), hs⟩
      | false =>
        by_cases hl0 : l = 0
        · subst hl0
          have hf : writeF ⟨xs, 0, t, false⟩ i bs = (⟨xs.set i (bs.take t.toNat ++ xs[i].drop t.toNat), 0, t, true⟩, 410) := by
            unfold writeF; rw [if_neg (by rw [h0]; simp; omega), if_neg (by simp), if_pos rfl]; simp [List.getElem?_eq_getElem hix]
          rw [hf]
          clear hf hn hbn
          have H0 := Lib.hid h0
          clear h0
          have HC0 := Lib.hid hc0
          clear hc0
          go_enter Try.func19, Try.ntmps19
          go_wp2_with fail
          refine (HC _ (by repeat (with_reducible first | assumption | refine Keeps.drew ?_ | refine Keeps.alloc ?_ _ | exact Grow.keeps (by assumption)))).out.mono ?_
          rintro e w1 ⟨rfl, hb1⟩
          rw [H0.out]
          have hk1 : Keeps D w1 := ((hk.alloc _).alloc _).below hb1 (Nat.le_refl _)
          have bd := ((Box.new hk 26 #[.slice A n c, .int .i64 0, .int .i64 t, .bool false]).alloc _).below hb1 (by simp; omega)
          have bx := (Box.new (hk.alloc (.cells #[.slice A n c, .int .i64 0, .int .i64 t, .bool false] 26)) 26 #[.slice none 0 0, .int .i64 0, .int .i64 0, .bool false]).below hb1 (by simp)
          simp only [World.size_alloc] at bx
          have hsz := bx.lt
          have q := bx.cell
          have f := bx.frozen
          have qd := bd.cell
          have bw1 : Below w.heap.size w w1 := (by repeat (with_reducible first | exact Below.refl _ _ | refine Below.drew ?_ | refine belowAlloc ?_ _ | refine Below.setCell ?_ (by simp) _ | assumption | refine belowVia (by assumption) ?_ | refine belowVia (Grow.below (by assumption)) ?_))
          go_wp2_with fail
          have bg := Box.new hk1 71 #[.slice A n c, .int .i64 0, .int .i64 t, .bool false]
          refine (cwriteT_c _ A n c i xs t bA bc bs D _ (hk1.alloc _) hs bg hbs HC0.out hix).mono ?_
          rintro e w2 ⟨A', c', D', rfl, hGB, bg2, hss2⟩
          have hgr := hGB.grow (w := w) (bw1.alloc bw1.size _) bw1.size
          have bx2 := (bx.alloc (.cells #[.slice A n c, .int .i64 0, .int .i64 t, .bool false] 71)).growB hGB (by omega)
          have q2 := bx2.cell
          have f2 := bx2.frozen
          have p2 := bg2.cell
          have hne1 : w.heap.size + 1 ≠ w1.heap.size := by omega
          clear q f qd
          go_wp2
          refine bodyPost_ret (v := .tuple #[.agg #[.slice A' n c', .int .i64 0, .int .i64 t, .bool true], .int .i64 410]) (by simp [results, Try.results19, go_sem, q2]) rfl ⟨A', n, c', D', rfl, ?_, hss2⟩
          exact ((((hgr.setNew (p := ⟨w.heap.size + 1, 0, none⟩) (by simp) bx2.off _).setNew (p := ⟨w.heap.size + 1, 1, none⟩) (by simp) bx2.off _).setNew (p := ⟨w.heap.size + 1, 2, none⟩) (by simp) bx2.off _).setNew (p := ⟨w.heap.size + 1, 3, none⟩) (by simp) bx2.off _)
        · have hb0 : (l != 0) = true := by simp; exact hl0
          have hf : writeF ⟨xs, l, t, false⟩ i bs = (⟨xs.set i bs, if 0 < l then l - 1 else l, t, false⟩, 0) := by
            unfold writeF; rw [if_neg (by rw [h0]; simp; omega), if_neg (by simp), if_neg hl0]; simp
          rw [hf]
          clear hf hn hbn hl0
          have H0 := Lib.hid h0
          clear h0
          have HC0 := Lib.hid hc0
          clear hc0
          obtain ⟨l', hl'⟩ : ∃ l', l' = if 0 < l then l - 1 else l := ⟨_, rfl⟩
          rw [← hl']
          have HL' := Lib.hid hl'
          clear hl'
          go_enter Try.func19, Try.ntmps19
          go_wp2_with fail
          refine (HC _ (by repeat (with_reducible first | assumption | refine Keeps.drew ?_ | refine Keeps.alloc ?_ _ | exact Grow.keeps (by assumption)))).out.mono ?_
          rintro e w1 ⟨rfl, hb1⟩
          rw [H0.out]
          have hk1 : Keeps D w1 := ((hk.alloc _).alloc _).below hb1 (Nat.le_refl _)
          have bd := ((Box.new hk 26 #[.slice A n c, .int .i64 l, .int .i64 t, .bool false]).alloc _).below hb1 (by simp; omega)
          have bx := (Box.new (hk.alloc (.cells #[.slice A n c, .int .i64 l, .int .i64 t, .bool false] 26)) 26 #[.slice none 0 0, .int .i64 0, .int .i64 0, .bool false]).below hb1 (by simp)
          simp only [World.size_alloc] at bx
          have hsz := bx.lt
          have q := bx.cell
          have f := bx.frozen
          have qd := bd.cell
          have bw1 : Below w.heap.size w w1 := (by repeat (with_reducible first | exact Below.refl _ _ | refine Below.drew ?_ | refine belowAlloc ?_ _ | refine Below.setCell ?_ (by simp) _ | assumption | refine belowVia (by assumption) ?_ | refine belowVia (Grow.below (by assumption)) ?_))
          go_wp2_with fail
          have bg := Box.new hk1 71 #[.slice A n c, .int .i64 l, .int .i64 t, .bool false]
          refine (cwrite_c _ A n c i xs l t bA bc bs D _ (hk1.alloc _) hs bg hbs HC0.out hix hb0 hlw l' HL'.out).mono ?_
          rintro e w2 ⟨A', c', D', rfl, hGB, bg2, hss2⟩
          have hgr := hGB.grow (w := w) (bw1.alloc bw1.size _) bw1.size
          have bx2 := (bx.alloc (.cells #[.slice A n c, .int .i64 l, .int .i64 t, .bool false] 71)).growB hGB (by omega)
          have q2 := bx2.cell
          have f2 := bx2.frozen
          have p2 := bg2.cell
          have hne1 : w.heap.size + 1 ≠ w1.heap.size := by omega
          clear q f qd
          go_wp2
          refine bodyPost_ret (v := .tuple #[.agg #[.slice A' n c', .int .i64 l', .int .i64 t, .bool false], .int .i64 0]) (by simp [results, Try.results19, go_sem, q2]) rfl ⟨A', n, c', D', rfl, ?_, hss2⟩
          exact ((((hgr.setNew (p := ⟨w.heap.size + 1, 0, none⟩) (by simp) bx2.off _).setNew (p := ⟨w.heap.size + 1, 1, none⟩) (by simp) bx2.off _).setNew (p := ⟨w.heap.size + 1, 2, none⟩) (by simp) bx2.off _).setNew (p := ⟨w.heap.size + 1, 3, none⟩) (by simp) bx2.off _)
    · have hf : writeF ⟨xs, l, t, s⟩ at_ bs = (zeroD, 1) := by unfold writeF; rw [if_pos (.inr (by omega))]
      rw [hf]
      have hb128 : ((bn : Int) != 128) = true := by simp; omega
      clear hf hn hbn h128
      have H0 := Lib.hid h0
      clear h0
      go_enter Try.func19, Try.ntmps19
      go_wp2_with fail
      refine (HC _ (by repeat (with_reducible first | assumption | refine Keeps.drew ?_ | refine Keeps.alloc ?_ _ | exact Grow.keeps (by assumption)))).out.mono ?_
      rintro e w1 ⟨rfl, hb1⟩
      rw [H0.out]
      have hk1 : Keeps D w1 := ((hk.alloc _).alloc _).below hb1 (Nat.le_refl _)
      have bd := ((Box.new hk 26 #[.slice A n c, .int .i64 l, .int .i64 t, .bool s]).alloc _).below hb1 (by simp; omega)
      have bx := (Box.new (hk.alloc (.cells #[.slice A n c, .int .i64 l, .int .i64 t, .bool s] 26)) 26 #[.slice none 0 0, .int .i64 0, .int .i64 0, .bool false]).below hb1 (by simp)
      simp only [World.size_alloc] at bx
      have hsz := bx.lt
      have q := bx.cell
      have f := bx.frozen
      have qd := bd.cell
      clear qd
      go_wp2
      exact bodyPost_ret (v := .tuple #[.agg #[.slice none 0 0, .int .i64 0, .int .i64 0, .bool false], .int .i64 1]) (by simp [results, Try.results19, go_sem, q]) rfl ⟨none, 0, 0, D, rfl, Grow.of_below hk (by repeat (with_reducible first | exact Below.refl _ _ | refine Below.drew ?_ | refine belowAlloc ?_ _ | refine Below.setCell ?_ (by simp) _ | assumption | refine belowVia (by assumption) ?_ | refine belowVia (Grow.below (by assumption)) ?_)), SS.nil D⟩
  · have hf : writeF ⟨xs, l, t, s⟩ at_ bs = (zeroD, 1) := by unfold writeF; rw [if_pos (.inl (by rw [h0]; simp))]
    rw [hf]
    clear hf hn hbn
    have H0 := Lib.hid h0
    clear h0
    go_enter Try.func19, Try.ntmps19
    go_wp2_with fail
    refine (HC _ (by repeat (with_reducible first | assumption | refine Keeps.drew ?_ | refine Keeps.alloc ?_ _ | exact Grow.keeps (by assumption)))).out.mono ?_
    rintro e w1 ⟨rfl, hb1⟩
    rw [H0.out]
    have hk1 : Keeps D w1 := ((hk.alloc _).alloc _).below hb1 (Nat.le_refl _)
    have bd := ((Box.new hk 26 #[.slice A n c, .int .i64 l, .int .i64 t, .bool s]).alloc _).below hb1 (by simp; omega)
    have bx := (Box.new (hk.alloc (.cells #[.slice A n c, .int .i64 l, .int .i64 t, .bool s] 26)) 26 #[.slice none 0 0, .int .i64 0, .int .i64 0, .bool false]).below hb1 (by simp)
    simp only [World.size_alloc] at bx
    have hsz := bx.lt
    have q := bx.cell
    have f := bx.frozen
    have qd := bd.cell
    clear qd
    go_wp2
    exact bodyPost_ret (v := .tuple #[.agg #[.slice none 0 0, .int .i64 0, .int .i64 0, .bool false], .int .i64 1]) (by simp [results, Try.results19, go_sem, q]) rfl ⟨none, 0, 0, D, rfl, Grow.of_below hk (by repeat (with_reducible first | exact Below.refl _ _ | refine Below.drew ?_ | refine belowAlloc ?_ _ | refine Below.setCell ?_ (by simp) _ | assumption | refine belowVia (by assumption) ?_ | refine belowVia (Grow.below (by assumption)) ?_)), SS.nil D⟩
end Go.Proofs.Ytegkmkglagmdiaa
