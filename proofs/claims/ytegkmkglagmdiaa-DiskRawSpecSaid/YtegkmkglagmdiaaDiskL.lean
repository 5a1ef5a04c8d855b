/-
  What is proved here: the contract of the reference Write where the disk does not stop
-/
import Derived.Test.YtegkmkglagmdiaaRows
import Derived.Test.YtegkmkglagmdiaaDiskK
import Derived.Test.YtegkmkglagmdiaaBaseB
import Derived.Deep.RegionHeld3
import Derived.Deep.RegionLaw
import Derived.Deep.DeepCutAuto
import Derived.Deep.QuietTactic
import Derived.BigQuiet
import Derived.Laws.EntriesVeiled
namespace Go.Proofs.Ytegkmkglagmdiaa
open Go.RowKit Go.VS

theorem fin_res {w W : World} {D : Gh} {base1 base2 n i sn : Nat} {S V a b c d : Value} {vs : List Value} {xs : List (List UInt8)} {bs : List UInt8}
    (hk : Keeps D w) (hb : Below w.heap.size w W) (h1 : W.ownsRow base1 5 1 S sn (bs.map bv)) (hb1 : w.heap.size ≤ base1) (h2 : W.ownsRow base2 32 1 V n (vs.set i S)) (hb2 : w.heap.size ≤ base2)
    (n1 : S.ownBlock ≠ some (w.heap.size + 1)) (n2 : V.ownBlock ≠ some (w.heap.size + 1)) (hvl : vs.length = xs.length) (hvs : ∀ (j : Nat) x u, xs[j]? = some x → vs[j]? = some u → BS D u x) :
    ∃ D', Grow w D ((((W.setCell ⟨w.heap.size + 1, 0, none⟩ a).setCell ⟨w.heap.size + 1, 1, none⟩ b).setCell ⟨w.heap.size + 1, 2, none⟩ c).setCell ⟨w.heap.size + 1, 3, none⟩ d) D' ∧ SS D' V (xs.set i bs) :=
  pub_set hk (belowSet2 (by omega) (belowSet2 (by omega) (belowSet2 (by omega) (belowSet2 (by omega) hb)))) (by decide) (own_far2 n1 (own_far2 n1 (own_far2 n1 (own_far2 n1 h1)))) hb1 (own_far2 n2 (own_far2 n2 (own_far2 n2 (own_far2 n2 h2)))) hb2 hvl hvs

theorem fin_set {w1 W w2 : World} {D : Gh} {g lit n c1 : Nat} {A1 : Option Addr} {vs : List Value} {z0 z1 z2 z3 : Value} (hB : Box W D g 26 #[z0, z1, z2, z3]) (hgr : W.grownBy w2 (some lit)) (hne : g ≠ lit)
    (hown : w2.ownsRow w1.heap.size 32 1 (.slice A1 n c1) n vs) (hat : Value.ownBlock (.slice A1 n c1) = some lit ∨ Value.ownBlock (.slice A1 n c1) = some W.heap.size) (hb : Below w1.heap.size w1 W) (hlit : w1.heap.size ≤ lit) (hg : w1.heap.size ≤ g) (a b c d : Value) :
    Box ((((w2.setCell ⟨g, 0, none⟩ a).setCell ⟨g, 1, none⟩ b).setCell ⟨g, 2, none⟩ c).setCell ⟨g, 3, none⟩ d) D g 26 #[a, b, c, d] ∧
    ((((w2.setCell ⟨g, 0, none⟩ a).setCell ⟨g, 1, none⟩ b).setCell ⟨g, 2, none⟩ c).setCell ⟨g, 3, none⟩ d).ownsRow w1.heap.size 32 1 (.slice A1 n c1) n vs ∧
    Below w1.heap.size w1 ((((w2.setCell ⟨g, 0, none⟩ a).setCell ⟨g, 1, none⟩ b).setCell ⟨g, 2, none⟩ c).setCell ⟨g, 3, none⟩ d) := by
  have hlt := hB.lt
  have hno : Value.ownBlock (.slice A1 n c1) ≠ some g := by
    rcases hat with h | h
    · rw [h]; intro e; injection e with e; exact hne e.symm
    · rw [h]; intro e; injection e with e; omega
  refine ⟨(hB.grown hgr (fun e => hne (by injection e))).set4 _ _ _ _, own_far (p := ⟨g, 3, none⟩) (own_far (p := ⟨g, 2, none⟩) (own_far (p := ⟨g, 1, none⟩) (own_far (p := ⟨g, 0, none⟩) hown hno _) hno _) hno _) hno _, ?_⟩
  exact ((((hb.grown hgr hb.size (fun k e => by injection e with e; omega)).setCell (p := ⟨g, 0, none⟩) hg a).setCell (p := ⟨g, 1, none⟩) hg b).setCell (p := ⟨g, 2, none⟩) hg c).setCell (p := ⟨g, 3, none⟩) hg d

set_option maxRecDepth 100000 in
set_option maxHeartbeats 4000000 in
theorem refWrite_main (A : Option Addr) (n c i : Nat) (xs : List (List UInt8)) (l t : Int) (bA : Option Addr) (bc : Nat) (bs : List UInt8) (D : Gh) (w : World) (hk : Keeps D w) (hs : SS D (.slice A n c) xs) (hbs : BS D (.slice bA 128 bc) bs) (hlw : l ≤ 9223372036854775807)
    (hok : chk ⟨xs, l, t, false⟩ = 0) (hix : i < xs.length) (h0 : (l == 0) = false) (l' : Int) (hl' : l' = if 0 < l then l - 1 else l) :
    Calls Try.prog 21 #[.agg #[.slice A n c, .int .i64 l, .int .i64 t, .bool false], .int .i64 i, .slice bA 128 bc] w fun e w' => ∃ a n' c' D', e = .returned (.tuple #[.agg #[.slice a n' c', .int .i64 l', .int .i64 t, .bool false], .int .i64 0]) ∧ Grow w D w' D' ∧ SS D' (.slice a n' c') (xs.set i bs) := by
  obtain ⟨hn, hnc, hcm⟩ := hs.len
  obtain ⟨hbn, hbnc, hbcm⟩ := hbs.len
  unfold maxLen at hcm hbcm
  obtain ⟨i5, hi5, hz50, hz51, hz52⟩ := info_parts info5
  obtain ⟨i3, hi3, hz30, hz31, hz32⟩ := info_parts info32
  obtain ⟨hn1, hn2, hlen, hl1, ht0, ht1, _⟩ := chk_len hok
  simp only at hl1 ht0 ht1 hn2
  have hin : i < n := by omega
  have hn4 : n ≤ 4096 := by omega
  have g2 : decide (n ≤ i) = false := by simp; omega
  obtain ⟨vs, hvs, hvl, hve⟩ := id hs
  have hone := SS.one hvl hve
  have HC := fun W hk => Lib.hid (refCheck_c A n c xs l t false D W hk hs)
  have HL := Lib.hid (And.intro hlen (And.intro hn (And.intro hbn (And.intro hok (And.intro hl' (And.intro hvl hve))))))
  clear hlen hn hbn hok hl' hn1 hn2 hvl hve
  go_enter Try.func21, Try.ntmps21
  go_wp2_with fail
  refine (HC _ (by repeat (with_reducible first | assumption | refine Keeps.drew ?_ | refine Keeps.drewN ?_ _ | refine Keeps.alloc ?_ _ | exact Grow.keeps (by assumption)))).out.mono ?_
  rintro e w1 ⟨rfl, hb1⟩
  rw [HL.out.2.2.2.1]
  have hk1 : Keeps D w1 := ((hk.alloc _).alloc _).below hb1 (Nat.le_refl _)
  have bd := ((Box.new hk 26 #[.slice A n c, .int .i64 l, .int .i64 t, .bool false]).alloc _).below hb1 (by simp; omega)
  have bx := (Box.new (hk.alloc (.cells #[.slice A n c, .int .i64 l, .int .i64 t, .bool false] 26)) 26 #[.slice none 0 0, .int .i64 0, .int .i64 0, .bool false]).below hb1 (by simp)
  simp only [World.size_alloc] at bx
  have hsz := bx.lt
  have bw1 : Below w.heap.size w w1 := (by repeat (first | (with_reducible exact Below.refl _ _) | (with_reducible refine Below.drew ?_) | (with_reducible refine belowDrewN ?_ _) | (with_reducible refine belowAlloc ?_ _) | ((with_reducible refine belowSet2 ?_ ?_); omega) | (with_reducible assumption) | (with_reducible refine belowVia (by assumption) ?_) | (with_reducible refine belowVia (Grow.below (by assumption)) ?_)))
  have q := bx.cell
  have f := bx.frozen
  have qd := bd.cell
  go_wp2_with fail
  go_cut [8] (fun x wx => ∃ (g : Nat) (A1 : Option Addr) (c1 : Nat), x = .pointer (some ⟨g, 0, none⟩) ∧ w1.heap.size ≤ g ∧ Box wx D g 26 #[.slice A1 n c1, .int .i64 l, .int .i64 t, .bool false] ∧ wx.ownsRow w1.heap.size 32 1 (.slice A1 n c1) n vs ∧ Below w1.heap.size w1 wx)
  case first =>
    obtain ⟨q0, q1, q2, q3⟩ := bd.cells4
    have SH : Hid (∀ W, Box W D w.heap.size 26 #[.slice A n c, .int .i64 l, .int .i64 t, .bool false] → (W.cell? ⟨w.heap.size, 0, none⟩ = some (.slice A n c) ∧ W.cell? ⟨w.heap.size, 1, none⟩ = some (.int .i64 l) ∧ W.cell? ⟨w.heap.size, 2, none⟩ = some (.int .i64 t) ∧ W.cell? ⟨w.heap.size, 3, none⟩ = some (.bool false))) := fun W h => h.cells4
    clear q f qd
    go_region_held3 (fun w' => w'.cell? ⟨w.heap.size, 0, none⟩ = some (.slice A n c) ∧ w'.cell? ⟨w.heap.size, 1, none⟩ = some (.int .i64 l) ∧ w'.cell? ⟨w.heap.size, 2, none⟩ = some (.int .i64 t) ∧ w'.cell? ⟨w.heap.size, 3, none⟩ = some (.bool false))
      (first | (refine SH.out _ ?_; (repeat (first | (with_reducible assumption) | (with_reducible refine Box.drew ?_) | (with_reducible refine Box.alloc ?_ _) | ((with_reducible refine Box.far2 ?_ ?_); omega))); done) | go_keep)
      (first
        | (refine step_append_sl _ (by rfl) _ _ _ (by rfl) w1.heap.size 32 i3 _ 24 Try.underlying24 hi3 hz30 hz31 hz32 rfl _ 0 [] (by rfl) (by exact own_empty (by omega) (by first | exact heap_alloc_new _ _ | exact heap_old2 _ _ _ | exact heap_new2 _ _ _)) D (by exact (by repeat (with_reducible first | assumption | refine Keeps.drew ?_ | refine Keeps.drewN ?_ _ | refine Keeps.alloc ?_ _ | exact Grow.keeps (by assumption)))) _ _ _ vs (by rfl) hvs hone (by unfold maxLen; omega) (by omega) (by first | omega | (simp; done) | (simp; omega)) ?_; intro A1 c1 w2 hown1 hgr1 hat1; have bd2 : Box w2 D w.heap.size 26 #[.slice A n c, .int .i64 l, .int .i64 t, .bool false] := Box.grown (by repeat (with_reducible first | assumption | refine Box.drew ?_ | refine Box.alloc ?_ _)) hgr1 (fun e => by injection e with e; simp at e; omega); obtain ⟨hcw, hfw⟩ := gcell hgr1; dsimp only at hcw hfw))
    · go_wp2_with fail
      go_meet
      simp only [Nat.zero_add, List.nil_append] at hown1
      have hk2 : Keeps D w2 := ((hk1.alloc _).drew).grown hgr1 (fun g h => by injection h with h; subst h; exact hk1.offNew (Nat.le_refl _))
      have hb2 : Below w1.heap.size w1 w2 := (((Below.refl _ _).alloc (Nat.le_refl _) _).drew).grown hgr1 (by simp) (fun g h => by injection h with h; subst h; exact Nat.le_refl _)
      exact ⟨_, A1, c1, rfl, hb2.size, Box.new hk2 _ _, hown1.alloc _, belowAlloc hb2 _⟩
    · go_wp2_with fail
      go_meet
      simp only [Nat.zero_add, List.nil_append] at hown1
      rw [Nat.zero_add] at hat1
      have hB := (Box.new (hk1.alloc (.cells #[] 32)) 26 #[.slice none 0 0, .int .i64 0, .int .i64 0, .bool false]).drew
      rw [World.size_alloc] at hB
      have hat2 : Value.ownBlock (.slice A1 n c1) = some w1.heap.size ∨ Value.ownBlock (.slice A1 n c1) = some (((w1.alloc (.cells #[] 32)).alloc (.cells #[.slice none 0 0, .int .i64 0, .int .i64 0, .bool false] 26)).drew).heap.size := hat1
      exact ⟨_, A1, c1, rfl, by omega, fin_set (lit := w1.heap.size) hB hgr1 (by omega) hown1 hat2 (by repeat (first | (with_reducible exact Below.refl _ _) | (with_reducible refine Below.drew ?_) | (with_reducible refine belowDrewN ?_ _) | (with_reducible refine belowAlloc ?_ _) | ((with_reducible refine belowSet2 ?_ ?_); omega) | (with_reducible assumption) | (with_reducible refine belowVia (by assumption) ?_) | (with_reducible refine belowVia (Grow.below (by assumption)) ?_))) (Nat.le_refl _) (by omega) _ _ _ _⟩
    · go_wp2_with fail
      go_meet
      simp only [Nat.zero_add, List.nil_append] at hown1
      rw [Nat.zero_add] at hat1
      have hat2 : Value.ownBlock (.slice A1 n c1) = some (w1.heap.size + 1) ∨ Value.ownBlock (.slice A1 n c1) = some (((w1.alloc (.cells #[.slice none 0 0, .int .i64 0, .int .i64 0, .bool false] 26)).alloc (.cells #[] 32)).drew).heap.size := hat1
      exact ⟨_, A1, c1, rfl, by omega, fin_set (lit := w1.heap.size + 1) ((Box.new hk1 26 _).alloc _).drew hgr1 (by omega) hown1 hat2 (by repeat (first | (with_reducible exact Below.refl _ _) | (with_reducible refine Below.drew ?_) | (with_reducible refine belowDrewN ?_ _) | (with_reducible refine belowAlloc ?_ _) | ((with_reducible refine belowSet2 ?_ ?_); omega) | (with_reducible assumption) | (with_reducible refine belowVia (by assumption) ?_) | (with_reducible refine belowVia (Grow.below (by assumption)) ?_))) (by omega) (by omega) _ _ _ _⟩
  case rest =>
    obtain ⟨g, A1, c1, rfl, hgw, bX, hownX, hb2⟩ := hcut
    obtain ⟨gr, cap, hv, hge, hlt⟩ := hownX.form (by omega)
    cases hv
    clear q f qd
    have bd2 := bd.below hb2 bd.lt
    have bx2 := bx.below hb2 bx.lt
    have qd := bd2.cell
    have qX := bX.cell
    have fX := bX.frozen
    have hkx := hk1.below hb2 (Nat.le_refl _)
    obtain ⟨u, hu0, hu1, hu2⟩ := own_cell hownX hin
    have hgr : g ≠ gr := by
      rcases hownX.2 with ⟨h, _⟩ | ⟨g', cap', cur, h, _, hh, _⟩
      · cases h
      · cases h
        rintro rfl
        have := bX.heap.symm.trans hh
        injection this with this
        injection this with _ ht
        cases ht
    have hgr' : gr ≠ g := Ne.symm hgr
    have hgs := bX.lt
    have hi0 : (0 : Int) ≤ (i : Int) := by omega
    have hi1 : (i : Int) < (n : Int) := by omega
    go_wp2_with fail
    have SH : Hid (∀ W, Box W D g 26 #[.slice (some ⟨gr, 0, none⟩) n c1, .int .i64 l, .int .i64 t, .bool false] → (W.cell? ⟨g, 0, none⟩ = some (.slice (some ⟨gr, 0, none⟩) n c1))) := fun W h => h.cell 0
    have qX0 := SH.out _ bX
    clear qd qX fX
    go_region_held3 (fun w' => w'.cell? ⟨g, 0, none⟩ = some (.slice (some ⟨gr, 0, none⟩) n c1))
      (first | (refine SH.out _ ?_; (repeat (first | (with_reducible assumption) | (with_reducible refine Box.drew ?_) | (with_reducible refine Box.alloc ?_ _) | ((with_reducible refine Box.far2 ?_ ?_); omega))); done) | go_keep)
      (first
        | (refine step_append_sl _ (by rfl) _ _ _ (by rfl) wc.heap.size 5 i5 _ 1 Try.underlying32 hi5 hz50 hz51 hz52 rfl _ 0 [] (by rfl) (by exact own_empty (by omega) (heap_alloc_new _ _)) D (by exact (by repeat (with_reducible first | assumption | refine Keeps.drew ?_ | refine Keeps.drewN ?_ _ | refine Keeps.alloc ?_ _ | exact Grow.keeps (by assumption)))) _ _ _ _ (by rfl) hbs (bv_one _) (by unfold maxLen; omega) (by omega) (by first | omega | (simp; done) | (simp; omega)) ?_; intro sA sc w2 hownS hgrS hatS; have bX2 : Box w2 D g 26 #[.slice (some ⟨gr, 0, none⟩) n c1, .int .i64 l, .int .i64 t, .bool false] := Box.grown (by repeat (with_reducible first | assumption | refine Box.drew ?_ | refine Box.alloc ?_ _)) hgrS (fun e => by injection e with e; dsimp only at e; omega); obtain ⟨hcw, hfw⟩ := gcell hgrS; dsimp only at hcw hfw; have hx1 : w2.cell? ⟨gr, i, none⟩ = some u := (hcw gr i (by rw [World.size_drew, World.size_alloc]; omega) (by omega)).trans ((World.cell?_alloc_lt wc _ ⟨gr, i, none⟩ hlt).trans hu1); have hx2 : w2.frozen? ⟨gr, i, none⟩ = false := (hfw gr i (by rw [World.size_drew, World.size_alloc]; omega) (by omega)).trans ((World.frozen?_alloc_old wc _ ⟨gr, i, none⟩ (by dsimp only; omega)).trans hu2); clear hcw hfw))
    simp only [Nat.zero_add, List.nil_append] at hownS
    have hrow2 : w2.ownsRow w1.heap.size 32 1 (.slice (some ⟨gr, 0, none⟩) n c1) n vs := ((hownX.alloc _).drew).kept hgrS (.inr (fun e => by injection e with e; dsimp only at e; omega))
    have hnS : Value.ownBlock (.slice sA 128 sc) ≠ some gr := fun e => by
      rcases hatS with h | h
      · rw [Nat.zero_add] at h; rw [e] at h; injection h with h; dsimp only at h; omega
      · rw [Nat.zero_add] at h; rw [e] at h; injection h with h; rw [World.size_drew, World.size_alloc] at h; omega
    have hS3 := own_far2 (o := i) (u := .slice sA 128 sc) hnS hownS
    have hR3 := own_set hrow2 i (.slice sA 128 sc)
    have hB2 : Below w1.heap.size w1 w2 := ((hb2.alloc hb2.size _).drew).grown hgrS (by simp; have := hb2.size; omega) (fun k e => by injection e with e; subst e; exact hb2.size)
    have hB3 : Below w1.heap.size w1 (w2.setCell ⟨gr, i, none⟩ (.slice sA 128 sc)) := hB2.setCell (p := ⟨gr, i, none⟩) hge _
    have bX3 := Box.far2 (o := i) (u := .slice sA 128 sc) hgr bX2
    have bd3 := bd.below hB3 bd.lt
    have bx3 := bx.below hB3 bx.lt
    have hgx : w.heap.size + 1 ≠ g := by omega
    have hgx' : g ≠ w.heap.size + 1 := by omega
    have hnSg := bX3.ne_own hS3 (by decide)
    have hnRg := bX3.ne_own hR3 (by decide)
    have hnSx := bx3.ne_own hS3 (by decide)
    have hnRx := bx3.ne_own hR3 (by decide)
    have bw3 := belowVia hB3 bw1
    have qX3 := bX3.cell
    have fX3 := bX3.frozen
    have qd3 := bd3.cell
    have qx3 := bx3.cell
    have fx3 := bx3.frozen
    have hlt3 := bx3.lt
    have HS := Lib.hid (And.intro hS3 hR3)
    clear hS3 hR3 hownS hrow2 qX0 hx1 hx2 hu1 hu2 hatS hgrS
    generalize w2.setCell ⟨gr, i, none⟩ (.slice sA 128 sc) = w3 at *
    have hkk : (decide (0 < l) = true ∧ l - 1 = l') ∨ (decide (0 < l) = false ∧ l = l') := by
      have := HL.out.2.2.2.2.1
      subst this
      split
      · left; simp; omega
      · right; simp; omega
    rcases hkk with ⟨gl, rfl⟩ | ⟨gl, rfl⟩
    · go_wp2
      obtain ⟨hS3, hR3⟩ := HS.out
      obtain ⟨D', hG, hSS⟩ := fin_res (a := .slice (some ⟨gr, 0, none⟩) n c1) (b := .int .i64 (l - 1)) (c := .int .i64 t) (d := .bool false) hk (belowSet2 (o := 1) (u := .int .i64 (l - 1)) (b := g) (by omega) bw3) (own_far2 hnSg hS3) (Nat.le_trans bw1.size hb2.size) (own_far2 hnRg hR3) bw1.size hnSx hnRx HL.out.2.2.2.2.2.1 HL.out.2.2.2.2.2.2
      exact bodyPost_ret (v := .tuple #[.agg #[.slice (some ⟨gr, 0, none⟩) n c1, .int .i64 (l - 1), .int .i64 t, .bool false], .int .i64 0]) (by simp [results, Try.results21, go_sem, qx3]) rfl ⟨_, n, c1, D', rfl, hG, hSS⟩
    · go_wp2
      obtain ⟨hS3, hR3⟩ := HS.out
      obtain ⟨D', hG, hSS⟩ := fin_res (a := .slice (some ⟨gr, 0, none⟩) n c1) (b := .int .i64 l) (c := .int .i64 t) (d := .bool false) hk bw3 hS3 (Nat.le_trans bw1.size hb2.size) hR3 bw1.size hnSx hnRx HL.out.2.2.2.2.2.1 HL.out.2.2.2.2.2.2
      exact bodyPost_ret (v := .tuple #[.agg #[.slice (some ⟨gr, 0, none⟩) n c1, .int .i64 l, .int .i64 t, .bool false], .int .i64 0]) (by simp [results, Try.results21, go_sem, qx3]) rfl ⟨_, n, c1, D', rfl, hG, hSS⟩
end Go.Proofs.Ytegkmkglagmdiaa
