/-
  What is proved here: the contract of the reference Write where the disk stops
-/
import Derived.Test.YtegkmkglagmdiaaRows
import Derived.Test.YtegkmkglagmdiaaDiskL
import Derived.Test.YtegkmkglagmdiaaBaseB
import Derived.Deep.RegionHeld3
import Derived.Deep.RegionLaw
import Derived.Deep.DeepCutAuto
import Derived.Deep.QuietTactic
import Derived.BigQuiet
import Derived.Laws.EntriesVeiled
namespace Go.Proofs.Ytegkmkglagmdiaa
open Go.RowKit Go.VS

set_option maxRecDepth 100000 in
set_option maxHeartbeats 4000000 in
theorem refWrite_torn (A : Option Addr) (n c i : Nat) (xs : List (List UInt8)) (t : Int) (bA : Option Addr) (bc : Nat) (bs : List UInt8) (D : Gh) (w : World) (hk : Keeps D w) (hs : SS D (.slice A n c) xs) (hbs : BS D (.slice bA 128 bc) bs)
    (hok : chk ⟨xs, 0, t, false⟩ = 0) (hix : i < xs.length) :
    Calls Try.prog 21 #[.agg #[.slice A n c, .int .i64 0, .int .i64 t, .bool false], .int .i64 i, .slice bA 128 bc] w fun e w' => ∃ a n' c' D', e = .returned (.tuple #[.agg #[.slice a n' c', .int .i64 0, .int .i64 t, .bool true], .int .i64 410]) ∧ Grow w D w' D' ∧ SS D' (.slice a n' c') (xs.set i (bs.take t.toNat ++ xs[i].drop t.toNat)) := by
  obtain ⟨hn, hnc, hcm⟩ := hs.len
  obtain ⟨hbn, hbnc, hbcm⟩ := hbs.len
  unfold maxLen at hcm hbcm
  obtain ⟨i5, hi5, hz50, hz51, hz52⟩ := info_parts info5
  obtain ⟨i3, hi3, hz30, hz31, hz32⟩ := info_parts info32
  obtain ⟨hn1, hn2, hlen, hl1, ht0, ht1, _⟩ := chk_len hok
  simp only at ht0 ht1 hn2
  obtain ⟨tn, rfl⟩ := Int.eq_ofNat_of_zero_le ht0
  clear hl1
  simp only [Int.toNat_natCast]
  have hin : i < n := by omega
  have hn4 : n ≤ 4096 := by omega
  have g2 : decide (n ≤ i) = false := by simp; omega
  obtain ⟨vs, hvs, hvl, hve⟩ := id hs
  have hone := SS.one hvl hve
  have HC := fun W hk => Lib.hid (refCheck_c A n c xs 0 tn false D W hk hs)
  have HL := Lib.hid (And.intro hlen (And.intro hn (And.intro hbn (And.intro hok (And.intro trivial (And.intro hvl hve))))))
  clear hlen hn hbn hok hn1 hn2 hvl hve
  go_enter Try.func21, Try.ntmps21
  go_wp2_with fail
  refine (HC _ (by repeat (with_reducible first | assumption | refine Keeps.drew ?_ | refine Keeps.drewN ?_ _ | refine Keeps.alloc ?_ _ | exact Grow.keeps (by assumption)))).out.mono ?_
  rintro e w1 ⟨rfl, hb1⟩
  rw [HL.out.2.2.2.1]
  have hk1 : Keeps D w1 := ((hk.alloc _).alloc _).below hb1 (Nat.le_refl _)
  have bd := ((Box.new hk 26 #[.slice A n c, .int .i64 0, .int .i64 tn, .bool false]).alloc _).below hb1 (by simp; omega)
  have bx := (Box.new (hk.alloc (.cells #[.slice A n c, .int .i64 0, .int .i64 tn, .bool false] 26)) 26 #[.slice none 0 0, .int .i64 0, .int .i64 0, .bool false]).below hb1 (by simp)
  simp only [World.size_alloc] at bx
  have hsz := bx.lt
  have bw1 : Below w.heap.size w w1 := (by repeat (first | (with_reducible exact Below.refl _ _) | (with_reducible refine Below.drew ?_) | (with_reducible refine belowDrewN ?_ _) | (with_reducible refine belowAlloc ?_ _) | ((with_reducible refine belowSet2 ?_ ?_); omega) | (with_reducible assumption) | (with_reducible refine belowVia (by assumption) ?_) | (with_reducible refine belowVia (Grow.below (by assumption)) ?_)))
  have q := bx.cell
  have f := bx.frozen
  have qd := bd.cell
  go_wp2_with fail
  go_cut [8] (fun x wx => ∃ (g : Nat) (A1 : Option Addr) (c1 : Nat), x = .pointer (some ⟨g, 0, none⟩) ∧ w1.heap.size ≤ g ∧ Box wx D g 26 #[.slice A1 n c1, .int .i64 0, .int .i64 tn, .bool false] ∧ wx.ownsRow w1.heap.size 32 1 (.slice A1 n c1) n vs ∧ Below w1.heap.size w1 wx)
  case first =>
    obtain ⟨q0, q1, q2, q3⟩ := bd.cells4
    have SH : Hid (∀ W, Box W D w.heap.size 26 #[.slice A n c, .int .i64 0, .int .i64 tn, .bool false] → (W.cell? ⟨w.heap.size, 0, none⟩ = some (.slice A n c) ∧ W.cell? ⟨w.heap.size, 1, none⟩ = some (.int .i64 0) ∧ W.cell? ⟨w.heap.size, 2, none⟩ = some (.int .i64 tn) ∧ W.cell? ⟨w.heap.size, 3, none⟩ = some (.bool false))) := fun W h => h.cells4
    clear q f qd
    go_region_held3 (fun w' => w'.cell? ⟨w.heap.size, 0, none⟩ = some (.slice A n c) ∧ w'.cell? ⟨w.heap.size, 1, none⟩ = some (.int .i64 0) ∧ w'.cell? ⟨w.heap.size, 2, none⟩ = some (.int .i64 tn) ∧ w'.cell? ⟨w.heap.size, 3, none⟩ = some (.bool false))
      (first | (refine SH.out _ ?_; (repeat (first | (with_reducible assumption) | (with_reducible refine Box.drew ?_) | (with_reducible refine Box.alloc ?_ _) | ((with_reducible refine Box.far2 ?_ ?_); omega))); done) | go_keep)
      (first
        | (refine step_append_sl _ (by rfl) _ _ _ (by rfl) w1.heap.size 32 i3 _ 24 Try.underlying24 hi3 hz30 hz31 hz32 rfl _ 0 [] (by rfl) (by exact own_empty (by omega) (by first | exact heap_alloc_new _ _ | exact heap_old2 _ _ _ | exact heap_new2 _ _ _)) D (by exact (by repeat (with_reducible first | assumption | refine Keeps.drew ?_ | refine Keeps.drewN ?_ _ | refine Keeps.alloc ?_ _ | exact Grow.keeps (by assumption)))) _ _ _ vs (by rfl) hvs hone (by unfold maxLen; omega) (by omega) (by first | omega | (simp; done) | (simp; omega)) ?_; intro A1 c1 w2 hown1 hgr1 hat1; have bd2 : Box w2 D w.heap.size 26 #[.slice A n c, .int .i64 0, .int .i64 tn, .bool false] := Box.grown (by repeat (with_reducible first | assumption | refine Box.drew ?_ | refine Box.alloc ?_ _)) hgr1 (fun e => by injection e with e; simp at e; omega); obtain ⟨hcw, hfw⟩ := gcell hgr1; dsimp only at hcw hfw))
    · go_wp2_with fail
      go_meet
      simp only [Nat.zero_add, List.nil_append] at hown1
      have hk2 : Keeps D w2 := ((hk1.alloc _).drew).grown hgr1 (fun g h => by injection h with h; subst h; exact hk1.offNew (Nat.le_refl _))
      have hb2 : Below w1.heap.size w1 w2 := (((Below.refl _ _).alloc (Nat.le_refl _) _).drew).grown hgr1 (by simp) (fun g h => by injection h with h; subst h; exact Nat.le_refl _)
      exact ⟨_, A1, c1, rfl, hb2.size, Box.new hk2 _ _, hown1.alloc _, belowAlloc hb2 _⟩
    · go_wp2_with fail
      go_meet
      simp only [Nat.zero_add, List.nil_append] at hown1
      rw [Nat.zero_add] at hat1
      have hB := (Box.new (hk1.alloc (.cells #[] 32)) 26 #[.slice none 0 0, .int .i64 0, .int .i64 0, .bool false]).drew
      rw [World.size_alloc] at hB
      have hat2 : Value.ownBlock (.slice A1 n c1) = some w1.heap.size ∨ Value.ownBlock (.slice A1 n c1) = some (((w1.alloc (.cells #[] 32)).alloc (.cells #[.slice none 0 0, .int .i64 0, .int .i64 0, .bool false] 26)).drew).heap.size := hat1
      exact ⟨_, A1, c1, rfl, by omega, fin_set (lit := w1.heap.size) hB hgr1 (by omega) hown1 hat2 (by repeat (first | (with_reducible exact Below.refl _ _) | (with_reducible refine Below.drew ?_) | (with_reducible refine belowDrewN ?_ _) | (with_reducible refine belowAlloc ?_ _) | ((with_reducible refine belowSet2 ?_ ?_); omega) | (with_reducible assumption) | (with_reducible refine belowVia (by assumption) ?_) | (with_reducible refine belowVia (Grow.below (by assumption)) ?_))) (Nat.le_refl _) (by omega) _ _ _ _⟩
    · go_wp2_with fail
      go_meet
      simp only [Nat.zero_add, List.nil_append] at hown1
      rw [Nat.zero_add] at hat1
      have hat2 : Value.ownBlock (.slice A1 n c1) = some (w1.heap.size + 1) ∨ Value.ownBlock (.slice A1 n c1) = some (((w1.alloc (.cells #[.slice none 0 0, .int .i64 0, .int .i64 0, .bool false] 26)).alloc (.cells #[] 32)).drew).heap.size := hat1
      exact ⟨_, A1, c1, rfl, by omega, fin_set (lit := w1.heap.size + 1) ((Box.new hk1 26 _).alloc _).drew hgr1 (by omega) hown1 hat2 (by repeat (first | (with_reducible exact Below.refl _ _) | (with_reducible refine Below.drew ?_) | (with_reducible refine belowDrewN ?_ _) | (with_reducible refine belowAlloc ?_ _) | ((with_reducible refine belowSet2 ?_ ?_); omega) | (with_reducible assumption) | (with_reducible refine belowVia (by assumption) ?_) | (with_reducible refine belowVia (Grow.below (by assumption)) ?_))) (by omega) (by omega) _ _ _ _⟩
  case rest =>
    obtain ⟨g, A1, c1, rfl, hgw, bX, hownX, hb2⟩ := hcut
    obtain ⟨gr, cap, hv, hge, hlt⟩ := hownX.form (by omega)
    cases hv
    clear q f qd
    have bd2 := bd.below hb2 bd.lt
    have bx2 := bx.below hb2 bx.lt
    have qd := bd2.cell
    have qX := bX.cell
    have fX := bX.frozen
    have hkx := hk1.below hb2 (Nat.le_refl _)
    obtain ⟨u, hu0, hu1, hu2⟩ := own_cell hownX hin
    have hgr : g ≠ gr := by
      rcases hownX.2 with ⟨h, _⟩ | ⟨g', cap', cur, h, _, hh, _⟩
      · cases h
      · cases h
        rintro rfl
        have := bX.heap.symm.trans hh
        injection this with this
        injection this with _ ht
        cases ht
    have hgr' : gr ≠ g := Ne.symm hgr
    have hgs := bX.lt
    have hi0 : (0 : Int) ≤ (i : Int) := by omega
    have hi1 : (i : Int) < (n : Int) := by omega
    obtain ⟨b, o, a', c2, rfl, hcell, hbi⟩ := hs.at_ hkx hix
    rw [HL.out.1 _ (List.getElem_mem hix)] at hcell hbi
    have hblt := World.block_lt_of_cell? wc _ hcell
    simp only at hblt
    obtain ⟨hbi1, hbi2, hbi3⟩ := hbi.len
    obtain ⟨b2, o2, ha2, hjunk⟩ := hbi.at_ (k := 0) hkx (by omega)
    clear hjunk
    subst ha2
    have htb : tn ≤ bc := by omega
    have htb' : (tn : Int) ≤ (bc : Int) := by omega
    have hbc0 : ¬ bc = 0 := by omega
    have ht128 : tn ≤ 128 := by omega
    have ht128' : (tn : Int) ≤ 128 := by omega
    have ht00 : (0 : Int) ≤ (tn : Int) := by omega
    have key : ∃ (tA : Option Addr), Sl D (.slice tA (128 - tn) (c2 - tn)) ((xs[i].map bv).drop tn) ∧ Hid (tA = if c2 = tn then some ⟨b2, o2, none⟩ else some ⟨b2, o2 + tn, none⟩) := by
      by_cases h : c2 = tn
      · refine ⟨_, ?_, rfl⟩
        rw [if_pos h, List.drop_eq_nil_of_le (by simp; omega), show 128 - tn = 0 by omega]
        exact Sl.none_ _ (by omega) (by simp)
      · refine ⟨_, ?_, rfl⟩
        rw [if_neg h]
        exact Sl.drop hbi ht128
    obtain ⟨tA, hsl2, htA⟩ := key
    have HB1 := Lib.hid hbi1
    clear hbi1
    go_wp2_with fail
    have SH : Hid (∀ W, Box W D g 26 #[.slice (some ⟨gr, 0, none⟩) n c1, .int .i64 0, .int .i64 tn, .bool false] → Box W D w.heap.size 26 #[.slice (some ⟨b, o, none⟩) n c, .int .i64 0, .int .i64 tn, .bool false] → W.cell? ⟨b, o + i, none⟩ = some (.slice (some ⟨b2, o2, none⟩) 128 c2) → (W.cell? ⟨g, 0, none⟩ = some (.slice (some ⟨gr, 0, none⟩) n c1) ∧ W.cell? ⟨w.heap.size, 0, none⟩ = some (.slice (some ⟨b, o, none⟩) n c) ∧ W.cell? ⟨w.heap.size, 2, none⟩ = some (.int .i64 tn) ∧ W.cell? ⟨b, o + i, none⟩ = some (.slice (some ⟨b2, o2, none⟩) 128 c2))) := fun W h h' h3 => ⟨h.cell 0, h'.cell 0, h'.cell 2, h3⟩
    obtain ⟨qX0, qX1, qX2, qX3⟩ := SH.out _ bX bd2 hcell
    clear qd qX fX
    have hbs2 := Sl.take hbs (k := tn) (by omega)
    have hbl1 : b < w1.heap.size := by
      obtain ⟨b', o', _, _, he, hc', _⟩ := hs.at_ hk1 hix
      cases he
      exact World.block_lt_of_cell? w1 _ hc'
    have hgrb : ¬ gr = b := by omega
    have hgrw : ¬ gr = w.heap.size := by omega
    rcases (show (c2 = tn ∧ tA = some ⟨b2, o2, none⟩) ∨ (¬ c2 = tn ∧ tA = some ⟨b2, o2 + tn, none⟩) by
      have := htA.out
      by_cases h : c2 = tn
      · left; rw [if_pos h] at this; exact ⟨h, this⟩
      · right; rw [if_neg h] at this; exact ⟨h, this⟩) with ⟨htc, rfl⟩ | ⟨htc, rfl⟩
    · obtain rfl : tn = c2 := htc.symm
      rw [show 128 - tn = 0 by omega, Nat.sub_self] at hsl2
      go_region_held3 (fun w' => w'.cell? ⟨g, 0, none⟩ = some (.slice (some ⟨gr, 0, none⟩) n c1) ∧ w'.cell? ⟨w.heap.size, 0, none⟩ = some (.slice (some ⟨b, o, none⟩) n c) ∧ w'.cell? ⟨w.heap.size, 2, none⟩ = some (.int .i64 tn) ∧ w'.cell? ⟨b, o + i, none⟩ = some (.slice (some ⟨b2, o2, none⟩) 128 tn))
        (first | (refine SH.out _ ?_ ?_ ?_ <;> first | ((repeat (first | (with_reducible assumption) | (with_reducible refine Box.drew ?_) | (with_reducible refine Box.alloc ?_ _) | ((with_reducible refine Box.far2 ?_ ?_); omega))); done) | (simp [*]; done) | (rw [World.cell?_setCell_other _ _ _ _ (fun e => hgrb (by injection e))]; assumption)) | go_keep)
        (first
          | (refine step_append_sl (o := ⟨some 52, _, _, _, _, _⟩) _ (by rfl) _ _ _ (by rfl) wc.heap.size 5 i5 _ 1 Try.underlying32 hi5 hz50 hz51 hz52 rfl _ 0 [] (by rfl) (by exact own_empty (by omega) (heap_alloc_new _ _)) D (by exact (by repeat (with_reducible first | assumption | refine Keeps.drew ?_ | refine Keeps.drewN ?_ _ | refine Keeps.alloc ?_ _ | exact Grow.keeps (by assumption)))) _ _ _ _ (by rfl) hbs2 (fun u hu => bv_one _ u (List.mem_of_mem_take hu)) (by unfold maxLen; omega) (by omega) (by first | omega | (simp; done) | (simp; omega)) ?_; intro sA sc w2 hownS hgrS hatS; have bX2 : Box w2 D g 26 #[.slice (some ⟨gr, 0, none⟩) n c1, .int .i64 0, .int .i64 tn, .bool false] := Box.grown (by repeat (with_reducible first | assumption | refine Box.drew ?_ | refine Box.alloc ?_ _)) hgrS (fun e => by injection e with e; dsimp only at e; omega); have bd4 : Box w2 D w.heap.size 26 #[.slice (some ⟨b, o, none⟩) n c, .int .i64 0, .int .i64 tn, .bool false] := Box.grown (by repeat (with_reducible first | assumption | refine Box.drew ?_ | refine Box.alloc ?_ _)) hgrS (fun e => by injection e with e; dsimp only at e; have := bd2.lt; omega); obtain ⟨hcw, hfw⟩ := gcell hgrS; dsimp only at hcw hfw; have hx1 : w2.cell? ⟨gr, i, none⟩ = some u := (hcw gr i (by rw [World.size_drew, World.size_alloc]; omega) (by omega)).trans ((World.cell?_alloc_lt wc _ ⟨gr, i, none⟩ hlt).trans hu1); have hx2 : w2.frozen? ⟨gr, i, none⟩ = false := (hfw gr i (by rw [World.size_drew, World.size_alloc]; omega) (by omega)).trans ((World.frozen?_alloc_old wc _ ⟨gr, i, none⟩ (by dsimp only; omega)).trans hu2); have hy1 : w2.cell? ⟨b, o + i, none⟩ = some (.slice (some ⟨b2, o2, none⟩) 128 tn) := (hcw b (o + i) (by rw [World.size_drew, World.size_alloc]; omega) (by omega)).trans ((World.cell?_alloc_lt wc _ ⟨b, o + i, none⟩ hblt).trans hcell); have hk2 : Keeps D w2 := Keeps.grown (by repeat (with_reducible first | assumption | refine Keeps.drew ?_ | refine Keeps.drewN ?_ _ | refine Keeps.alloc ?_ _ | exact Grow.keeps (by assumption))) hgrS (fun k e => by injection e with e; dsimp only at e; subst e; exact hkx.offNew (Nat.le_refl _)); clear hcw hfw)
          | (refine step_append_sl (o := ⟨some 61, _, _, _, _, _⟩) _ (by rfl) _ _ _ (by rfl) wc.heap.size 5 i5 _ 1 Try.underlying32 hi5 hz50 hz51 hz52 rfl _ _ _ (by rfl) hownS D hk2 _ _ _ _ (by rfl) hsl2 (fun u hu => bv_one _ u (List.mem_of_mem_drop hu)) (by unfold maxLen; omega) (by omega) (by have := hgrS.size; simp only [World.size_drew, World.size_alloc] at this; omega) ?_; intro rA rc w5 hownT hgrT hatT; have hsz2 : wc.heap.size ≤ w2.heap.size := (by have := hgrS.size; simp only [World.size_drew, World.size_alloc] at this; omega); have hoT : ∀ x, x < wc.heap.size → w5.heap[x]? = w2.heap[x]? := fun x hx => hgrT.block x (Nat.lt_of_lt_of_le hx hsz2) (fun e => by have h := (hownS.lt _ e.symm).1; omega); have bX5 : Box w5 D g 26 #[.slice (some ⟨gr, 0, none⟩) n c1, .int .i64 0, .int .i64 tn, .bool false] := ⟨(hoT _ hgs).trans bX2.heap, bX2.off⟩; have bd5 : Box w5 D w.heap.size 26 #[.slice (some ⟨b, o, none⟩) n c, .int .i64 0, .int .i64 tn, .bool false] := ⟨(hoT _ bd2.lt).trans bd4.heap, bd4.off⟩; have hx3 : w5.cell? ⟨gr, i, none⟩ = some u := (World.cell?_of_block (hoT gr hlt)).trans hx1; have hx4 : w5.frozen? ⟨gr, i, none⟩ = false := (World.frozen?_of_block (hoT gr hlt)).trans hx2; have hy2 : w5.cell? ⟨b, o + i, none⟩ = some (.slice (some ⟨b2, o2, none⟩) 128 tn) := (World.cell?_of_block (hoT b hblt)).trans hy1; clear hoT))
      have hsz2 : wc.heap.size ≤ w2.heap.size := (by have := hgrS.size; simp only [World.size_drew, World.size_alloc] at this; omega)
      have hoS : ∀ k, Value.ownBlock (.slice sA (0 + tn) sc) = some k → wc.heap.size ≤ k := fun k e => (hownS.lt k e).1
      rw [show 0 + tn + 0 = tn by omega] at hownT
      have hrow5 : w5.ownsRow w1.heap.size 32 1 (.slice (some ⟨gr, 0, none⟩) n c1) n vs := (((hownX.alloc _).drew).kept hgrS (.inr (fun e => by injection e with e; dsimp only at e; omega))).kept hgrT (.inr (fun e => by have h := hoS _ e.symm; dsimp only at h; omega))
      have hnT : Value.ownBlock (.slice rA tn rc) ≠ some gr := fun e => by have h := (hownT.lt _ e).1; omega
      have hS3 := own_far2 (o := i) (u := .slice rA tn rc) hnT hownT
      have hR3 := own_set hrow5 i (.slice rA tn rc)
      have hB2 : Below w1.heap.size w1 w2 := ((hb2.alloc hb2.size _).drew).grown hgrS (by simp; have := hb2.size; omega) (fun k e => by injection e with e; subst e; exact hb2.size)
      have hB5 : Below w1.heap.size w1 w5 := hB2.grown hgrT hB2.size (fun k e => by have h := hoS _ e; have := hb2.size; omega)
      have hB3 : Below w1.heap.size w1 (w5.setCell ⟨gr, i, none⟩ (.slice rA tn rc)) := hB5.setCell (p := ⟨gr, i, none⟩) hge _
      have bX3 := Box.far2 (o := i) (u := .slice rA tn rc) hgr bX5
      have bd3 := bd.below hB3 bd.lt
      have bx3 := bx.below hB3 bx.lt
      have hgx : w.heap.size + 1 ≠ g := by omega
      have hgx' : g ≠ w.heap.size + 1 := by omega
      have hnSg := bX3.ne_own hS3 (by decide)
      have hnRg := bX3.ne_own hR3 (by decide)
      have hnSx := bx3.ne_own hS3 (by decide)
      have hnRx := bx3.ne_own hR3 (by decide)
      have bw3 := belowVia hB3 bw1
      have qX3 := bX3.cell
      have fX3 := bX3.frozen
      have qx3 := bx3.cell
      have fx3 := bx3.frozen
      have hlt3 := bx3.lt
      have eT : [] ++ List.take tn (List.map bv bs) ++ List.drop tn (List.map bv xs[i]) = (bs.take tn ++ xs[i].drop tn).map bv := by
        rw [List.nil_append, List.map_append, List.map_take, List.map_drop]
      rw [eT] at hS3
      have HS := Lib.hid (And.intro hS3 hR3)
      clear hS3 hR3 hownS hownT hrow5 qX0 qX1 qX2 hx1 hx2 hx3 hx4 hu1 hu2 hatS hgrS hatT hgrT hy1 hy2 hcell hsl2 hbs2 hbi eT
      generalize w5.setCell ⟨gr, i, none⟩ (.slice rA tn rc) = w3 at *
      go_wp2
      obtain ⟨hS3, hR3⟩ := HS.out
      obtain ⟨D', hG, hSS⟩ := fin_res (a := .slice (some ⟨gr, 0, none⟩) n c1) (b := .int .i64 0) (c := .int .i64 tn) (d := .bool true) hk (belowSet2 (o := 3) (u := .bool true) (b := g) (by omega) bw3) (own_far2 hnSg hS3) (Nat.le_trans bw1.size hb2.size) (own_far2 hnRg hR3) bw1.size hnSx hnRx HL.out.2.2.2.2.2.1 HL.out.2.2.2.2.2.2
      exact bodyPost_ret (v := .tuple #[.agg #[.slice (some ⟨gr, 0, none⟩) n c1, .int .i64 0, .int .i64 tn, .bool true], .int .i64 410]) (by simp [results, Try.results21, go_sem, qx3]) rfl (by first | exact ⟨_, n, c1, D', rfl, hG, hSS⟩ | exact ⟨_, n, c1, rfl, D', hG, hSS⟩)
    · skip
      go_region_held3 (fun w' => w'.cell? ⟨g, 0, none⟩ = some (.slice (some ⟨gr, 0, none⟩) n c1) ∧ w'.cell? ⟨w.heap.size, 0, none⟩ = some (.slice (some ⟨b, o, none⟩) n c) ∧ w'.cell? ⟨w.heap.size, 2, none⟩ = some (.int .i64 tn) ∧ w'.cell? ⟨b, o + i, none⟩ = some (.slice (some ⟨b2, o2, none⟩) 128 c2))
        (first | (refine SH.out _ ?_ ?_ ?_ <;> first | ((repeat (first | (with_reducible assumption) | (with_reducible refine Box.drew ?_) | (with_reducible refine Box.alloc ?_ _) | ((with_reducible refine Box.far2 ?_ ?_); omega))); done) | (simp [*]; done) | (rw [World.cell?_setCell_other _ _ _ _ (fun e => hgrb (by injection e))]; assumption)) | go_keep)
        (first
          | (refine step_append_sl (o := ⟨some 52, _, _, _, _, _⟩) _ (by rfl) _ _ _ (by rfl) wc.heap.size 5 i5 _ 1 Try.underlying32 hi5 hz50 hz51 hz52 rfl _ 0 [] (by rfl) (by exact own_empty (by omega) (heap_alloc_new _ _)) D (by exact (by repeat (with_reducible first | assumption | refine Keeps.drew ?_ | refine Keeps.drewN ?_ _ | refine Keeps.alloc ?_ _ | exact Grow.keeps (by assumption)))) _ _ _ _ (by rfl) hbs2 (fun u hu => bv_one _ u (List.mem_of_mem_take hu)) (by unfold maxLen; omega) (by omega) (by first | omega | (simp; done) | (simp; omega)) ?_; intro sA sc w2 hownS hgrS hatS; have bX2 : Box w2 D g 26 #[.slice (some ⟨gr, 0, none⟩) n c1, .int .i64 0, .int .i64 tn, .bool false] := Box.grown (by repeat (with_reducible first | assumption | refine Box.drew ?_ | refine Box.alloc ?_ _)) hgrS (fun e => by injection e with e; dsimp only at e; omega); have bd4 : Box w2 D w.heap.size 26 #[.slice (some ⟨b, o, none⟩) n c, .int .i64 0, .int .i64 tn, .bool false] := Box.grown (by repeat (with_reducible first | assumption | refine Box.drew ?_ | refine Box.alloc ?_ _)) hgrS (fun e => by injection e with e; dsimp only at e; have := bd2.lt; omega); obtain ⟨hcw, hfw⟩ := gcell hgrS; dsimp only at hcw hfw; have hx1 : w2.cell? ⟨gr, i, none⟩ = some u := (hcw gr i (by rw [World.size_drew, World.size_alloc]; omega) (by omega)).trans ((World.cell?_alloc_lt wc _ ⟨gr, i, none⟩ hlt).trans hu1); have hx2 : w2.frozen? ⟨gr, i, none⟩ = false := (hfw gr i (by rw [World.size_drew, World.size_alloc]; omega) (by omega)).trans ((World.frozen?_alloc_old wc _ ⟨gr, i, none⟩ (by dsimp only; omega)).trans hu2); have hy1 : w2.cell? ⟨b, o + i, none⟩ = some (.slice (some ⟨b2, o2, none⟩) 128 c2) := (hcw b (o + i) (by rw [World.size_drew, World.size_alloc]; omega) (by omega)).trans ((World.cell?_alloc_lt wc _ ⟨b, o + i, none⟩ hblt).trans hcell); have hk2 : Keeps D w2 := Keeps.grown (by repeat (with_reducible first | assumption | refine Keeps.drew ?_ | refine Keeps.drewN ?_ _ | refine Keeps.alloc ?_ _ | exact Grow.keeps (by assumption))) hgrS (fun k e => by injection e with e; dsimp only at e; subst e; exact hkx.offNew (Nat.le_refl _)); clear hcw hfw)
          | (refine step_append_sl (o := ⟨some 61, _, _, _, _, _⟩) _ (by rfl) _ _ _ (by rfl) wc.heap.size 5 i5 _ 1 Try.underlying32 hi5 hz50 hz51 hz52 rfl _ _ _ (by rfl) hownS D hk2 _ _ _ _ (by rfl) hsl2 (fun u hu => bv_one _ u (List.mem_of_mem_drop hu)) (by unfold maxLen; omega) (by omega) (by have := hgrS.size; simp only [World.size_drew, World.size_alloc] at this; omega) ?_; intro rA rc w5 hownT hgrT hatT; have hsz2 : wc.heap.size ≤ w2.heap.size := (by have := hgrS.size; simp only [World.size_drew, World.size_alloc] at this; omega); have hoT : ∀ x, x < wc.heap.size → w5.heap[x]? = w2.heap[x]? := fun x hx => hgrT.block x (Nat.lt_of_lt_of_le hx hsz2) (fun e => by have h := (hownS.lt _ e.symm).1; omega); have bX5 : Box w5 D g 26 #[.slice (some ⟨gr, 0, none⟩) n c1, .int .i64 0, .int .i64 tn, .bool false] := ⟨(hoT _ hgs).trans bX2.heap, bX2.off⟩; have bd5 : Box w5 D w.heap.size 26 #[.slice (some ⟨b, o, none⟩) n c, .int .i64 0, .int .i64 tn, .bool false] := ⟨(hoT _ bd2.lt).trans bd4.heap, bd4.off⟩; have hx3 : w5.cell? ⟨gr, i, none⟩ = some u := (World.cell?_of_block (hoT gr hlt)).trans hx1; have hx4 : w5.frozen? ⟨gr, i, none⟩ = false := (World.frozen?_of_block (hoT gr hlt)).trans hx2; have hy2 : w5.cell? ⟨b, o + i, none⟩ = some (.slice (some ⟨b2, o2, none⟩) 128 c2) := (World.cell?_of_block (hoT b hblt)).trans hy1; clear hoT))
      have hsz2 : wc.heap.size ≤ w2.heap.size := (by have := hgrS.size; simp only [World.size_drew, World.size_alloc] at this; omega)
      have hoS : ∀ k, Value.ownBlock (.slice sA (0 + tn) sc) = some k → wc.heap.size ≤ k := fun k e => (hownS.lt k e).1
      rw [show 0 + tn + (128 - tn) = 128 by omega] at hownT
      have hrow5 : w5.ownsRow w1.heap.size 32 1 (.slice (some ⟨gr, 0, none⟩) n c1) n vs := (((hownX.alloc _).drew).kept hgrS (.inr (fun e => by injection e with e; dsimp only at e; omega))).kept hgrT (.inr (fun e => by have h := hoS _ e.symm; dsimp only at h; omega))
      have hnT : Value.ownBlock (.slice rA 128 rc) ≠ some gr := fun e => by have h := (hownT.lt _ e).1; omega
      have hS3 := own_far2 (o := i) (u := .slice rA 128 rc) hnT hownT
      have hR3 := own_set hrow5 i (.slice rA 128 rc)
      have hB2 : Below w1.heap.size w1 w2 := ((hb2.alloc hb2.size _).drew).grown hgrS (by simp; have := hb2.size; omega) (fun k e => by injection e with e; subst e; exact hb2.size)
      have hB5 : Below w1.heap.size w1 w5 := hB2.grown hgrT hB2.size (fun k e => by have h := hoS _ e; have := hb2.size; omega)
      have hB3 : Below w1.heap.size w1 (w5.setCell ⟨gr, i, none⟩ (.slice rA 128 rc)) := hB5.setCell (p := ⟨gr, i, none⟩) hge _
      have bX3 := Box.far2 (o := i) (u := .slice rA 128 rc) hgr bX5
      have bd3 := bd.below hB3 bd.lt
      have bx3 := bx.below hB3 bx.lt
      have hgx : w.heap.size + 1 ≠ g := by omega
      have hgx' : g ≠ w.heap.size + 1 := by omega
      have hnSg := bX3.ne_own hS3 (by decide)
      have hnRg := bX3.ne_own hR3 (by decide)
      have hnSx := bx3.ne_own hS3 (by decide)
      have hnRx := bx3.ne_own hR3 (by decide)
      have bw3 := belowVia hB3 bw1
      have qX3 := bX3.cell
      have fX3 := bX3.frozen
      have qx3 := bx3.cell
      have fx3 := bx3.frozen
      have hlt3 := bx3.lt
      have eT : [] ++ List.take tn (List.map bv bs) ++ List.drop tn (List.map bv xs[i]) = (bs.take tn ++ xs[i].drop tn).map bv := by
        rw [List.nil_append, List.map_append, List.map_take, List.map_drop]
      rw [eT] at hS3
      have HS := Lib.hid (And.intro hS3 hR3)
      clear hS3 hR3 hownS hownT hrow5 qX0 qX1 qX2 hx1 hx2 hx3 hx4 hu1 hu2 hatS hgrS hatT hgrT hy1 hy2 hcell hsl2 hbs2 hbi eT
      generalize w5.setCell ⟨gr, i, none⟩ (.slice rA 128 rc) = w3 at *
      go_wp2
      obtain ⟨hS3, hR3⟩ := HS.out
      obtain ⟨D', hG, hSS⟩ := fin_res (a := .slice (some ⟨gr, 0, none⟩) n c1) (b := .int .i64 0) (c := .int .i64 tn) (d := .bool true) hk (belowSet2 (o := 3) (u := .bool true) (b := g) (by omega) bw3) (own_far2 hnSg hS3) (Nat.le_trans bw1.size hb2.size) (own_far2 hnRg hR3) bw1.size hnSx hnRx HL.out.2.2.2.2.2.1 HL.out.2.2.2.2.2.2
      exact bodyPost_ret (v := .tuple #[.agg #[.slice (some ⟨gr, 0, none⟩) n c1, .int .i64 0, .int .i64 tn, .bool true], .int .i64 410]) (by simp [results, Try.results21, go_sem, qx3]) rfl (by first | exact ⟨_, n, c1, D', rfl, hG, hSS⟩ | exact ⟨_, n, c1, rfl, D', hG, hSS⟩)
end Go.Proofs.Ytegkmkglagmdiaa
