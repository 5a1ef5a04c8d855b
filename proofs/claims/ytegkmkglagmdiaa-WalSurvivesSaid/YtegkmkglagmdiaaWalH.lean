/-
  What is proved here: records and begin, walked
-/
import Derived.Test.YtegkmkglagmdiaaRows
import Derived.Test.YtegkmkglagmdiaaBaseB
import Derived.Test.YtegkmkglagmdiaaCrc
import Derived.Test.YtegkmkglagmdiaaWalP
import Derived.Test.YtegkmkglagmdiaaWalA
import Derived.Test.YtegkmkglagmdiaaWalB
import Derived.Test.YtegkmkglagmdiaaWalC
import Derived.Test.YtegkmkglagmdiaaWalD
import Derived.Test.YtegkmkglagmdiaaWalE
import Derived.Test.YtegkmkglagmdiaaDiskF
import Derived.Test.YtegkmkglagmdiaaWalF
import Derived.Test.YtegkmkglagmdiaaRangeF
import Derived.Test.YtegkmkglagmdiaaWalG
import Derived.OwnWalkIn
import Derived.TacticsInMore
import Derived.LoopNIn
import Derived.LoopIn
import Derived.Scope
import Derived.Shelf.Abstract
import Derived.RangeFuncCalls
import Derived.Laws.BitsAllLaws
import Derived.Deep.RegionHeld3
import Derived.Deep.RegionLaw
import Derived.Deep.DeepCutAuto
import Derived.Deep.QuietTactic
import Derived.BigQuiet
import Derived.Laws.EntriesVeiled
import Derived.Deep.MidRow
import Derived.Laws.CopyRow
namespace Go.Proofs.Ytegkmkglagmdiaa
open Go.RowKit Go.VS
theorem str_beq (x y : List UInt8) : ((str x).toList == (str y).toList) = decide (x = y) := by
  rw [ByteArray.toList_eq, ByteArray.toList_eq]
  by_cases h : x = y
  · subst h; simp
  · rw [decide_eq_false h, beq_eq_false_iff_ne]
    exact h
set_option maxHeartbeats 1000000 in
theorem equal_c (A B : Option Addr) (n c m k : Nat) (x y : List UInt8) (D : Gh) (w : World) (hk : Keeps D w) (hx : BS D (.slice A n c) x) (hy : BS D (.slice B m k) y) :
    Calls Try.prog 67 #[.slice A n c, .slice B m k] w fun e w' => e = .returned (.bool (decide (x = y))) ∧ w' = w := by
  have e1 := run_string_bs (P := Try.prog) hk Try.underlying32 Try.underlying5 Try.underlying9 hx
  have e2 := run_string_bs (P := Try.prog) hk Try.underlying32 Try.underlying5 Try.underlying9 hy
  have hb := str_beq x y
  go_enter Try.func67, Try.ntmps67
  go_wp2
  go_ret
  exact ⟨rfl, rfl⟩
/-- records: the function over the sectors. -/
theorem records_c (A : Option Addr) (n c : Nat) (D : Gh) (w : World) (hk : Keeps D w) :
    Calls Try.prog 57 #[.slice A n c] w fun e w' => ∃ B D', e = .returned (.func (.func 64) #[] #[.pointer (some ⟨B, 0, none⟩)]) ∧ Grow w D w' D' ∧ D' B 0 = some (.slice A n c) := by
  obtain ⟨D1, hg, hat, _⟩ := box_pub hk 24 #[.slice A n c]
  have HAT := Lib.hid (hat 0 _ rfl)
  clear hat
  go_enter Try.func57, Try.ntmps57
  go_wp2
  go_ret
  exact ⟨w.heap.size, D1, rfl, hg, HAT.out⟩
theorem keepsPut {D : Gh} {W : World} (h : Keeps D W) {l : Nat} {o : Obj} (o' : Obj) (hl : W.heap[l]? = some o) (ho : o.isCells = false) : Keeps D (W.putObj l o') := fun b i v e => by
  have hc := h b i v e
  obtain ⟨ob, hb, hcc⟩ := cells_of_cell hc
  have hne : b ≠ l := by rintro rfl; rw [show W.heap[b]? = _ from hb] at hl; cases hl; rw [hcc] at ho; cases ho
  exact (World.cell?_of_block (a := ⟨b, i, none⟩) (World.putObj_heap_other hne)).trans hc
theorem boxPut {W : World} {D : Gh} {g : Nat} {t : TypeId} {cs : Array Value} (h : Box W D g t cs) {l : Nat} {o : Obj} (o' : Obj) (hl : W.heap[l]? = some o) (ho : o.isCells = false) : Box (W.putObj l o') D g t cs :=
  ⟨(World.putObj_heap_other (by rintro rfl; rw [h.heap] at hl; cases hl; cases ho)).trans h.heap, h.off⟩
theorem belowPut {n l : Nat} {w W : World} (h : Below n w W) (hl : n ≤ l) (o' : Obj) : Below n w (W.putObj l o') :=
  ⟨h.os, h.tape, h.output, by simpa using h.size, fun i hi => (World.putObj_heap_other (by omega)).trans (h.block i hi)⟩
theorem prefix_len {a b : List (List UInt8)} (h : a <+: b) : a.length ≤ b.length := List.IsPrefix.length_le h
theorem prefix_snoc {pre rs : List (List UInt8)} {x : List UInt8} (h : pre <+: rs) : pre ++ [x] <+: rs ↔ rs[pre.length]? = some x := by
  obtain ⟨r, rfl⟩ := h
  rw [List.prefix_append_right_inj]
  cases r with
  | nil => simp
  | cons y r => simp [eq_comm]
theorem marks_ret {P : Program} {fn : Func} {R : Ending → World → Prop} {tmps : Array Value} {L : Nat} {W : World} {v : Value} (hWL : W.heap[L]? = some (.deferred (some [])))
    (hr : (results fn tmps).run P (W.putObj L (.deferred none)) = .ok v (W.putObj L (.deferred none))) (hR : R (.returned v) (W.putObj L (.deferred none))) :
    bodyPostM Fence.wide 0 P fn R .ret { tmps := tmps, defers := [{ target := .collected L, args := #[] }] } W :=
  ⟨by simp, .inl ⟨_, _, rfl, run_takeDeferred hWL, v, hr, hR⟩⟩
attribute [local go_sem] Oper.semAt_some
set_option maxRecDepth 100000 in
set_option maxHeartbeats 20000000 in
theorem begin_c (A1 : Option Addr) (n1 c1 : Nat) (rs : List (List UInt8)) (A : Option Addr) (n c : Nat) (xs : List (List UInt8)) (D : Gh) (w : World) (hk : Keeps D w) (hr : SS D (.slice A1 n1 c1) rs) (hs : SS D (.slice A n c) xs)
    (h128 : ∀ s ∈ xs, s.length = 128) (hn : n ≤ 65536) :
    Calls Try.prog 59 #[.slice A1 n1 c1, .slice A n c] w fun e w' => e = .returned (.bool (decide (scan 0 0 none xs = rs))) ∧ Below w.heap.size w w' := by
  obtain ⟨hrn, _, hcm1⟩ := hr.len
  unfold maxLen at hcm1
  have HR := Lib.hid hrn
  clear hrn
  have h0 := Box.new hk 24 #[.slice A1 n1 c1]
  have hk1 := hk.alloc (.cells #[.slice A1 n1 c1] 24)
  have h1 := Box.new hk1 4 #[.bool false]
  have hk2 := hk1.alloc (.cells #[.bool false] 4)
  have h2 := Box.new hk2 3 #[.int .i64 0]
  simp only [World.size_alloc] at h1 h2
  have hk3 := hk2.alloc (.cells #[.int .i64 0] 3)
  have hb3 : Below w.heap.size w (((w.alloc (.cells #[.slice A1 n1 c1] 24)).alloc (.cells #[.bool false] 4)).alloc (.cells #[.int .i64 0] 3)) := (by repeat (first | (with_reducible exact Below.refl _ _) | (with_reducible refine Below.drew ?_) | (with_reducible refine belowDrewN ?_ _) | (with_reducible refine belowAlloc ?_ _) | ((with_reducible refine belowSet2 ?_ ?_); omega) | (with_reducible assumption) | (with_reducible refine belowVia (by assumption) ?_) | (with_reducible refine belowVia (Grow.below (by assumption)) ?_)))
  have h0' := (h0.alloc (.cells #[.bool false] 4)).alloc (.cells #[.int .i64 0] 3)
  have h1' := h1.alloc (.cells #[.int .i64 0] 3)
  refine calls_of_marks Try.func59 rfl ?_
  simp only [Try.ntmps59, List.size_toArray, List.length_cons, List.length_nil, Nat.reduceAdd, Nat.reduceSub, Array.replicate_succ, Array.replicate_zero, List.push_toArray, List.append_toArray, List.nil_append, List.cons_append]
  go_wp2_with fail
  refine (records_c A n c D _ hk3).mono ?_
  rintro e w1 ⟨B, D1, rfl, hg, hB⟩
  have b0 := h0'.grow hg
  have b1 := h1'.grow hg
  have b2 := h2.grow hg
  have hb1 : Below w.heap.size w w1 := belowVia hg.below hb3
  have hsz : w.heap.size + 3 ≤ w1.heap.size := by have := hg.below.size; simp at this; omega
  have hr1 := hr.le hg.le
  have hs1 := hs.le hg.le
  have hk4 := hg.keeps
  clear h0 h1 h2 h0' h1' hb3 hk1 hk2 hk3 hg
  go_wp2_with fail
  have hseq := iter_c B A n c xs D1 hB hs1 h128 hn
  generalize hrec : scan 0 0 none xs = recs at *
  have HREC := Lib.hid hrec
  clear hrec
  refine wp_rangeFunc_bs (recs := recs) (D0 := D1) (D := D1) (gf := 64) (lb := #[.pointer (some ⟨B, 0, none⟩)]) rfl (enters_of Try.func64 (by kernel_rfl) rfl) hseq (Gh.le.refl _)
    (fun pre D' W => Keeps D' W ∧ D1.le D' ∧ Below w.heap.size w W ∧ Box W D' w.heap.size 24 #[.slice A1 n1 c1] ∧ Box W D' (w.heap.size + 1) 4 #[.bool false] ∧ Box W D' (w.heap.size + 1 + 1) 3 #[.int .i64 (pre.length : Nat)] ∧ pre <+: rs)
    (fun c pre D' W => c = .ret ∧ Below w.heap.size w W ∧ Box W D' (w.heap.size + 1) 4 #[.bool false] ∧ ¬ pre <+: rs)
    (fun s D W h => h.1)
    (fun s D W D' W' h hg => ⟨hg.keeps, h.2.1.trans hg.le, belowVia hg.below h.2.2.1, h.2.2.2.1.grow hg, h.2.2.2.2.1.grow hg, h.2.2.2.2.2.1.grow hg, h.2.2.2.2.2.2⟩)
    (fun s D W l o o' h hl ho hc => ⟨keepsPut h.1 o' ho hc, h.2.1, belowPut h.2.2.1 (by omega) o', boxPut h.2.2.2.1 o' ho hc, boxPut h.2.2.2.2.1 o' ho hc, boxPut h.2.2.2.2.2.1 o' ho hc, h.2.2.2.2.2.2⟩)
    (fun c s D W l o o' h hl ho hc => ⟨h.1, belowPut h.2.1 (by omega) o', boxPut h.2.2.1 o' ho hc, h.2.2.2⟩)
    ⟨hk4, Gh.le.refl _, hb1, b0, b1, b2, List.nil_prefix⟩
    (fun v => { tmps := #[.slice A1 n1 c1, .slice A n c, .pointer (some ⟨w.heap.size, 0, none⟩), undef, .pointer (some ⟨w.heap.size + 1, 0, none⟩), .pointer (some ⟨w.heap.size + 1 + 1, 0, none⟩), v, .slice A n c, .func (.func 64) #[] #[.pointer (some ⟨B, 0, none⟩)], v, undef, undef, undef, undef, undef, undef, undef, undef, undef, undef, undef, undef, undef, undef, undef, undef, undef, undef, undef], defers := [] })
    ?assign ?body ?done ?stop
  case assign =>
    intro l v W K hK
    gi_wp2
    exact hK
  case body =>
    rintro l pre x D2 v W ⟨hkW, hle, hbW, b0, b1, b2, hpre⟩ hpx hbs
    have hlen := prefix_len hpre
    have HPS := Lib.hid (prefix_snoc (x := x) hpre)
    have HLE := Lib.hid (show (pre ++ [x]).length = pre.length + 1 from by simp)
    have HPRE := Lib.hid hpre
    obtain ⟨ax, cx, rfl, hx1, hx2⟩ := hbs.form
    unfold maxLen at hx2
    clear hpre
    generalize hgp : pre.length = p at *
    have HGP := Lib.hid hgp
    clear hgp
    rw [← HR.out] at hlen
    have q0 : W.cell? ⟨w.heap.size, 0, none⟩ = some (.slice A1 n1 c1) := b0.cell 0
    have q1 : W.cell? ⟨w.heap.size + 1, 0, none⟩ = some (.bool false) := b1.cell 0
    have q2 : W.cell? ⟨w.heap.size + 1 + 1, 0, none⟩ = some (.int .i64 (p : Int)) := b2.cell 0
    have f1 : W.frozen? ⟨w.heap.size + 1, 0, none⟩ = false := b1.frozen 0
    have f2 : W.frozen? ⟨w.heap.size + 1 + 1, 0, none⟩ = false := b2.frozen 0
    generalize x.length = lx at *
    have hfn : Fence.wide.fn 67 := trivial
    have hdp : Fence.wide.depth = none := rfl
    by_cases hp : p = n1
    · have gp : ((p : Int) == (n1 : Int)) = true := by simp; omega
      have HNP := Lib.hid (show ¬ pre ++ [x] <+: rs from by
        rw [HPS.out, hp, HR.out]; simp)
      clear hp
      gi_wp2
      exact ⟨KeepsOthers.setCell _ _ _, D2, Gh.le.refl _, rfl, belowSet2 (by omega) hbW, b1.set_ 0 (.bool false), HNP.out⟩
    · have gp : ((p : Int) == (n1 : Int)) = false := by simp; omega
      obtain ⟨b, o, a', c', rfl, hcu, hbs2⟩ := (hr1.le hle).at_ hkW (k := p) (by rw [← HR.out]; omega)
      have hge : rs[p]? = some (rs[p]'(by rw [← HR.out]; omega)) := List.getElem?_eq_getElem _
      have HGE := Lib.hid hge
      generalize rs[p]'(by rw [← HR.out]; omega) = y at *
      have HEQ := Lib.hid (fun (W' : World) (hW' : Keeps D2 W') => equal_c _ _ _ _ _ _ x y D2 W' hW' hbs hbs2)
      have g1 : (p : Int) < (n1 : Int) := by omega
      have g0 : (0 : Int) ≤ (p : Int) := by omega
      clear hbs hbs2 hge
      generalize y.length = ly at *
      have hko := hkW
      clear hkW
      by_cases hxy : x = y
      · have HEQ2 := Lib.hid ((HEQ.out W hko).mono (fun e w' h => (⟨by rw [h.1, decide_eq_true hxy], h.2⟩ : e = .returned (.bool true) ∧ w' = W)))
        have HP2 := Lib.hid (show pre ++ [x] <+: rs from by rw [HPS.out, hxy]; exact HGE.out)
        clear hxy HEQ
        gi_wp2
        refine (CallsIn.inRound l (callsIn_wide.2 HEQ2.out)).mono ?_
        rintro e w' ⟨rfl, rfl⟩
        gi_wp2
        have b2' := b2.set_ 0 (.int .i64 ((p : Int) + 1))
        refine ⟨KeepsOthers.setCell _ _ _, D2, Gh.le.refl _, hko.setCell (p := ⟨w.heap.size + 1 + 1, 0, none⟩) b2.off _, hle, belowSet2 (by omega) hbW, b0.far (by simp; omega) _, b1.far (by simp) _, ?_, HP2.out⟩
        rw [HLE.out]
        exact b2'
      · have HEQ2 := Lib.hid ((HEQ.out W hko).mono (fun e w' h => (⟨by rw [h.1, decide_eq_false hxy], h.2⟩ : e = .returned (.bool false) ∧ w' = W)))
        have HNP := Lib.hid (show ¬ pre ++ [x] <+: rs from by rw [HPS.out, HGE.out]; simp; exact fun h => hxy h.symm)
        clear hxy HEQ
        gi_wp2
        refine (CallsIn.inRound l (callsIn_wide.2 HEQ2.out)).mono ?_
        rintro e w' ⟨rfl, rfl⟩
        gi_wp2
        exact ⟨KeepsOthers.setCell _ _ _, D2, Gh.le.refl _, rfl, belowSet2 (by omega) hbW, b1.set_ 0 (.bool false), HNP.out⟩
  case done =>
    rintro L D2 W ⟨hkW, hle, hbW, b0, b1, b2, hpre⟩ hle2 hL hWL
    have q0 : W.cell? ⟨w.heap.size, 0, none⟩ = some (.slice A1 n1 c1) := b0.cell 0
    have q2 : W.cell? ⟨w.heap.size + 1 + 1, 0, none⟩ = some (.int .i64 (recs.length : Nat)) := b2.cell 0
    have f1 : W.frozen? ⟨w.heap.size + 1, 0, none⟩ = false := b1.frozen 0
    have q1 : W.cell? ⟨w.heap.size + 1, 0, none⟩ = some (.bool false) := b1.cell 0
    have HRES := Lib.hid (show ((recs.length : Int) == (n1 : Int)) = decide (recs = rs) from by
      by_cases e : recs = rs
      · rw [decide_eq_true e, e, HR.out]; simp
      · rw [decide_eq_false e]
        have : ¬ recs.length = rs.length := fun h => e (List.IsPrefix.eq_of_length hpre h)
        rw [HR.out]; simp only [beq_eq_false_iff_ne]; omega)
    clear hpre hs1 hseq hr hs h128
    generalize hb : decide (recs = rs) = bres at *
    have HB := Lib.hid hb
    clear hb
    generalize recs.length = lr at *
    dsimp only
    have HRES2 := HRES.out
    go_wp2
    have hWL' := (KeepsOthers.setCell W ⟨w.heap.size + 1, 0, none⟩ (.bool bres)).same L _ hWL rfl
    have hc := (boxPut (b1.set_ 0 (.bool bres)) (.deferred none) hWL' rfl).cell 0
    have hc' : ((W.setCell ⟨w.heap.size + 1, 0, none⟩ (.bool bres)).putObj L (.deferred none)).cell? ⟨w.heap.size + 1, 0, none⟩ = some (.bool bres) := hc
    exact marks_ret hWL' (v := .bool bres) (by simp [results, Try.results59, go_sem, hc']) ⟨by rw [HREC.out, HB.out], belowPut (belowSet2 (by omega) hbW) (by omega) _⟩
  case stop =>
    rintro L c pre D2 W hpr ⟨rfl, hbW, b1, hnp⟩ hle2 hL hWL
    have hne : ¬ recs = rs := fun h => hnp (h ▸ hpr)
    dsimp only
    go_wp2
    have hc' : (W.putObj L (.deferred none)).cell? ⟨w.heap.size + 1, 0, none⟩ = some (.bool false) := (boxPut b1 (.deferred none) hWL rfl).cell 0
    exact marks_ret hWL (v := .bool false) (by simp [results, Try.results59, go_sem, hc']) ⟨by rw [HREC.out, decide_eq_false hne], belowPut hbW (by omega) _⟩
end Go.Proofs.Ytegkmkglagmdiaa
