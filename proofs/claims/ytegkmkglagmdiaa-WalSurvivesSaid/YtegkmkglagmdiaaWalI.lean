/-
  What is proved here: Open, walked
-/
import Derived.Test.YtegkmkglagmdiaaRows
import Derived.Test.YtegkmkglagmdiaaBaseB
import Derived.Test.YtegkmkglagmdiaaCrc
import Derived.Test.YtegkmkglagmdiaaWalP
import Derived.Test.YtegkmkglagmdiaaWalA
import Derived.Test.YtegkmkglagmdiaaWalB
import Derived.Test.YtegkmkglagmdiaaWalC
import Derived.Test.YtegkmkglagmdiaaWalD
import Derived.Test.YtegkmkglagmdiaaWalE
import Derived.Test.YtegkmkglagmdiaaDiskF
import Derived.Test.YtegkmkglagmdiaaWalF
import Derived.Test.YtegkmkglagmdiaaRangeF
import Derived.Test.YtegkmkglagmdiaaWalG
import Derived.Test.YtegkmkglagmdiaaWalH
import Derived.OwnWalkIn
import Derived.TacticsInMore
import Derived.LoopNIn
import Derived.LoopIn
import Derived.Scope
import Derived.Shelf.Abstract
import Derived.RangeFuncCalls
import Derived.Laws.BitsAllLaws
import Derived.Deep.RegionHeld3
import Derived.Deep.RegionLaw
import Derived.Deep.DeepCutAuto
import Derived.Deep.QuietTactic
import Derived.BigQuiet
import Derived.Laws.EntriesVeiled
import Derived.Deep.MidRow
import Derived.Laws.CopyRow
namespace Go.Proofs.Ytegkmkglagmdiaa
open Go.RowKit Go.VS
theorem wpListIn_append_one {F : Fence} {m : Nat} {P : Program} {w : World} {ops : Array Oper} {rest : List Oper} {o : Oper} {a : Act} {Q : Exit → Act → World → Prop} (hgd : o.guard = none) (s x : Operand) (t : TypeId)
    (ho : o.op = .call { callee := .builtin .append, args := #[s, x], argTypes := #[t, t] })
    (base : Nat) (e : TypeId) (i : TypeInfo) (z : Value) (bytes : Nat) (ht : P.underlying t = some (.slice e)) (hi : P.info? e = some i) (hz : i.zero = some z)
    (hsize : i.size = 1) (hby : i.bytes = bytes) (hzs : z.cells.size = 1)
    (v : Value) (n : Nat) (xs : List Value) (hs : a.eval s = v) (hown : w.ownsRow base e 1 v n xs)
    (g0 : Nat) (x0 : Value) (hx : a.eval x = .slice (some ⟨g0, 0, none⟩) 1 1) (hb : w.heap[g0]? = some (.cells #[x0] e (0, 0))) (h1 : x0.oneCell' = true)
    (h63 : n + 1 ≤ maxLen) (hbytes : (n + 1) * bytes ≤ 140737488355328) (hbase : base ≤ w.heap.size)
    (h : ∀ A' cap' w', w'.ownsRow base e 1 (.slice A' (n + 1) cap') (n + 1) (xs ++ [x0]) → w.grownBy w' v.ownBlock → (Value.ownBlock (.slice A' (n + 1) cap') = v.ownBlock ∨ Value.ownBlock (.slice A' (n + 1) cap') = some w.heap.size) → wpListIn F m P ops Q rest (a.put o.dst (.slice A' (n + 1) cap')) w') : wpListIn F m P ops Q (o :: rest) a w := by
  obtain ⟨D, hk, hsl⟩ := one_sl hb
  obtain ⟨A', cap', w', hrun, r1, r2, r3⟩ := run_append_sl (P := P) w base t o.type e i z bytes ht hi hz hsize hby hzs v n xs hown D hk _ 1 1 [x0] hsl (by simpa using h1) h63 hbytes hbase
  refine wpListIn_plain hgd fun K hK' => ?_
  unfold Oper.wpIn
  refine ⟨?_, ?_⟩
  · simp [Oper.about, ho, resolve, Target.leads, Sem.run_pure]
  · rw [Oper.semAt_plain F _ _ (by rw [ho]; intro c hc'; cases hc')]
    simp [execOp, ho, resolve, invoke, builtin, hs, hx, hrun, Result.andThen]
    exact hK' _ _ (h A' cap' w' r1 r2 r3)
theorem growPut {w W : World} {D D' : Gh} (h : Grow w D W D') {l : Nat} {o : Obj} (o' : Obj) (hl : W.heap[l]? = some o) (ho : o.isCells = false) (hw : w.heap.size ≤ l) : Grow w D (W.putObj l o') D' :=
  ⟨belowPut h.below hw o', keepsPut h.keeps o' hl ho, h.le, h.old⟩
theorem ownPut {W : World} {base size n l : Nat} {e : TypeId} {v : Value} {vs : List Value} (h : W.ownsRow base e size v n vs) {o : Obj} (o' : Obj) (hl : W.heap[l]? = some o) (ho : o.isCells = false) : (W.putObj l o').ownsRow base e size v n vs := by
  refine ⟨h.1, ?_⟩
  rcases h.2 with ⟨rfl, h0⟩ | ⟨g, cap, cur, rfl, hg, hgb, rest⟩
  · exact .inl ⟨rfl, h0⟩
  · refine .inr ⟨g, cap, cur, rfl, hg, (World.putObj_heap_other (fun e' => ?_)).trans hgb, rest⟩
    subst e'; rw [hgb] at hl; cases hl; cases ho
theorem ss_snoc {D D' : Gh} {pre : List (List UInt8)} {vs : List Value} {x : List UInt8} {v : Value} (hl : vs.length = pre.length) (h : ∀ (j : Nat) y u, pre[j]? = some y → vs[j]? = some u → BS D u y) (hd : D.le D') (hx : BS D' v x) :
    ∀ (j : Nat) y u, (pre ++ [x])[j]? = some y → (vs ++ [v])[j]? = some u → BS D' u y := by
  intro j y u h1 h2
  by_cases hj : j < pre.length
  · rw [List.getElem?_append_left hj] at h1
    rw [List.getElem?_append_left (by omega)] at h2
    exact (h j y u h1 h2).le hd
  · rw [List.getElem?_append_right (by omega)] at h1 h2
    rw [hl] at h2
    cases hk : j - pre.length with
    | zero => rw [hk] at h1 h2; simp at h1 h2; rw [← h1, ← h2]; exact hx
    | succ m => rw [hk] at h1; simp at h1
theorem SS.slice {D : Gh} {b o n c : Nat} {xs : List (List UInt8)} (h : SS D (.slice (some ⟨b, o, none⟩) n c) xs) (f m : Nat) (hf : f + m ≤ n) : SS D (.slice (some ⟨b, o + f, none⟩) m (c - f)) ((xs.drop f).take m) := by
  obtain ⟨vs, hs, hl, he⟩ := h
  refine ⟨(vs.drop f).take m, (hs.drop (by omega)).take (by omega), by rw [List.length_take, List.length_take, List.length_drop, List.length_drop, hl], fun j x u h1 h2 => ?_⟩
  rw [List.getElem?_take] at h1 h2
  split at h1
  · rw [if_pos (by assumption)] at h2
    rw [List.getElem?_drop] at h1 h2
    exact he _ _ _ h1 h2
  · cases h1
theorem scan_length : ∀ (ys : List (List UInt8)) (k last : Nat) (cur : Option (List UInt8)), (scan k last cur ys).length ≤ ys.length
  | [], _, _, none => by simp [scan]
  | [], _, _, some _ => by simp [scan]
  | s :: r, k, last, none => by
    rw [scan]
    split
    · split
      · have := scan_length r (k + 1) (num4 s) none; simp; exact this
      · have := scan_length r (k + 1) (num4 s) (some (dataS s)); simp; omega
    · simp
  | s :: r, k, last, some b => by
    rw [scan]
    split
    · split
      · have := scan_length r (k + 1) last none; simp; exact this
      · have := scan_length r (k + 1) last (some (b ++ dataS s)); simp; omega
    · simp
theorem own_cells {W : World} {base size n : Nat} {e : TypeId} {v : Value} {vs : List Value} (h : W.ownsRow base e size v n vs) (j : Nat) (o : Obj) (hj : v.ownBlock = some j) (ho : W.heap[j]? = some o) : o.isCells = true := by
  rcases h.2 with ⟨rfl, h0⟩ | ⟨g, cap, cur, rfl, hg, hgb, rest⟩
  · simp [Value.ownBlock] at hj
  · obtain rfl : g = j := by simpa [Value.ownBlock] using hj
    rw [hgb] at ho; cases ho; rfl
attribute [local go_sem] Oper.semAt_some
set_option maxRecDepth 100000 in
set_option maxHeartbeats 20000000 in
theorem open_ok (A : Option Addr) (n c : Nat) (xs : List (List UInt8)) (l t : Int) (f m : Nat) (D : Gh) (w : World) (hk : Keeps D w) (hs : SS D (.slice A n c) xs)
    (hok : chk ⟨xs, l, t, false⟩ = 0) (hm : 1 ≤ m) (hfm : f + m ≤ n) :
    Calls Try.prog 43 #[.agg #[.slice A n c, .int .i64 l, .int .i64 t, .bool false], .int .i64 f, .int .i64 m] w fun e w' => ∃ A' c' D', e = .returned (.tuple #[.agg #[.int .i64 f, .int .i64 m, .slice A' (scan 0 0 none ((xs.drop f).take m)).length c', .int .i64 ((scan 0 0 none ((xs.drop f).take m)).length : Nat)], .int .i64 0]) ∧
      Grow w D w' D' ∧ SS D' (.slice A' (scan 0 0 none ((xs.drop f).take m)).length c') (scan 0 0 none ((xs.drop f).take m)) := by
  obtain ⟨hxn, hnc, hcm⟩ := hs.len
  unfold maxLen at hcm
  obtain ⟨hn1, hn2, hlen, _⟩ := chk_len hok
  simp only at hn1 hn2 hlen
  rw [← hxn] at hn1 hn2
  obtain ⟨b, o, rfl⟩ : ∃ b o, A = some ⟨b, o, none⟩ := by
    obtain ⟨b, o, _, _, e, _⟩ := hs.at_ hk (k := 0) (by omega)
    exact ⟨b, o, e⟩
  have hsub := SS.slice hs f m hfm
  have h128 : ∀ s ∈ (xs.drop f).take m, s.length = 128 := fun s h => hlen s (List.mem_of_mem_drop (List.mem_of_mem_take h))
  have HK := Lib.hid hok
  have HC := Lib.hid (fun W (hW : Keeps D W) => check_c (some ⟨b, o, none⟩) n c xs l t false D W hW hs)
  have HSUB := Lib.hid hsub
  have H128 := Lib.hid h128
  obtain ⟨i3, hi3, hz30, hz31, hz32⟩ := info_parts info32
  clear hlen h128 hxn hok
  generalize (xs.drop f).take m = ys at *
  have hk1 := hk.alloc (.cells #[.slice (some ⟨b, o, none⟩) n c, .int .i64 l, .int .i64 t, .bool false] 26)
  have h0 := Box.new hk 26 #[.slice (some ⟨b, o, none⟩) n c, .int .i64 l, .int .i64 t, .bool false]
  have h1 := Box.new hk1 47 #[.int .i64 0, .int .i64 0, .slice none 0 0, .int .i64 0]
  rw [World.size_alloc] at h1
  have hk2 := hk1.alloc (.cells #[.int .i64 0, .int .i64 0, .slice none 0 0, .int .i64 0] 47)
  have h0' := h0.alloc (.cells #[.int .i64 0, .int .i64 0, .slice none 0 0, .int .i64 0] 47)
  have hb2 : Below w.heap.size w ((w.alloc (.cells #[.slice (some ⟨b, o, none⟩) n c, .int .i64 l, .int .i64 t, .bool false] 26)).alloc (.cells #[.int .i64 0, .int .i64 0, .slice none 0 0, .int .i64 0] 47)) := (by repeat (first | (with_reducible exact Below.refl _ _) | (with_reducible refine Below.drew ?_) | (with_reducible refine belowDrewN ?_ _) | (with_reducible refine belowAlloc ?_ _) | ((with_reducible refine belowSet2 ?_ ?_); omega) | (with_reducible assumption) | (with_reducible refine belowVia (by assumption) ?_) | (with_reducible refine belowVia (Grow.below (by assumption)) ?_)))
  refine calls_of_marks Try.func43 rfl ?_
  simp only [Try.ntmps43, List.size_toArray, List.length_cons, List.length_nil, Nat.reduceAdd, Nat.reduceSub, Array.replicate_succ, Array.replicate_zero, List.push_toArray, List.append_toArray, List.nil_append, List.cons_append]
  go_wp2_with fail
  refine (HC.out _ hk2).mono ?_
  rintro e w1 ⟨rfl, hb1⟩
  rw [HK.out]
  have b0 := h0'.below hb1 (by simp; omega)
  have b1 := h1.below hb1 (by simp)
  have hbw : Below w.heap.size w w1 := belowVia hb1 hb2
  have hsz : w.heap.size + 2 ≤ w1.heap.size := by have := hb1.size; simp at this; omega
  have hkw := hk.below hbw (Nat.le_refl _)
  clear h0 h1 h0' hb2 hk1 hk2 hb1
  have q0 : w1.cell? ⟨w.heap.size, 0, none⟩ = some (.slice (some ⟨b, o, none⟩) n c) := b0.cell 0
  have q3 : w1.cell? ⟨w.heap.size, 3, none⟩ = some (.bool false) := b0.cell 3
  have p0 : w1.cell? ⟨w.heap.size + 1, 0, none⟩ = some (.int .i64 0) := b1.cell 0
  have p1 : w1.cell? ⟨w.heap.size + 1, 1, none⟩ = some (.int .i64 0) := b1.cell 1
  have p2 : w1.cell? ⟨w.heap.size + 1, 2, none⟩ = some (.slice none 0 0) := b1.cell 2
  have p3 : w1.cell? ⟨w.heap.size + 1, 3, none⟩ = some (.int .i64 0) := b1.cell 3
  have fr := b1.frozen
  have g1 : decide ((f : Int) < 0) = false := by simp
  have g2 : decide ((m : Int) < 1) = false := by simp; omega
  have g3 : decide ((n : Int) < (m : Int)) = false := by simp; omega
  have g4 : decide ((n : Int) - (m : Int) < (f : Int)) = false := by simp; omega
  have g3' : decide (n < m) = false := by simp; omega
  go_wp2_with fail
  have b1' := b1.set4 (.int .i64 f) (.int .i64 m) (.slice none 0 0) (.int .i64 0)
  have hg0 : Grow w D ((((w1.setCell ⟨w.heap.size + 1, 0, none⟩ (.int .i64 f)).setCell ⟨w.heap.size + 1, 1, none⟩ (.int .i64 m)).setCell ⟨w.heap.size + 1, 2, none⟩ (.slice none 0 0)).setCell ⟨w.heap.size + 1, 3, none⟩ (.int .i64 0)) D :=
    Grow.set4 (Grow.of_below hk hbw) (by omega) b1.off _ _ _ _
  clear q0 q3 p0 p1 p2 p3 fr b0 b1 hbw hkw g1 g2 g3 g4 g3'
  generalize hW2 : (((w1.setCell ⟨w.heap.size + 1, 0, none⟩ (.int .i64 f)).setCell ⟨w.heap.size + 1, 1, none⟩ (.int .i64 m)).setCell ⟨w.heap.size + 1, 2, none⟩ (.slice none 0 0)).setCell ⟨w.heap.size + 1, 3, none⟩ (.int .i64 0) = W2 at *
  have hsz2 : w.heap.size + 2 ≤ W2.heap.size := by have := b1'.lt; omega
  clear hW2 hsz
  refine (records_c (some ⟨b, o + f, none⟩) m (c - f) D W2 hg0.keeps).mono ?_
  rintro e w3 ⟨B, D1, rfl, hg, hB⟩
  have b1 := b1'.grow hg
  have hg3 := hg0.trans hg
  have hsz3 : w.heap.size + 2 ≤ w3.heap.size := Nat.le_trans hsz2 hg.below.size
  have hs1 := hsub.le hg3.le
  clear b1' hg hg0 hsub hsz2
  go_wp2_with fail
  have hseq := iter_c B _ m _ ys D1 hB hs1 H128.out (by omega)
  have hrl : (scan 0 0 none ys).length ≤ 4096 := by have h1 := scan_length ys 0 0 none; have h2 := hs1.len.1; omega
  generalize hrec : scan 0 0 none ys = recs at *
  have HREC := Lib.hid hrec
  clear hrec
  refine wp_rangeFunc_bs (recs := recs) (D0 := D1) (D := D1) (gf := 64) (lb := #[.pointer (some ⟨B, 0, none⟩)]) rfl (enters_of Try.func64 (by kernel_rfl) rfl) hseq (Gh.le.refl _)
    (fun pre D' W => Grow w D W D' ∧ ∃ A' c' vs, Box W D' (w.heap.size + 1) 47 #[.int .i64 f, .int .i64 m, .slice A' pre.length c', .int .i64 0] ∧ W.ownsRow (w.heap.size + 1 + 1) 32 1 (.slice A' pre.length c') pre.length vs ∧ vs.length = pre.length ∧
      (∀ (j : Nat) x u, pre[j]? = some x → vs[j]? = some u → BS D' u x) ∧ (∀ g, Value.ownBlock (.slice A' pre.length c') = some g → D'.off g))
    (fun _ _ _ _ => False)
    (fun s D W h => h.1.keeps)
    (fun s D1 W D' W' h hg => by
      obtain ⟨hg1, A', c', vs, hB, hown, hl, he, ho⟩ := h
      exact ⟨hg1.trans hg, A', c', vs, hB.grow hg, own_below hown hg.below, hl, fun j x u e1 e2 => (he j x u e1 e2).le hg.le, fun g e => hg.off (hown.lt g e).2 (ho g e)⟩)
    (fun s D1 W l o o' h hl ho hc => by
      obtain ⟨hg1, A', c', vs, hB, hown, hlv, he, hof⟩ := h
      exact ⟨growPut hg1 o' ho hc (by omega), A', c', vs, boxPut hB o' ho hc, ownPut hown o' ho hc, hlv, he, hof⟩)
    (fun c s D W l o o' h _ _ _ => h)
    ⟨hg3, none, 0, [], b1, ⟨by simp, .inl ⟨rfl, rfl⟩⟩, rfl, fun j x u e => by simp at e, fun g e => by simp [Value.ownBlock] at e⟩
    ?act ?assign ?body ?done ?stop
  case assign =>
    intro l v W K hK
    gi_wp2
    exact hK
  case stop =>
    rintro L c pre D2 W hpr h
    exact h.elim
  case body =>
    rintro l pre x D2 v W ⟨hgw, A', c', vs, hB, hown, hl, he, ho⟩ hpx hbs
    have hpl := prefix_len hpx
    have HLE := Lib.hid (show (pre ++ [x]).length = pre.length + 1 from by simp)
    rw [HLE.out] at hpl
    obtain ⟨ax, cx, rfl, hx1, hx2⟩ := hbs.form
    unfold maxLen at hx2
    have HE := Lib.hid (ss_snoc hl he (Gh.le.refl _) hbs)
    have HL := Lib.hid (show (vs ++ [Value.slice ax x.length cx]).length = pre.length + 1 from by simp [hl])
    clear he hl
    generalize pre.length = p at *
    generalize x.length = lx at *
    have hownA := hown.alloc (.cells #[.slice ax lx cx] 32)
    have q2 : W.cell? ⟨w.heap.size + 1, 2, none⟩ = some (.slice A' p c') := hB.cell 2
    have hbig := hB.lt
    gi_wp2_with (gi_at_builtin; refine wpListIn_append_one (o := ⟨some 58, _, _, _, _, _⟩) rfl _ _ 24 rfl (w.heap.size + 1 + 1) 32 i3 _ 24 Try.underlying24 hi3 hz30 hz31 hz32 rfl _ p vs rfl hownA _ _ rfl (heap_alloc_new _ _) (by rfl) ?c1 ?c2 ?c3 ?_)
    case c1 => unfold maxLen; omega
    case c2 => omega
    case c3 => simp; omega
    intro A5 c5 W5 hown5 hgr5 hat5
    have hneg : ∀ g, Value.ownBlock (.slice A' p c') = some g → w.heap.size + 1 + 1 ≤ g := fun g e => (hown.lt g e).1
    have hB5 : Box W5 D2 (w.heap.size + 1) 47 #[.int .i64 f, .int .i64 m, .slice A' p c', .int .i64 0] := (hB.alloc _).grown hgr5 (fun e => by have := hneg _ e.symm; omega)
    have hg5 : Grow w D W5 D2 := Grow.row (hgw.alloc _) hgr5 (fun g e => by have := hneg g e; omega) ho
    have hko : KeepsOthers W W5 := (KeepsOthers.alloc W _).trans (KeepsOthers.of_grownBy hgr5 (fun j o e h => own_cells hownA j o e h))
    have ho5 := off_append (w := W.alloc (.cells #[.slice ax lx cx] 32)) (hgw.keeps.alloc _) ho (by rw [World.size_alloc]; exact hat5)
    have q5 : W5.cell? ⟨w.heap.size + 1, 2, none⟩ = some (.slice A' p c') := hB5.cell 2
    have f5 : W5.frozen? ⟨w.heap.size + 1, 2, none⟩ = false := hB5.frozen 2
    have hne5 : Value.ownBlock (.slice A5 (p + 1) c5) ≠ some (w.heap.size + 1) := fun e => by have := (hown5.lt _ e).1; omega
    gi_wp2
    refine ⟨hko.trans (KeepsOthers.setCell _ _ _), D2, Gh.le.refl _, Grow.setNew hg5 (p := ⟨w.heap.size + 1, 2, none⟩) (by simp) hB5.off _, ?_⟩
    rw [HLE.out]
    exact ⟨A5, c5, vs ++ [.slice ax lx cx], hB5.set_ 2 _, own_far hown5 hne5 _, HL.out, HE.out, ho5⟩
  case done =>
    rintro L D2 W ⟨hgw, A', c', vs, hB, hown, hl, he, ho⟩ hle2 hL hWL
    obtain ⟨D3, hg3', _, hsl, hof⟩ := hgw.pub hown (by omega) ho
    have HS := Lib.hid (show SS D3 (.slice A' recs.length c') recs from ⟨vs, hsl, hl, fun j x u e1 e2 => (he j x u e1 e2).le (by assumption)⟩)
    have ho1 : D3.off (w.heap.size + 1) := hof _ hB.off (fun e => by have := (hown.lt _ e).1; omega)
    have hB3 := hB.le ho1
    clear he hl hof hB hseq
    generalize hrp : recs.length = p at *
    have hrp := Lib.hid hrp
    have p0 : W.cell? ⟨w.heap.size + 1, 0, none⟩ = some (.int .i64 f) := hB3.cell 0
    have p1 : W.cell? ⟨w.heap.size + 1, 1, none⟩ = some (.int .i64 m) := hB3.cell 1
    have p2 : W.cell? ⟨w.heap.size + 1, 2, none⟩ = some (.slice A' p c') := hB3.cell 2
    have p3 : W.cell? ⟨w.heap.size + 1, 3, none⟩ = some (.int .i64 0) := hB3.cell 3
    have fr := hB3.frozen
    have b3 := hB3.set_ 3 (.int .i64 p)
    have hg4 := Grow.setNew hg3' (p := ⟨w.heap.size + 1, 3, none⟩) (by simp) ho1 (.int .i64 p)
    dsimp only
    go_wp2
    have b4 := b3.set4 (.int .i64 f) (.int .i64 m) (.slice A' p c') (.int .i64 p)
    have hg5 := Grow.set4 hg4 (g := w.heap.size + 1) (by omega) ho1 (.int .i64 f) (.int .i64 m) (.slice A' p c') (.int .i64 p)
    have hWL' : (((((W.setCell ⟨w.heap.size + 1, 3, none⟩ (.int .i64 p)).setCell ⟨w.heap.size + 1, 0, none⟩ (.int .i64 f)).setCell ⟨w.heap.size + 1, 1, none⟩ (.int .i64 m)).setCell ⟨w.heap.size + 1, 2, none⟩ (.slice A' p c')).setCell ⟨w.heap.size + 1, 3, none⟩ (.int .i64 p)).heap[L]? = some (.deferred (some [])) :=
      (((((KeepsOthers.setCell W _ _).trans (KeepsOthers.setCell _ _ _)).trans (KeepsOthers.setCell _ _ _)).trans (KeepsOthers.setCell _ _ _)).trans (KeepsOthers.setCell _ _ _)).same L _ hWL rfl
    have b5 := boxPut b4 (.deferred none) hWL' rfl
    have hg6 := growPut hg5 (.deferred none) hWL' rfl (by omega)
    clear hg4 hg5 b3 b4 p0 p1 p2 p3 fr hB3
    refine marks_ret hWL' (v := .tuple #[.agg #[.int .i64 f, .int .i64 m, .slice A' p c', .int .i64 p], .int .i64 0]) ?_ ?_
    · generalize (((((W.setCell ⟨w.heap.size + 1, 3, none⟩ (.int .i64 p)).setCell ⟨w.heap.size + 1, 0, none⟩ (.int .i64 f)).setCell ⟨w.heap.size + 1, 1, none⟩ (.int .i64 m)).setCell ⟨w.heap.size + 1, 2, none⟩ (.slice A' p c')).setCell ⟨w.heap.size + 1, 3, none⟩ (.int .i64 p)).putObj L (.deferred none) = WF at *
      have c0 : WF.cell? ⟨w.heap.size + 1, 0, none⟩ = some (.int .i64 f) := b5.cell 0
      have c1 : WF.cell? ⟨w.heap.size + 1, 1, none⟩ = some (.int .i64 m) := b5.cell 1
      have c2 : WF.cell? ⟨w.heap.size + 1, 2, none⟩ = some (.slice A' p c') := b5.cell 2
      have c3 : WF.cell? ⟨w.heap.size + 1, 3, none⟩ = some (.int .i64 p) := b5.cell 3
      simp [results, Try.results43, go_sem, c0, c1, c2, c3]
    · have HL := Lib.hid (show Hid (recs.length = p) from hrp)
      rw [HREC.out, HL.out.out]
      exact ⟨A', c', D3, rfl, hg6, HS.out⟩
theorem open_arg (A : Option Addr) (n c : Nat) (xs : List (List UInt8)) (l t : Int) (D : Gh) (w : World) (hk : Keeps D w) (hs : SS D (.slice A n c) xs)
    (hok : chk ⟨xs, l, t, false⟩ = 0) :
    Calls Try.prog 43 #[.agg #[.slice A n c, .int .i64 l, .int .i64 t, .bool false], .int .i64 0, .int .i64 0] w fun e w' => e = .returned (.tuple #[.agg #[.int .i64 0, .int .i64 0, .slice none 0 0, .int .i64 0], .int .i64 1]) ∧ Below w.heap.size w w' := by
  have HK := Lib.hid hok
  have HC := Lib.hid (fun W (hW : Keeps D W) => check_c A n c xs l t false D W hW hs)
  clear hok
  have hk1 := hk.alloc (.cells #[.slice A n c, .int .i64 l, .int .i64 t, .bool false] 26)
  have h1 := Box.new hk1 47 #[.int .i64 0, .int .i64 0, .slice none 0 0, .int .i64 0]
  rw [World.size_alloc] at h1
  have hk2 := hk1.alloc (.cells #[.int .i64 0, .int .i64 0, .slice none 0 0, .int .i64 0] 47)
  have hb2 : Below w.heap.size w ((w.alloc (.cells #[.slice A n c, .int .i64 l, .int .i64 t, .bool false] 26)).alloc (.cells #[.int .i64 0, .int .i64 0, .slice none 0 0, .int .i64 0] 47)) := (by repeat (first | (with_reducible exact Below.refl _ _) | (with_reducible refine Below.drew ?_) | (with_reducible refine belowDrewN ?_ _) | (with_reducible refine belowAlloc ?_ _) | ((with_reducible refine belowSet2 ?_ ?_); omega) | (with_reducible assumption) | (with_reducible refine belowVia (by assumption) ?_) | (with_reducible refine belowVia (Grow.below (by assumption)) ?_)))
  refine calls_of_marks Try.func43 rfl ?_
  simp only [Try.ntmps43, List.size_toArray, List.length_cons, List.length_nil, Nat.reduceAdd, Nat.reduceSub, Array.replicate_succ, Array.replicate_zero, List.push_toArray, List.append_toArray, List.nil_append, List.cons_append]
  go_wp2_with fail
  refine (HC.out _ hk2).mono ?_
  rintro e w1 ⟨rfl, hb1⟩
  rw [HK.out]
  have b1 := h1.below hb1 (by simp)
  have hbw : Below w.heap.size w w1 := belowVia hb1 hb2
  clear h1 hb2 hk1 hk2 hb1
  have p0 : w1.cell? ⟨w.heap.size + 1, 0, none⟩ = some (.int .i64 0) := b1.cell 0
  have p1 : w1.cell? ⟨w.heap.size + 1, 1, none⟩ = some (.int .i64 0) := b1.cell 1
  have p2 : w1.cell? ⟨w.heap.size + 1, 2, none⟩ = some (.slice none 0 0) := b1.cell 2
  have p3 : w1.cell? ⟨w.heap.size + 1, 3, none⟩ = some (.int .i64 0) := b1.cell 3
  have fr := b1.frozen
  have b4 := b1.set4 (.int .i64 0) (.int .i64 0) (.slice none 0 0) (.int .i64 0)
  have hb4 : Below w.heap.size w ((((w1.setCell ⟨w.heap.size + 1, 0, none⟩ (.int .i64 0)).setCell ⟨w.heap.size + 1, 1, none⟩ (.int .i64 0)).setCell ⟨w.heap.size + 1, 2, none⟩ (.slice none 0 0)).setCell ⟨w.heap.size + 1, 3, none⟩ (.int .i64 0)) :=
    belowSet2 (by omega) (belowSet2 (by omega) (belowSet2 (by omega) (belowSet2 (by omega) hbw)))
  go_wp2_with fail
  refine ⟨.tuple #[.agg #[.int .i64 0, .int .i64 0, .slice none 0 0, .int .i64 0], .int .i64 1], ?_, rfl, hb4⟩
  clear p0 p1 p2 p3 fr hb4
  generalize (((w1.setCell ⟨w.heap.size + 1, 0, none⟩ (.int .i64 0)).setCell ⟨w.heap.size + 1, 1, none⟩ (.int .i64 0)).setCell ⟨w.heap.size + 1, 2, none⟩ (.slice none 0 0)).setCell ⟨w.heap.size + 1, 3, none⟩ (.int .i64 0) = WF at *
  have c0 : WF.cell? ⟨w.heap.size + 1, 0, none⟩ = some (.int .i64 0) := b4.cell 0
  have c1 : WF.cell? ⟨w.heap.size + 1, 1, none⟩ = some (.int .i64 0) := b4.cell 1
  have c2 : WF.cell? ⟨w.heap.size + 1, 2, none⟩ = some (.slice none 0 0) := b4.cell 2
  have c3 : WF.cell? ⟨w.heap.size + 1, 3, none⟩ = some (.int .i64 0) := b4.cell 3
  simp [results, Try.results43, go_sem, c0, c1, c2, c3]
end Go.Proofs.Ytegkmkglagmdiaa
