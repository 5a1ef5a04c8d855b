/-
  What is proved here: more small laws on worlds that differ in one variable and in new blocks, and on rows of the call's own.
-/
import Derived.Test.YtegkmkglagmdiaaBase
import Derived.Laws.BytesArg
namespace Go.VS
open Go.RowKit

theorem gb_refl (w : World) (g : Nat) : w.grownBy w (some g) := World.grownBy.refl w _
theorem gb_below {w a b : World} {g : Nat} (h : w.grownBy a (some g)) (hb : Below a.heap.size a b) : w.grownBy b (some g) :=
  ⟨hb.os.trans h.os, hb.tape.trans h.tape, hb.output.trans h.output, Nat.le_trans h.size hb.size, fun k hk hne => (hb.block k (Nat.lt_of_lt_of_le hk h.size)).trans (h.block k hk hne)⟩
theorem gb_set {w a : World} {g : Nat} (h : w.grownBy a (some g)) {p : Addr} (hp : p.block = g ∨ w.heap.size ≤ p.block) (u : Value) : w.grownBy (a.setCell p u) (some g) :=
  ⟨h.os, h.tape, h.output, by simpa [World.setCell] using h.size, fun i hi hne => (Below.heap_setCell a p u i (by
    rintro rfl
    rcases hp with hp | hp
    · exact hne (by rw [hp])
    · omega)).trans (h.block i hi hne)⟩
theorem gb_row {w a b : World} {g : Nat} {row : Option Nat} (h : w.grownBy a (some g)) (hg : a.grownBy b row) (hr : ∀ k, row = some k → w.heap.size ≤ k) : w.grownBy b (some g) :=
  ⟨hg.os.trans h.os, hg.tape.trans h.tape, hg.output.trans h.output, Nat.le_trans h.size hg.size, fun k hk hne => (hg.block k (Nat.lt_of_lt_of_le hk h.size) (fun e => by have := hr k e.symm; omega)).trans (h.block k hk hne)⟩
theorem own_below {w w' : World} {base : Nat} {e : TypeId} {v : Value} {n : Nat} {xs : List Value} (h : w.ownsRow base e 1 v n xs) (hb : Below w.heap.size w w') : w'.ownsRow base e 1 v n xs :=
  h.kept (row := none) ⟨hb.os, hb.tape, hb.output, hb.size, fun k hk _ => hb.block k hk⟩ (by cases v.ownBlock <;> simp)
theorem own_base {w : World} {base base' : Nat} {e : TypeId} {v : Value} {n : Nat} {xs : List Value} (h : w.ownsRow base e 1 v n xs) (hb : base' ≤ base) : w.ownsRow base' e 1 v n xs := by
  refine ⟨h.1, ?_⟩
  rcases h.2 with hn | ⟨g, cap, cur, hv, hg, r⟩
  · exact .inl hn
  · exact .inr ⟨g, cap, cur, hv, by omega, r⟩
/-- A store into another block. -/
theorem own_far {w : World} {base : Nat} {e : TypeId} {v : Value} {n : Nat} {xs : List Value} (h : w.ownsRow base e 1 v n xs) {p : Addr} (hp : v.ownBlock ≠ some p.block) (u : Value) : (w.setCell p u).ownsRow base e 1 v n xs := by
  refine ⟨h.1, ?_⟩
  rcases h.2 with hn | ⟨g, cap, cur, rfl, hg, hh, r⟩
  · exact .inl hn
  · refine .inr ⟨g, cap, cur, rfl, hg, ?_, r⟩
    rw [Below.heap_setCell _ _ _ _ (by simpa [Value.ownBlock] using hp)]; exact hh
/-- A store into the row itself. -/
theorem own_set {w : World} {base g cap : Nat} {e : TypeId} {n : Nat} {xs : List Value} (h : w.ownsRow base e 1 (.slice (some ⟨g, 0, none⟩) n cap) n xs) (i : Nat) (u : Value) :
    (w.setCell ⟨g, i, none⟩ u).ownsRow base e 1 (.slice (some ⟨g, 0, none⟩) n cap) n (xs.set i u) := by
  refine ⟨by simpa using h.1, ?_⟩
  rcases h.2 with ⟨hv, _⟩ | ⟨g', cap', cur, hv, hg, hh, hnc, hcm, hsz, htk⟩
  · cases hv
  · cases hv
    refine .inr ⟨g, cap, cur.setIfInBounds i u, rfl, hg, ?_, hnc, hcm, by simpa using hsz, ?_⟩
    · simp [World.setCell, Array.getElem?_modify, hh]
    · simp only [Nat.mul_one] at htk ⊢
      rw [Array.toList_setIfInBounds, ← htk, List.take_set]
theorem own_cell {w : World} {base g cap : Nat} {e : TypeId} {n : Nat} {xs : List Value} (h : w.ownsRow base e 1 (.slice (some ⟨g, 0, none⟩) n cap) n xs) {i : Nat} (hi : i < n) :
    ∃ u, xs[i]? = some u ∧ w.cell? ⟨g, i, none⟩ = some u ∧ w.frozen? ⟨g, i, none⟩ = false := by
  have hl : xs.length = n := by have := h.1; omega
  have hx : xs[i]? = some xs[i] := List.getElem?_eq_getElem (by omega)
  refine ⟨_, hx, ?_, ?_⟩
  · have := h.cells (g := g) rfl i _ hx
    simpa [Addr.add_lit] using this
  · rcases h.2 with ⟨hv, _⟩ | ⟨g', cap', cur, hv, hg, hh, _⟩
    · cases hv
    · cases hv
      simp [World.frozen?, hh]
theorem BS.one {D : Gh} {v : Value} {bs : List UInt8} (h : BS D v bs) : v.oneCell' = true := by
  obtain ⟨a, c, rfl, _⟩ := h.form; rfl
theorem SS.one {D : Gh} {vs : List Value} {xs : List (List UInt8)} (hl : vs.length = xs.length) (h : ∀ (j : Nat) x u, xs[j]? = some x → vs[j]? = some u → BS D u x) : ∀ u ∈ vs, u.oneCell' = true := by
  intro u hu
  obtain ⟨j, hj, rfl⟩ := List.getElem_of_mem hu
  exact (h j _ _ (List.getElem?_eq_getElem (by omega)) (List.getElem?_eq_getElem hj)).one
theorem Grow.keepsOld {w w' : World} {D D' : Gh} (h : Grow w D w' D') (hk : Keeps D w) : Keeps D w' := hk.below h.below (Nat.le_refl _)

theorem belowAlloc {w M : World} (k : Below w.heap.size w M) (o : Obj) : Below w.heap.size w (M.alloc o) := k.alloc k.size o

section
variable {P : Program}
theorem one_sl {w : World} {g : Nat} {e : TypeId} {x : Value} (hb : w.heap[g]? = some (.cells #[x] e (0, 0))) :
    ∃ D : Gh, Keeps D w ∧ Sl D (.slice (some ⟨g, 0, none⟩) 1 1) [x] := by
  refine ⟨fun b o => if b = g ∧ o = 0 then some x else none, fun b o v h => ?_, ⟨some ⟨g, 0, none⟩, 1, rfl, by simp, by simp [maxLen], by simp, fun _ => ⟨g, 0, rfl, fun j u e => ?_⟩⟩⟩
  · dsimp only at h
    split at h
    · rename_i hh
      obtain ⟨rfl, rfl⟩ := hh
      injection h with h
      subst h
      rw [cell_of_row _ _ _ _ _ _ hb]; rfl
    · cases h
  · cases j with
    | zero => simpa using e
    | succ j => simp at e
/-- append of one element (a slice literal of one cell, block g0) onto a row of the call's own: in a list of operations. -/
theorem wpList_append_one {w : World} {ops : Array Oper} {rest : List Oper} {o : Oper} {a : Act} {Q : Exit → Act → World → Prop} (hgd : o.guard = none) (s x : Operand) (t : TypeId)
    (ho : o.op = .call { callee := .builtin .append, args := #[s, x], argTypes := #[t, t] })
    (base : Nat) (e : TypeId) (i : TypeInfo) (z : Value) (bytes : Nat) (ht : P.underlying t = some (.slice e)) (hi : P.info? e = some i) (hz : i.zero = some z)
    (hsize : i.size = 1) (hby : i.bytes = bytes) (hzs : z.cells.size = 1)
    (v : Value) (n : Nat) (xs : List Value) (hs : a.eval s = v) (hown : w.ownsRow base e 1 v n xs)
    (g0 : Nat) (x0 : Value) (hx : a.eval x = .slice (some ⟨g0, 0, none⟩) 1 1) (hb : w.heap[g0]? = some (.cells #[x0] e (0, 0))) (h1 : x0.oneCell' = true)
    (h63 : n + 1 ≤ maxLen) (hbytes : (n + 1) * bytes ≤ 140737488355328) (hbase : base ≤ w.heap.size)
    (h : ∀ A' cap' w', w'.ownsRow base e 1 (.slice A' (n + 1) cap') (n + 1) (xs ++ [x0]) → w.grownBy w' v.ownBlock → (Value.ownBlock (.slice A' (n + 1) cap') = v.ownBlock ∨ Value.ownBlock (.slice A' (n + 1) cap') = some w.heap.size) → wpList P ops Q rest (a.put o.dst (.slice A' (n + 1) cap')) w') : wpList P ops Q (o :: rest) a w := by
  obtain ⟨D, hk, hsl⟩ := one_sl hb
  exact wpList_append_sl w hgd s x t ho base e i z bytes ht hi hz hsize hby hzs v n xs hs hown D hk _ 1 1 [x0] hx hsl (by simpa using h1) h63 hbytes hbase h
/-- The same as one step of a region that draws its order. -/
theorem step_append_one {w : World} {ops : Array Oper} {o : Oper} {a : Act} {K : Act → World → Prop} {Q : Exit → Act → World → Prop} {E : Prop} (hgd : o.guard = none) (s x : Operand) (t : TypeId)
    (ho : o.op = .call { callee := .builtin .append, args := #[s, x], argTypes := #[t, t] })
    (base : Nat) (e : TypeId) (i : TypeInfo) (z : Value) (bytes : Nat) (ht : P.underlying t = some (.slice e)) (hi : P.info? e = some i) (hz : i.zero = some z)
    (hsize : i.size = 1) (hby : i.bytes = bytes) (hzs : z.cells.size = 1)
    (v : Value) (n : Nat) (xs : List Value) (hs : a.eval s = v) (hown : w.ownsRow base e 1 v n xs)
    (g0 : Nat) (x0 : Value) (hx : a.eval x = .slice (some ⟨g0, 0, none⟩) 1 1) (hb : w.heap[g0]? = some (.cells #[x0] e (0, 0))) (h1 : x0.oneCell' = true)
    (h63 : n + 1 ≤ maxLen) (hbytes : (n + 1) * bytes ≤ 140737488355328) (hbase : base ≤ w.heap.size)
    (h : ∀ A' cap' w', w'.ownsRow base e 1 (.slice A' (n + 1) cap') (n + 1) (xs ++ [x0]) → w.grownBy w' v.ownBlock → (Value.ownBlock (.slice A' (n + 1) cap') = v.ownBlock ∨ Value.ownBlock (.slice A' (n + 1) cap') = some w.heap.size) → K (a.put o.dst (.slice A' (n + 1) cap')) w') :
    if Region.wanted o (yielded ops a.tmps) = true then Oper.wp P o a w K Q else E := by
  obtain ⟨D, hk, hsl⟩ := one_sl hb
  exact step_append_sl w hgd s x t ho base e i z bytes ht hi hz hsize hby hzs v n xs hs hown D hk _ 1 1 [x0] hx hsl (by simpa using h1) h63 hbytes hbase h
end
theorem own_alloc {w : World} {base : Nat} {e : TypeId} {v : Value} {n : Nat} {xs : List Value} (h : w.ownsRow base e 1 v n xs) (o : Obj) : (w.alloc o).ownsRow base e 1 v n xs := h.alloc o
/-- Behind an append: the row's block is known to no ghost that did not know it before. -/
theorem off_append {w : World} {D : Gh} (hk : Keeps D w) {v v' : Value} (ho : ∀ g, v.ownBlock = some g → D.off g) (h : v'.ownBlock = v.ownBlock ∨ v'.ownBlock = some w.heap.size) : ∀ g, v'.ownBlock = some g → D.off g := by
  intro g hg
  rcases h with h | h
  · exact ho g (h.symm.trans hg)
  · rw [h] at hg; injection hg with hg; subst hg; exact hk.offNew (Nat.le_refl _)
/-- Grow, behind an append onto a row of the call's own. -/
theorem Grow.row {w w1 w' : World} {D D' : Gh} {row : Option Nat} (h : Grow w D w1 D') (hg : w1.grownBy w' row) (hr : ∀ k, row = some k → w.heap.size ≤ k) (ho : ∀ k, row = some k → D'.off k) : Grow w D w' D' :=
  ⟨h.below.grown hg h.below.size hr, h.keeps.grown hg ho, h.le, h.old⟩

theorem heap_new2 (w : World) (a b : Obj) : ((w.alloc a).alloc b).heap[w.heap.size + 1]? = some b := by
  have := heap_alloc_new (w.alloc a) b
  simpa using this
theorem Box.held {w : World} {D : Gh} {g : Nat} {t : TypeId} {cs : Array Value} (h : Box w D g t cs) {i : Nat} {u : Value} (hu : cs[i]? = some u) : w.cell? ⟨g, i, none⟩ = some u ∧ w.frozen? ⟨g, i, none⟩ = false :=
  ⟨(h.cell i).trans hu, h.frozen i⟩

/-- The row that a call has built is known from now on. -/
theorem Grow.pub {w wr : World} {D D' : Gh} {base : Nat} {e : TypeId} {v : Value} {n : Nat} {vs : List Value} (h : Grow w D wr D') (hown : wr.ownsRow base e 1 v n vs) (hb : w.heap.size ≤ base) (ho : ∀ g, v.ownBlock = some g → D'.off g) :
    ∃ D'', Grow w D wr D'' ∧ D'.le D'' ∧ Sl D'' v vs ∧ (∀ k, D'.off k → v.ownBlock ≠ some k → D''.off k) := by
  have hl : vs.length = n := by have := hown.1; omega
  rcases hown.2 with ⟨rfl, rfl⟩ | ⟨g, cap, cur, rfl, hg, hh, hnc, hcm, hsz, htk⟩
  · obtain rfl : vs = [] := List.eq_nil_of_length_eq_zero hl
    exact ⟨D', h, Gh.le.refl _, Sl.nil D', fun k h _ => h⟩
  · have hoff : D'.off g := ho g rfl
    refine ⟨D'.add g vs, ⟨h.below, h.keeps.add fun o u e => ?_, h.le.trans (Gh.le_add hoff _), fun b hb' o => (off_add_lt (by omega) b hb' o).trans (h.old b hb' o)⟩, Gh.le_add hoff _, ?_, fun k hk hne => Gh.add_off _ hk (fun e => hne (by rw [e]; rfl))⟩
    · have := hown.cells (g := g) rfl o u e
      simpa [Addr.add_lit] using this
    · refine ⟨some ⟨g, 0, none⟩, cap, by rw [hl], by omega, hcm, by simp, fun _ => ⟨g, 0, rfl, fun j u e => ?_⟩⟩
      rw [Nat.zero_add, Gh.add_at]; exact e
theorem SS.same {D : Gh} {v : Value} {vs : List Value} {n : Nat} {x : List UInt8} (h : Sl D v vs) (hl : vs.length = n) (ha : ∀ u ∈ vs, BS D u x) : SS D v (List.replicate n x) := by
  refine ⟨vs, h, by simp [hl], fun j y u ey eu => ?_⟩
  rw [List.getElem?_replicate] at ey
  split at ey
  · injection ey with ey
    subst ey
    exact ha u (List.mem_of_getElem? eu)
  · cases ey
theorem Grow.set4 {w w' : World} {D D' : Gh} (h : Grow w D w' D') {g : Nat} (hg : w.heap.size ≤ g) (ho : D'.off g) (a b c d : Value) :
    Grow w D ((((w'.setCell ⟨g, 0, none⟩ a).setCell ⟨g, 1, none⟩ b).setCell ⟨g, 2, none⟩ c).setCell ⟨g, 3, none⟩ d) D' :=
  (((h.setNew (p := ⟨g, 0, none⟩) hg ho a).setNew (p := ⟨g, 1, none⟩) hg ho b).setNew (p := ⟨g, 2, none⟩) hg ho c).setNew (p := ⟨g, 3, none⟩) hg ho d

/-- The bytes as a string. -/
def str (bs : List UInt8) : ByteArray := ⟨bs.toArray⟩
theorem run_string_bs {P : Program} {w : World} {D : Gh} (hk : Keeps D w) {src e dst : TypeId} (hs : P.underlying src = some (.slice e)) (he : P.underlying e = some (.int .u8)) (hd : P.underlying dst = some .string)
    {a : Option Addr} {n c : Nat} {bs : List UInt8} (h : BS D (.slice a n c) bs) : (convert src dst (.slice a n c)).run P w = .ok (.string (str bs)) w := by
  obtain ⟨hn, _, _, hc⟩ := Sl.cells hk h
  simp only [List.length_map] at hn
  rw [run_convert_bytes_string w src dst e a n c hs he hd]
  rcases a with _ | ad
  · have h0 : n = 0 := by
      rcases Nat.eq_zero_or_pos n with h0 | h0
      · exact h0
      · obtain ⟨b, o, h, _⟩ := hc h0; cases h
    obtain rfl : bs = [] := List.eq_nil_of_length_eq_zero (by omega)
    simp [Conv.bytesToString, str, Sem.run_pure]
    rfl
  · have hl : (loadCells ad n).run P w = .ok ((bs.map fun u => (u.toNat : Int)).map (Value.int .u8)).toArray w := by
      have := run_loadCells_list (P := P) w ad (bs.map bv) (fun j v hj => by
        rcases Nat.eq_zero_or_pos n with h0 | h0
        · obtain rfl : bs = [] := List.eq_nil_of_length_eq_zero (by omega)
          simp at hj
        · obtain ⟨b, o, h, hcc⟩ := hc h0
          injection h with h
          subst h
          rw [Addr.add_lit]
          exact hcc j v hj)
      rw [List.length_map, ← hn] at this
      rw [this]
      simp [bv]
    rw [run_bytesToString w ad n c _ hl, foldl_push_bytes]
    congr 2
    simp only [str, List.map_map]
    have : (fun n : Int => UInt8.ofNat n.toNat) ∘ (fun u : UInt8 => (u.toNat : Int)) = id := by funext u; simp
    rw [this, List.map_id]
    simp

theorem belowDrewN {B : Nat} {a w : World} (h : Below B a w) (n : Nat) : Below B a (w.drewN n) := ⟨h.os, h.tape, h.output, h.size, h.block⟩
theorem Grow.drewN {w w' : World} {D D' : Gh} (h : Grow w D w' D') (n : Nat) : Grow w D (w'.drewN n) D' := ⟨belowDrewN h.below n, h.keeps, h.le, h.old⟩

theorem Box.set4 {w : World} {D : Gh} {g : Nat} {t : TypeId} {a b c d : Value} (h : Box w D g t #[a, b, c, d]) (a' b' c' d' : Value) :
    Box ((((w.setCell ⟨g, 0, none⟩ a').setCell ⟨g, 1, none⟩ b').setCell ⟨g, 2, none⟩ c').setCell ⟨g, 3, none⟩ d') D g t #[a', b', c', d'] := (((h.set_ 0 a').set_ 1 b').set_ 2 c').set_ 3 d'
/-- Cells and marks behind a law that ends in 'grownBy'. -/
theorem gcell {W w2 : World} {r : Nat} (h : W.grownBy w2 (some r)) : (∀ b o, b < W.heap.size → b ≠ r → w2.cell? ⟨b, o, none⟩ = W.cell? ⟨b, o, none⟩) ∧ (∀ b o, b < W.heap.size → b ≠ r → w2.frozen? ⟨b, o, none⟩ = W.frozen? ⟨b, o, none⟩) :=
  ⟨fun b o hb hne => World.cell?_of_block (h.block b hb (fun e => hne (by injection e))), fun b o hb hne => World.frozen?_of_block (h.block b hb (fun e => hne (by injection e)))⟩
/-- Cells and marks behind a call. -/
theorem bcell {W w1 : World} (hb : Below W.heap.size W w1) : (∀ b o, b < W.heap.size → w1.cell? ⟨b, o, none⟩ = W.cell? ⟨b, o, none⟩) ∧ (∀ b o, b < W.heap.size → w1.frozen? ⟨b, o, none⟩ = W.frozen? ⟨b, o, none⟩) :=
  ⟨fun b o h => hb.cell (p := ⟨b, o, none⟩) h, fun b o h => hb.frozen (p := ⟨b, o, none⟩) h⟩

theorem heap_old2 (w : World) (a b : Obj) : ((w.alloc a).alloc b).heap[w.heap.size]? = some a := (Below.heap_alloc (w.alloc a) b w.heap.size (by simp)).trans (heap_alloc_new w a)

theorem Box.far2 {w : World} {D : Gh} {g b o : Nat} {t : TypeId} {cs : Array Value} {u : Value} (hp : g ≠ b) (h : Box w D g t cs) : Box (w.setCell ⟨b, o, none⟩ u) D g t cs := h.far (p := ⟨b, o, none⟩) hp u

theorem own_far2 {w : World} {base b o : Nat} {e : TypeId} {v : Value} {n : Nat} {xs : List Value} {u : Value} (hp : v.ownBlock ≠ some b) (h : w.ownsRow base e 1 v n xs) : (w.setCell ⟨b, o, none⟩ u).ownsRow base e 1 v n xs := own_far (p := ⟨b, o, none⟩) h hp u
theorem Box.ne_own {w : World} {D : Gh} {g : Nat} {t : TypeId} {cs : Array Value} {base : Nat} {e : TypeId} {n : Nat} {v : Value} {xs : List Value} (hB : Box w D g t cs) (h : w.ownsRow base e 1 v n xs) (hne : t ≠ e) : v.ownBlock ≠ some g := by
  intro ev
  rcases h.2 with ⟨rfl, _⟩ | ⟨g', cap, cur, rfl, _, hh, _⟩
  · cases ev
  · have : g' = g := by simpa [Value.ownBlock] using ev
    subst this
    have := hB.heap.symm.trans hh
    injection this with this
    injection this with _ ht
    exact hne ht
/-- Two rows of the call's own, both known from now on: the second one holds the first as its element i. -/
theorem pub_set {w W : World} {D : Gh} {base1 base2 n i sn : Nat} {e1 e2 : TypeId} {S V : Value} {vs : List Value} {xs : List (List UInt8)} {bs : List UInt8}
    (hk : Keeps D w) (hb : Below w.heap.size w W) (hne : e1 ≠ e2)
    (h1 : W.ownsRow base1 e1 1 S sn (bs.map bv)) (hb1 : w.heap.size ≤ base1)
    (h2 : W.ownsRow base2 e2 1 V n (vs.set i S)) (hb2 : w.heap.size ≤ base2) (hvl : vs.length = xs.length)
    (hvs : ∀ (j : Nat) x u, xs[j]? = some x → vs[j]? = some u → BS D u x) :
    ∃ D', Grow w D W D' ∧ SS D' V (xs.set i bs) := by
  obtain ⟨D1, g1, le1, sl1, of1⟩ := (Grow.of_below hk hb).pub h1 hb1 (fun g h => hk.offNew (Nat.le_trans hb1 (h1.lt g h).1))
  have hno : ∀ g, V.ownBlock = some g → S.ownBlock ≠ some g := by
    intro g e2' e1'
    rcases h1.2 with ⟨ev, _⟩ | ⟨g1, cap1, cur1, ev1, _, hh1, _⟩
    · rw [ev] at e1'; cases e1'
    · rcases h2.2 with ⟨ev, _⟩ | ⟨g2, cap2, cur2, ev2, _, hh2, _⟩
      · rw [ev] at e2'; cases e2'
      · rw [ev1] at e1'; rw [ev2] at e2'
        have a1 : g1 = g := by simpa [Value.ownBlock] using e1'
        have a2 : g2 = g := by simpa [Value.ownBlock] using e2'
        subst a1; subst a2
        have := hh1.symm.trans hh2
        injection this with this
        injection this with _ ht
        exact hne ht
  obtain ⟨D2, g2, le2, sl2, of2⟩ := g1.pub h2 hb2 (fun g h => of1 g (hk.offNew (Nat.le_trans hb2 (h2.lt g h).1)) (hno g h))
  refine ⟨D2, g2, ⟨_, sl2, by simp [hvl], fun j x u ex eu => ?_⟩⟩
  rw [List.getElem?_set] at ex eu
  by_cases hji : i = j
  · subst hji
    rw [if_pos rfl] at ex eu
    split at ex <;> split at eu <;> simp_all
    subst ex; subst eu
    exact (Sl.le sl1 le2)
  · rw [if_neg hji] at ex eu
    exact (hvs j x u ex eu).le (le1.trans le2)

theorem belowSet2 {B b o : Nat} {w M : World} {u : Value} (hp : B ≤ b) (h : Below B w M) : Below B w (M.setCell ⟨b, o, none⟩ u) := h.setCell (p := ⟨b, o, none⟩) hp u

/-- A slice that is known, cut: s[k:]. -/
theorem Sl.drop {D : Gh} {b o n c : Nat} {vs : List Value} (h : Sl D (.slice (some ⟨b, o, none⟩) n c) vs) {k : Nat} (hk : k ≤ n) : Sl D (.slice (some ⟨b, o + k, none⟩) (n - k) (c - k)) (vs.drop k) := by
  obtain ⟨a', c', hv, h1, h2, h3, h4⟩ := h
  cases hv
  have hl : (vs.drop k).length = vs.length - k := by rw [List.length_drop]
  refine ⟨some ⟨b, o + k, none⟩, c - k, by rw [hl], by omega, by omega, by simp, fun hp => ?_⟩
  obtain ⟨b', o', ha, hc⟩ := h4 (by omega)
  cases ha
  refine ⟨b, o + k, rfl, fun j u e => ?_⟩
  rw [List.getElem?_drop] at e
  rw [Nat.add_assoc]
  exact hc _ u e
theorem Sl.none_ {D : Gh} {a : Option Addr} (c : Nat) (hc : c ≤ maxLen) (ha : a = none → c = 0) : Sl D (.slice a 0 c) [] := ⟨a, c, rfl, by simp, hc, ha, fun h => by simp at h⟩

theorem run_slice_low {P : Program} {t e : TypeId} (ht : P.underlying t = some (.slice e)) (hi : (P.info? e).map (·.size) = some 1) (b o n c k : Nat) (hk : k ≤ n) (w : World) :
    (Instr.slice t (.slice (some ⟨b, o, none⟩) n c) (some (.int .i64 k)) none none).run P w = .ok (.slice (if c = k then some ⟨b, o, none⟩ else some ⟨b, o + k, none⟩) (n - k) (c - k)) w := by
  obtain ⟨i, hi', hs⟩ : ∃ i, P.info? e = some i ∧ i.size = 1 := by
    cases h : P.info? e with
    | none => rw [h] at hi; cases hi
    | some i => rw [h] at hi; exact ⟨i, rfl, by simpa using hi⟩
  simp [Instr.slice, run_underlying ht, Instr.sliceBounds, Instr.sliceBound, asIntOf, hk, sizeOf, typeInfo, hi', hs, Addr.add_lit]

theorem i64_mask2 (n : Int) : bits .and .i64 n 3 = n % 4 := by
  have hm : (BitVec.ofInt 64 3).toNat = 2 ^ 2 - 1 := by decide
  have key : (BitVec.ofInt 64 n &&& BitVec.ofInt 64 3).toNat = (n % ((2 ^ 64 : Nat) : Int)).toNat % 2 ^ 2 := by
    rw [BitVec.toNat_and, BitVec.toNat_ofInt, hm, Nat.and_two_pow_sub_one_eq_mod]
  show IntKind.i64.wrap ((BitVec.ofInt 64 n &&& BitVec.ofInt 64 3).toNat : Nat) = n % 4
  rw [key, IntKind.wrap_i64]
  omega
theorem i64_mask3 (n : Int) : bits .and .i64 n 7 = n % 8 := by
  have hm : (BitVec.ofInt 64 7).toNat = 2 ^ 3 - 1 := by decide
  have key : (BitVec.ofInt 64 n &&& BitVec.ofInt 64 7).toNat = (n % ((2 ^ 64 : Nat) : Int)).toNat % 2 ^ 3 := by
    rw [BitVec.toNat_and, BitVec.toNat_ofInt, hm, Nat.and_two_pow_sub_one_eq_mod]
  show IntKind.i64.wrap ((BitVec.ofInt 64 n &&& BitVec.ofInt 64 7).toNat : Nat) = n % 8
  rw [key, IntKind.wrap_i64]
  omega
theorem i64_mask4 (n : Int) : bits .and .i64 n 15 = n % 16 := by
  have hm : (BitVec.ofInt 64 15).toNat = 2 ^ 4 - 1 := by decide
  have key : (BitVec.ofInt 64 n &&& BitVec.ofInt 64 15).toNat = (n % ((2 ^ 64 : Nat) : Int)).toNat % 2 ^ 4 := by
    rw [BitVec.toNat_and, BitVec.toNat_ofInt, hm, Nat.and_two_pow_sub_one_eq_mod]
  show IntKind.i64.wrap ((BitVec.ofInt 64 n &&& BitVec.ofInt 64 15).toNat : Nat) = n % 16
  rw [key, IntKind.wrap_i64]
  omega
theorem i64_mask30 (n : Int) : bits .and .i64 n 1073741823 = n % 1073741824 := by
  have hm : (BitVec.ofInt 64 1073741823).toNat = 2 ^ 30 - 1 := by decide
  have key : (BitVec.ofInt 64 n &&& BitVec.ofInt 64 1073741823).toNat = (n % ((2 ^ 64 : Nat) : Int)).toNat % 2 ^ 30 := by
    rw [BitVec.toNat_and, BitVec.toNat_ofInt, hm, Nat.and_two_pow_sub_one_eq_mod]
  show IntKind.i64.wrap ((BitVec.ofInt 64 n &&& BitVec.ofInt 64 1073741823).toNat : Nat) = n % 1073741824
  rw [key, IntKind.wrap_i64]
  omega
theorem tear_bd (t : Int) : 0 ≤ (bits .and .i64 t 1073741823).tmod 129 ∧ (bits .and .i64 t 1073741823).tmod 129 ≤ 128 := by
  rw [i64_mask30]
  have h := Int.emod_nonneg t (show (1073741824 : Int) ≠ 0 by decide)
  rw [Int.tmod_eq_emod_of_nonneg h]
  omega
theorem left_bd (l : Int) : -1 ≤ max (-1) (l.tmod 8) ∧ max (-1) (l.tmod 8) ≤ 7 := by
  have h1 : l.tmod 8 < 8 := Int.tmod_lt_of_pos l (by decide)
  omega

end Go.VS
