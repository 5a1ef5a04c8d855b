/-
  What is proved here: small laws on a ghost memory D (the cells that are known and never written again) beside the world; slices of bytes and slices of slices read off it.
-/
import Derived.WalkKit
import Derived.WalkSpells
import Derived.WalkLawsBesides
import Derived.Lib.Hide
import Derived.Deep.AppendLies
import Derived.Deep.Draws
import Derived.Laws.CopyOwn
namespace Go.VS
open Go.RowKit

/-- Cells that are known: block, offset, value. -/
abbrev Gh := Nat → Nat → Option Value

/-- What D knows stands in the world. -/
def Keeps (D : Gh) (w : World) : Prop := ∀ b o v, D b o = some v → w.cell? ⟨b, o, none⟩ = some v
def Gh.le (D D' : Gh) : Prop := ∀ b o v, D b o = some v → D' b o = some v
/-- D knows nothing of block g. -/
def Gh.off (D : Gh) (g : Nat) : Prop := ∀ o, D g o = none

theorem Gh.le.refl (D : Gh) : D.le D := fun _ _ _ h => h
theorem Gh.le.trans {A B C : Gh} (h : A.le B) (k : B.le C) : A.le C := fun b o v e => k b o v (h b o v e)

structure Grow (w : World) (D : Gh) (w' : World) (D' : Gh) : Prop where
  below : Below w.heap.size w w'
  keeps : Keeps D' w'
  le : D.le D'
  old : ∀ b, b < w.heap.size → ∀ o, D' b o = D b o

theorem Keeps.lt {D : Gh} {w : World} (h : Keeps D w) {b o : Nat} {v : Value} (e : D b o = some v) : b < w.heap.size :=
  World.block_lt_of_cell? w _ (h b o v e)
theorem Keeps.offNew {D : Gh} {w : World} (h : Keeps D w) {g : Nat} (hg : w.heap.size ≤ g) : D.off g := fun o => by
  cases e : D g o with
  | none => rfl
  | some v => have := h.lt e; omega
theorem Keeps.drew {D : Gh} {w : World} (h : Keeps D w) : Keeps D w.drew := h
theorem Keeps.drewN {D : Gh} {w : World} (h : Keeps D w) (n : Nat) : Keeps D (w.drewN n) := h
theorem Keeps.alloc {D : Gh} {w : World} (h : Keeps D w) (x : Obj) : Keeps D (w.alloc x) := fun b o v e =>
  (World.cell?_alloc_lt w x ⟨b, o, none⟩ (h.lt e)).trans (h b o v e)
theorem Keeps.below {D : Gh} {w w' : World} {B : Nat} (h : Keeps D w) (hb : Below B w w') (hB : w.heap.size ≤ B) : Keeps D w' := fun b o v e =>
  (hb.cell (p := ⟨b, o, none⟩) (Nat.lt_of_lt_of_le (h.lt e) hB)).trans (h b o v e)
theorem Keeps.setCell {D : Gh} {w : World} (h : Keeps D w) {p : Addr} (hp : D.off p.block) (u : Value) : Keeps D (w.setCell p u) := fun b o v e =>
  (World.cell?_setCell_other w p ⟨b, o, none⟩ u (by rintro rfl; rw [hp o] at e; cases e)).trans (h b o v e)
theorem Keeps.grown {D : Gh} {w w' : World} {row : Option Nat} (h : Keeps D w) (hg : w.grownBy w' row) (hr : ∀ g, row = some g → D.off g) : Keeps D w' := fun b o v e =>
  (World.cell?_of_block (a := ⟨b, o, none⟩) (hg.block b (h.lt e) (fun q => by rw [hr b q.symm o] at e; cases e))).trans (h b o v e)

theorem Grow.refl {w : World} {D : Gh} (h : Keeps D w) : Grow w D w D := ⟨Below.refl _ _, h, Gh.le.refl _, fun _ _ _ => rfl⟩
theorem Grow.trans {w w' w'' : World} {D D' D'' : Gh} (h : Grow w D w' D') (k : Grow w' D' w'' D'') : Grow w D w'' D'' :=
  ⟨h.below.trans (k.below.mono h.below.size), k.keeps, h.le.trans k.le, fun b hb o => (k.old b (Nat.lt_of_lt_of_le hb h.below.size) o).trans (h.old b hb o)⟩
theorem Grow.of_below {w w' : World} {D : Gh} (h : Keeps D w) (hb : Below w.heap.size w w') : Grow w D w' D :=
  ⟨hb, h.below hb (Nat.le_refl _), Gh.le.refl _, fun _ _ _ => rfl⟩
theorem Grow.off {w w' : World} {D D' : Gh} (h : Grow w D w' D') {g : Nat} (hg : g < w.heap.size) (ho : D.off g) : D'.off g := fun o => (h.old g hg o).trans (ho o)

/-- Cells cs of block g are known from now on. -/
def Gh.add (D : Gh) (g : Nat) (cs : List Value) : Gh := fun b o => if b = g then cs[o]? else D b o
theorem Gh.le_add {D : Gh} {g : Nat} (h : D.off g) (cs : List Value) : D.le (D.add g cs) := fun b o v e => by
  unfold Gh.add
  split
  · rename_i hb; subst hb; rw [h o] at e; cases e
  · exact e
theorem Keeps.add {D : Gh} {w : World} (h : Keeps D w) {g : Nat} {cs : List Value} (hc : ∀ o v, cs[o]? = some v → w.cell? ⟨g, o, none⟩ = some v) : Keeps (D.add g cs) w := fun b o v e => by
  unfold Gh.add at e
  split at e
  · rename_i hb; subst hb; exact hc o v e
  · exact h b o v e
theorem Gh.add_at (D : Gh) (g : Nat) (cs : List Value) (o : Nat) : D.add g cs g o = cs[o]? := by simp [Gh.add]
theorem Gh.add_off {D : Gh} {g g' : Nat} (cs : List Value) (h : D.off g') (hne : g' ≠ g) : (D.add g cs).off g' := fun o => by simp [Gh.add, hne, h o]

/-- The slice value v reads as the cells vs (elements of one cell). -/
def Sl (D : Gh) (v : Value) (vs : List Value) : Prop :=
  ∃ a c, v = .slice a vs.length c ∧ vs.length ≤ c ∧ c ≤ maxLen ∧ (a = none → c = 0) ∧
    (0 < vs.length → ∃ b o, a = some ⟨b, o, none⟩ ∧ ∀ j u, vs[j]? = some u → D b (o + j) = some u)

theorem Sl.le {D D' : Gh} {v : Value} {vs : List Value} (h : Sl D v vs) (hd : D.le D') : Sl D' v vs := by
  obtain ⟨a, c, hv, h1, h2, h3, h4⟩ := h
  exact ⟨a, c, hv, h1, h2, h3, fun hp => let ⟨b, o, ha, hc⟩ := h4 hp; ⟨b, o, ha, fun j u e => hd _ _ _ (hc j u e)⟩⟩
theorem Sl.nil (D : Gh) : Sl D (.slice none 0 0) [] := ⟨none, 0, rfl, by simp, by simp [maxLen], fun _ => rfl, fun h => by simp at h⟩

/-- A byte as a cell. -/
def bv (u : UInt8) : Value := .int .u8 (u.toNat : Int)
/-- The slice value v reads as the bytes bs. -/
def BS (D : Gh) (v : Value) (bs : List UInt8) : Prop := Sl D v (bs.map bv)
/-- The slice value v reads as the byte slices xs. -/
def SS (D : Gh) (v : Value) (xs : List (List UInt8)) : Prop := ∃ vs, Sl D v vs ∧ vs.length = xs.length ∧ ∀ (j : Nat) x u, xs[j]? = some x → vs[j]? = some u → BS D u x

theorem BS.le {D D' : Gh} {v : Value} {bs : List UInt8} (h : BS D v bs) (hd : D.le D') : BS D' v bs := Sl.le h hd
theorem SS.le {D D' : Gh} {v : Value} {xs : List (List UInt8)} (h : SS D v xs) (hd : D.le D') : SS D' v xs := by
  obtain ⟨vs, h1, h2, h3⟩ := h
  exact ⟨vs, h1.le hd, h2, fun j x u a b => (h3 j x u a b).le hd⟩
theorem BS.nil (D : Gh) : BS D (.slice none 0 0) [] := Sl.nil D
theorem SS.nil (D : Gh) : SS D (.slice none 0 0) [] := ⟨[], Sl.nil D, rfl, fun j x u a => by simp at a⟩

/-- Block g is a variable of the call's own: just the cells cs; D knows nothing of it. -/
structure Box (w : World) (D : Gh) (g : Nat) (t : TypeId) (cs : Array Value) : Prop where
  heap : w.heap[g]? = some (.cells cs t (0, 0))
  off : D.off g
theorem Box.lt {w : World} {D : Gh} {g : Nat} {t : TypeId} {cs : Array Value} (h : Box w D g t cs) : g < w.heap.size := by
  rcases Nat.lt_or_ge g w.heap.size with hlt | hge
  · exact hlt
  · have := h.heap; rw [Array.getElem?_eq_none hge] at this; cases this
theorem Box.cell {w : World} {D : Gh} {g : Nat} {t : TypeId} {cs : Array Value} (h : Box w D g t cs) (i : Nat) : w.cell? ⟨g, i, none⟩ = cs[i]? := cell_of_row w g i cs t (0, 0) h.heap
theorem Box.frozen {w : World} {D : Gh} {g : Nat} {t : TypeId} {cs : Array Value} (h : Box w D g t cs) (i : Nat) : w.frozen? ⟨g, i, none⟩ = false := by
  simp [World.frozen?, h.heap]
theorem Box.new {w : World} {D : Gh} (hk : Keeps D w) (t : TypeId) (cs : Array Value) : Box (w.alloc (.cells cs t)) D w.heap.size t cs := ⟨heap_alloc_new w _, hk.offNew (Nat.le_refl _)⟩
theorem Box.drew {w : World} {D : Gh} {g : Nat} {t : TypeId} {cs : Array Value} (h : Box w D g t cs) : Box w.drew D g t cs := ⟨h.heap, h.off⟩
theorem Box.alloc {w : World} {D : Gh} {g : Nat} {t : TypeId} {cs : Array Value} (h : Box w D g t cs) (o : Obj) : Box (w.alloc o) D g t cs := ⟨(Below.heap_alloc w o g h.lt).trans h.heap, h.off⟩
theorem Box.set_ {w : World} {D : Gh} {g : Nat} {t : TypeId} {cs : Array Value} (h : Box w D g t cs) (i : Nat) (u : Value) : Box (w.setCell ⟨g, i, none⟩ u) D g t (cs.setIfInBounds i u) :=
  ⟨by simp [World.setCell, Array.getElem?_modify, h.heap], h.off⟩
theorem Box.far {w : World} {D : Gh} {g : Nat} {t : TypeId} {cs : Array Value} (h : Box w D g t cs) {p : Addr} (hp : g ≠ p.block) (u : Value) : Box (w.setCell p u) D g t cs := ⟨(Below.heap_setCell w p u g hp).trans h.heap, h.off⟩
theorem Box.grow {w w' : World} {D D' : Gh} {g : Nat} {t : TypeId} {cs : Array Value} (h : Box w D g t cs) (hg : Grow w D w' D') : Box w' D' g t cs := ⟨(hg.below.block g h.lt).trans h.heap, hg.off h.lt h.off⟩
theorem Box.grown {w w' : World} {D : Gh} {g : Nat} {t : TypeId} {cs : Array Value} {row : Option Nat} (h : Box w D g t cs) (hb : w.grownBy w' row) (hg : some g ≠ row) : Box w' D g t cs := ⟨(hb.block g h.lt hg).trans h.heap, h.off⟩
theorem Box.le {w : World} {D D' : Gh} {g : Nat} {t : TypeId} {cs : Array Value} (h : Box w D g t cs) (ho : D'.off g) : Box w D' g t cs := ⟨h.heap, ho⟩
theorem Box.ne {w : World} {D : Gh} {g g' : Nat} {t t' : TypeId} {cs cs' : Array Value} (h : Box w D g t cs) (h' : Box w D g' t' cs') (hne : t ≠ t') : g ≠ g' := by
  rintro rfl
  have := h.heap.symm.trans h'.heap
  injection this with this
  injection this with _ ht
  exact hne ht

theorem Box.cells4 {w : World} {D : Gh} {g : Nat} {t : TypeId} {a b c d : Value} (h : Box w D g t #[a, b, c, d]) :
    w.cell? ⟨g, 0, none⟩ = some a ∧ w.cell? ⟨g, 1, none⟩ = some b ∧ w.cell? ⟨g, 2, none⟩ = some c ∧ w.cell? ⟨g, 3, none⟩ = some d := ⟨h.cell 0, h.cell 1, h.cell 2, h.cell 3⟩
theorem Box.frozen4 {w : World} {D : Gh} {g : Nat} {t : TypeId} {cs : Array Value} (h : Box w D g t cs) :
    w.frozen? ⟨g, 0, none⟩ = false ∧ w.frozen? ⟨g, 1, none⟩ = false ∧ w.frozen? ⟨g, 2, none⟩ = false ∧ w.frozen? ⟨g, 3, none⟩ = false := ⟨h.frozen 0, h.frozen 1, h.frozen 2, h.frozen 3⟩

theorem Grow.drew {w w' : World} {D D' : Gh} (h : Grow w D w' D') : Grow w D w'.drew D' := ⟨h.below.drew, h.keeps, h.le, h.old⟩
theorem Grow.alloc {w w' : World} {D D' : Gh} (h : Grow w D w' D') (o : Obj) : Grow w D (w'.alloc o) D' := ⟨h.below.alloc h.below.size o, h.keeps.alloc o, h.le, h.old⟩
theorem Grow.setNew {w w' : World} {D D' : Gh} (h : Grow w D w' D') {p : Addr} (hp : w.heap.size ≤ p.block) (ho : D'.off p.block) (u : Value) : Grow w D (w'.setCell p u) D' :=
  ⟨h.below.setCell hp u, h.keeps.setCell ho u, h.le, h.old⟩

theorem off_add_lt {D : Gh} {n g : Nat} {cs : List Value} (hg : n ≤ g) (b : Nat) (hb : b < n) (o : Nat) : D.add g cs b o = D b o := by
  unfold Gh.add
  rw [if_neg (by omega)]

/-- A row of the call's own, from now on known and never written again. -/
theorem pub_row {w w' : World} {D : Gh} {base : Nat} {e : TypeId} {v : Value} {n : Nat} {vs : List Value} (hk : Keeps D w) (hb : Below w.heap.size w w') (hbase : w.heap.size ≤ base) (h : w'.ownsRow base e 1 v n vs) :
    ∃ D', Grow w D w' D' ∧ Sl D' v vs := by
  have hl : vs.length = n := by have := h.1; omega
  have hk' := hk.below hb (Nat.le_refl _)
  rcases h.2 with ⟨rfl, rfl⟩ | ⟨g, cap, cur, rfl, hg, hh, hnc, hcm, hsz, htk⟩
  · obtain rfl : vs = [] := List.eq_nil_of_length_eq_zero hl
    exact ⟨D, Grow.of_below hk hb, Sl.nil D⟩
  · have ho : D.off g := hk.offNew (by omega)
    refine ⟨D.add g vs, ⟨hb, hk'.add fun o u e => ?_, Gh.le_add ho _, fun b hb o => off_add_lt (by omega) b hb o⟩, ?_⟩
    · have := h.cells (g := g) rfl o u e
      simpa [Addr.add_lit] using this
    · refine ⟨some ⟨g, 0, none⟩, cap, by rw [hl], by omega, hcm, by simp, fun _ => ⟨g, 0, rfl, fun j u e => ?_⟩⟩
      rw [Nat.zero_add, Gh.add_at]; exact e

/-- A new block of bytes reads as these. -/
theorem BS.new {w w' : World} {D : Gh} (hk : Keeps D w) (bs : List UInt8) (t : TypeId) (hl : bs.length ≤ maxLen) (hc : w'.heap[w.heap.size]? = some (.cells (bs.map bv).toArray t (0, 0))) (hb : Below w.heap.size w w') :
    ∃ D', Grow w D w' D' ∧ BS D' (.slice (some ⟨w.heap.size, 0, none⟩) bs.length bs.length) bs := by
  have ho := hk.offNew (Nat.le_refl w.heap.size)
  refine ⟨D.add w.heap.size (bs.map bv), ⟨hb, ?_, Gh.le_add ho _, fun b hb o => off_add_lt (Nat.le_refl _) b hb o⟩, ?_⟩
  · refine (hk.below hb (Nat.le_refl _)).add fun o v e => ?_
    rw [cell_of_row _ _ _ _ _ _ hc]
    simpa using e
  · refine ⟨some ⟨w.heap.size, 0, none⟩, bs.length, by simp, by simp, hl, by simp, fun _ => ⟨_, _, rfl, fun j u e => ?_⟩⟩
    rw [Nat.zero_add, Gh.add_at]; exact e

/-- The cells of a slice that is known, in the world. -/
theorem Sl.cells {D : Gh} {w : World} (hk : Keeps D w) {a : Option Addr} {n c : Nat} {vs : List Value} (h : Sl D (.slice a n c) vs) :
    n = vs.length ∧ n ≤ c ∧ c ≤ maxLen ∧ (0 < n → ∃ b o, a = some ⟨b, o, none⟩ ∧ ∀ j u, vs[j]? = some u → w.cell? ⟨b, o + j, none⟩ = some u) := by
  obtain ⟨a', c', hv, h1, h2, h3, h4⟩ := h
  cases hv
  exact ⟨rfl, h1, h2, fun hp => let ⟨b, o, ha, hc⟩ := h4 hp; ⟨b, o, ha, fun j u e => hk _ _ _ (hc j u e)⟩⟩

section
variable {P : Program} (w : World)

theorem run_append_of_nil (base : Nat) (t ty e : TypeId) (i : TypeInfo) (size : Nat) (ht : P.underlying t = some (.slice e)) (hi : P.info? e = some i)
    (v : Value) (n : Nat) (xs : List Value) (hown : w.ownsRow base e size v n xs) (c : Nat) : (Builtin.append_ #[t, t] ty #[v, .slice none 0 c]).run P w = .ok v w := by
  rcases hown.2 with ⟨rfl, rfl⟩ | ⟨g, cap, cur, rfl, _, _, hnc, _⟩
  · simp [Builtin.append_, run_underlying ht, sizeOf, typeInfo, hi, Builtin.lenOf, Builtin.firstCells]
  · simp [Builtin.append_, run_underlying ht, sizeOf, typeInfo, hi, Builtin.lenOf, Builtin.firstCells, hnc, storeCells]

/-- append onto a row of the call's own; the source: a slice that is known, nil, empty or not. -/
theorem run_append_sl (base : Nat) (t ty e : TypeId) (i : TypeInfo) (z : Value) (bytes : Nat) (ht : P.underlying t = some (.slice e)) (hi : P.info? e = some i) (hz : i.zero = some z)
    (hsize : i.size = 1) (hby : i.bytes = bytes) (hzs : z.cells.size = 1)
    (v : Value) (n : Nat) (xs : List Value) (hown : w.ownsRow base e 1 v n xs)
    (D : Gh) (hk : Keeps D w) (A : Option Addr) (m c : Nat) (news : List Value) (hr : Sl D (.slice A m c) news) (h1 : ∀ u ∈ news, u.oneCell' = true)
    (h63 : n + m ≤ maxLen) (hbytes : (n + m) * bytes ≤ 140737488355328) (hbase : base ≤ w.heap.size) :
    ∃ A' cap' w', (Builtin.append_ #[t, t] ty #[v, .slice A m c]).run P w = .ok (.slice A' (n + m) cap') w' ∧ w'.ownsRow base e 1 (.slice A' (n + m) cap') (n + m) (xs ++ news) ∧ w.grownBy w' v.ownBlock ∧
      (Value.ownBlock (.slice A' (n + m) cap') = v.ownBlock ∨ Value.ownBlock (.slice A' (n + m) cap') = some w.heap.size) := by
  obtain ⟨hm, _, _, hc⟩ := hr.cells hk
  have key : ∃ v' w', (Builtin.append_ #[t, t] ty #[v, .slice A m c]).run P w = .ok v' w' ∧ w'.ownsRow base e 1 v' (n + m) (xs ++ news) ∧ w.grownBy w' v.ownBlock ∧ (v'.ownBlock = v.ownBlock ∨ v'.ownBlock = some w.heap.size) := by
    rcases A with _ | ad
    · have h0 : m = 0 := by
        rcases Nat.eq_zero_or_pos m with h0 | h0
        · exact h0
        · obtain ⟨b, o, h, _⟩ := hc h0; cases h
      subst h0
      have hn : news = [] := List.eq_nil_of_length_eq_zero hm.symm
      subst hn
      exact ⟨v, w, run_append_of_nil w base t ty e i 1 ht hi v n xs hown c, by simpa using hown, World.grownBy.refl w _, .inl rfl⟩
    · have hcells : ∀ j u, news[j]? = some u → w.cell? (ad.add j) = some u := by
        intro j u hu
        rcases Nat.eq_zero_or_pos m with h0 | h0
        · have hn : news = [] := List.eq_nil_of_length_eq_zero (by omega)
          subst hn
          simp at hu
        · obtain ⟨b, o, h, hcc⟩ := hc h0
          injection h with h
          subst h
          rw [Addr.add_lit]
          exact hcc j u hu
      obtain ⟨v', w', hrun, h2, h3, _, h5⟩ := run_append_own_at (P := P) w base t ty e i z 1 bytes ht hi hz hsize hby hzs (by omega) v n xs hown ad m c news (by omega) hcells h1 h63 hbytes hbase
      exact ⟨v', w', hrun, h2, h3, h5⟩
  obtain ⟨v', w', hrun, h2, h3, h4⟩ := key
  rcases h2.2 with ⟨rfl, h0⟩ | ⟨g, cap, cur, rfl, _⟩
  · have e0 : n + m = 0 := h0
    refine ⟨none, 0, w', by rw [e0]; exact hrun, by rw [e0] at h2 ⊢; exact h2, h3, by simpa [Value.ownBlock] using h4⟩
  · exact ⟨_, _, w', hrun, h2, h3, h4⟩

theorem wp_append_sl {o : Oper} {a : Act} {K : Act → World → Prop} {Q : Exit → Act → World → Prop} (s x : Operand) (t : TypeId)
    (ho : o.op = .call { callee := .builtin .append, args := #[s, x], argTypes := #[t, t] })
    (base : Nat) (e : TypeId) (i : TypeInfo) (z : Value) (bytes : Nat) (ht : P.underlying t = some (.slice e)) (hi : P.info? e = some i) (hz : i.zero = some z)
    (hsize : i.size = 1) (hby : i.bytes = bytes) (hzs : z.cells.size = 1)
    (v : Value) (n : Nat) (xs : List Value) (hs : a.eval s = v) (hown : w.ownsRow base e 1 v n xs)
    (D : Gh) (hk : Keeps D w) (A : Option Addr) (m c : Nat) (news : List Value) (hx : a.eval x = .slice A m c) (hr : Sl D (.slice A m c) news) (h1 : ∀ u ∈ news, u.oneCell' = true)
    (h63 : n + m ≤ maxLen) (hbytes : (n + m) * bytes ≤ 140737488355328) (hbase : base ≤ w.heap.size)
    (h : ∀ A' cap' w', w'.ownsRow base e 1 (.slice A' (n + m) cap') (n + m) (xs ++ news) → w.grownBy w' v.ownBlock → (Value.ownBlock (.slice A' (n + m) cap') = v.ownBlock ∨ Value.ownBlock (.slice A' (n + m) cap') = some w.heap.size) → K (a.put o.dst (.slice A' (n + m) cap')) w') : o.wp P a w K Q := by
  obtain ⟨A', cap', w', hrun, h2, h3, h4⟩ := run_append_sl (P := P) w base t o.type e i z bytes ht hi hz hsize hby hzs v n xs hown D hk A m c news hr h1 h63 hbytes hbase
  unfold Oper.wp execOp
  simp only [ho, resolve, invoke, builtin, Sem.run_bind, Sem.run_pure, Result.andThen_ok, List.map_toArray, List.map_cons, List.map_nil, hs, hx, hrun]
  exact h A' cap' w' h2 h3 h4

theorem wpList_append_sl {ops : Array Oper} {rest : List Oper} {o : Oper} {a : Act} {Q : Exit → Act → World → Prop} (hgd : o.guard = none) (s x : Operand) (t : TypeId)
    (ho : o.op = .call { callee := .builtin .append, args := #[s, x], argTypes := #[t, t] })
    (base : Nat) (e : TypeId) (i : TypeInfo) (z : Value) (bytes : Nat) (ht : P.underlying t = some (.slice e)) (hi : P.info? e = some i) (hz : i.zero = some z)
    (hsize : i.size = 1) (hby : i.bytes = bytes) (hzs : z.cells.size = 1)
    (v : Value) (n : Nat) (xs : List Value) (hs : a.eval s = v) (hown : w.ownsRow base e 1 v n xs)
    (D : Gh) (hk : Keeps D w) (A : Option Addr) (m c : Nat) (news : List Value) (hx : a.eval x = .slice A m c) (hr : Sl D (.slice A m c) news) (h1 : ∀ u ∈ news, u.oneCell' = true)
    (h63 : n + m ≤ maxLen) (hbytes : (n + m) * bytes ≤ 140737488355328) (hbase : base ≤ w.heap.size)
    (h : ∀ A' cap' w', w'.ownsRow base e 1 (.slice A' (n + m) cap') (n + m) (xs ++ news) → w.grownBy w' v.ownBlock → (Value.ownBlock (.slice A' (n + m) cap') = v.ownBlock ∨ Value.ownBlock (.slice A' (n + m) cap') = some w.heap.size) → wpList P ops Q rest (a.put o.dst (.slice A' (n + m) cap')) w') : wpList P ops Q (o :: rest) a w :=
  wpList_plain hgd fun _ hK => wp_append_sl w s x t ho base e i z bytes ht hi hz hsize hby hzs v n xs hs hown D hk A m c news hx hr h1 h63 hbytes hbase fun A' c' w' h2 h3 h4 => hK _ _ (h A' c' w' h2 h3 h4)

theorem step_append_sl {ops : Array Oper} {o : Oper} {a : Act} {K : Act → World → Prop} {Q : Exit → Act → World → Prop} {E : Prop} (hgd : o.guard = none) (s x : Operand) (t : TypeId)
    (ho : o.op = .call { callee := .builtin .append, args := #[s, x], argTypes := #[t, t] })
    (base : Nat) (e : TypeId) (i : TypeInfo) (z : Value) (bytes : Nat) (ht : P.underlying t = some (.slice e)) (hi : P.info? e = some i) (hz : i.zero = some z)
    (hsize : i.size = 1) (hby : i.bytes = bytes) (hzs : z.cells.size = 1)
    (v : Value) (n : Nat) (xs : List Value) (hs : a.eval s = v) (hown : w.ownsRow base e 1 v n xs)
    (D : Gh) (hk : Keeps D w) (A : Option Addr) (m c : Nat) (news : List Value) (hx : a.eval x = .slice A m c) (hr : Sl D (.slice A m c) news) (h1 : ∀ u ∈ news, u.oneCell' = true)
    (h63 : n + m ≤ maxLen) (hbytes : (n + m) * bytes ≤ 140737488355328) (hbase : base ≤ w.heap.size)
    (h : ∀ A' cap' w', w'.ownsRow base e 1 (.slice A' (n + m) cap') (n + m) (xs ++ news) → w.grownBy w' v.ownBlock → (Value.ownBlock (.slice A' (n + m) cap') = v.ownBlock ∨ Value.ownBlock (.slice A' (n + m) cap') = some w.heap.size) → K (a.put o.dst (.slice A' (n + m) cap')) w') :
    if Region.wanted o (yielded ops a.tmps) = true then Oper.wp P o a w K Q else E := by
  have hw : Region.wanted o (yielded ops a.tmps) = true := by simp [Region.wanted, hgd]
  rw [if_pos hw]
  exact wp_append_sl w s x t ho base e i z bytes ht hi hz hsize hby hzs v n xs hs hown D hk A m c news hx hr h1 h63 hbytes hbase h
end

theorem bv_one (bs : List UInt8) : ∀ u ∈ bs.map bv, u.oneCell' = true := by
  intro u hu
  obtain ⟨b, _, rfl⟩ := List.mem_map.1 hu
  rfl

/-- A slice literal of no elements: a row of the call's own. -/
theorem own_empty {w : World} {base g : Nat} {e : TypeId} (hg : base ≤ g) (h : w.heap[g]? = some (.cells #[] e (0, 0))) : w.ownsRow base e 1 (.slice (some ⟨g, 0, none⟩) 0 0) 0 [] :=
  ⟨by simp, .inr ⟨g, 0, #[], rfl, hg, h, Nat.le_refl _, by simp [maxLen], by simp, by simp⟩⟩

theorem BS.form {D : Gh} {v : Value} {bs : List UInt8} (h : BS D v bs) : ∃ a c, v = .slice a bs.length c ∧ bs.length ≤ c ∧ c ≤ maxLen := by
  obtain ⟨a, c, hv, h1, h2, _⟩ := h
  simp only [List.length_map] at *
  exact ⟨a, c, hv, h1, h2⟩
theorem BS.at_ {D : Gh} {w : World} {a : Option Addr} {n c : Nat} {bs : List UInt8} (h : BS D (.slice a n c) bs) (hk : Keeps D w) {k : Nat} (hlt : k < bs.length) :
    ∃ b o, a = some ⟨b, o, none⟩ ∧ w.cell? ⟨b, o + k, none⟩ = some (.int .u8 (bs[k].toNat : Int)) := by
  obtain ⟨hn, _, _, hc⟩ := Sl.cells hk h
  simp only [List.length_map] at hn
  obtain ⟨b, o, ha, hcc⟩ := hc (by omega)
  exact ⟨b, o, ha, hcc k _ (by simp [List.getElem?_eq_getElem hlt, bv])⟩
theorem SS.form {D : Gh} {v : Value} {xs : List (List UInt8)} (h : SS D v xs) : ∃ a c, v = .slice a xs.length c ∧ xs.length ≤ c ∧ c ≤ maxLen := by
  obtain ⟨vs, ⟨a, c, hv, h1, h2, _⟩, hl, _⟩ := h
  exact ⟨a, c, hl ▸ hv, hl ▸ h1, h2⟩
theorem SS.len {D : Gh} {a : Option Addr} {n c : Nat} {xs : List (List UInt8)} (h : SS D (.slice a n c) xs) : n = xs.length ∧ n ≤ c ∧ c ≤ maxLen := by
  obtain ⟨a', c', hv, h1, h2⟩ := h.form
  cases hv
  exact ⟨rfl, h1, h2⟩
theorem BS.len {D : Gh} {a : Option Addr} {n c : Nat} {bs : List UInt8} (h : BS D (.slice a n c) bs) : n = bs.length ∧ n ≤ c ∧ c ≤ maxLen := by
  obtain ⟨a', c', hv, h1, h2⟩ := h.form
  cases hv
  exact ⟨rfl, h1, h2⟩
theorem SS.at_ {D : Gh} {w : World} {a : Option Addr} {n c : Nat} {xs : List (List UInt8)} (h : SS D (.slice a n c) xs) (hk : Keeps D w) {k : Nat} (hlt : k < xs.length) :
    ∃ b o a' c', a = some ⟨b, o, none⟩ ∧ w.cell? ⟨b, o + k, none⟩ = some (.slice a' xs[k].length c') ∧ BS D (.slice a' xs[k].length c') xs[k] := by
  obtain ⟨vs, hs, hl, hb⟩ := h
  obtain ⟨hn, _, _, hc⟩ := hs.cells hk
  obtain ⟨b, o, ha, hcc⟩ := hc (by omega)
  have hv : vs[k]? = some vs[k] := List.getElem?_eq_getElem (by omega)
  have hbs := hb k _ _ (List.getElem?_eq_getElem hlt) hv
  obtain ⟨a', c', hv', _⟩ := hbs.form
  refine ⟨b, o, a', c', ha, ?_, hv' ▸ hbs⟩
  rw [hcc k _ hv, hv']

theorem belowVia {w M w1 : World} (h : Below M.heap.size M w1) (k : Below w.heap.size w M) : Below w.heap.size w w1 := k.trans (h.mono k.size)
theorem Box.below {w w' : World} {D : Gh} {g B : Nat} {t : TypeId} {cs : Array Value} (h : Box w D g t cs) (hb : Below B w w') (hg : g < B) : Box w' D g t cs := ⟨(hb.block g hg).trans h.heap, h.off⟩

section
variable {P : Program} {w : World}
/-- copy into a row of the call's own, from a slice that is known. -/
theorem run_copy_sl (dT sT ty elem : TypeId) (hu : P.underlying dT = some (.slice elem)) (hsz : (P.info? elem).map (·.size) = some 1)
    (base : Nat) (dA : Option Addr) (n cap : Nat) (xs : List Value) (hown : w.ownsRow base elem 1 (.slice dA n cap) n xs)
    (D : Gh) (hk : Keeps D w) (A : Option Addr) (m c : Nat) (news : List Value) (hr : Sl D (.slice A m c) news) (h1 : ∀ u ∈ news, u.oneCell' = true) :
    ∃ w', (Builtin.copy_ #[dT, sT] ty #[.slice dA n cap, .slice A m c]).run P w = .ok (goInt (Nat.min m n)) w' ∧ w'.ownsRow base elem 1 (.slice dA n cap) n (news.take n ++ xs.drop m) ∧ w.grownBy w' (Value.ownBlock (.slice dA n cap)) := by
  obtain ⟨hm, _, _, hc⟩ := hr.cells hk
  have hxl : xs.length = n := by have := hown.1; omega
  by_cases h0 : Nat.min m n = 0
  · refine ⟨w, by rw [h0]; exact run_copy_none (P := P) w dT sT ty elem dA A n cap m c hu hsz h0, ?_, World.grownBy.refl w _⟩
    have : news.take n ++ xs.drop m = xs := by
      rcases Nat.eq_zero_or_pos m with e | e
      · obtain rfl : news = [] := List.eq_nil_of_length_eq_zero (by omega)
        simp [e]
      · have e2 : n = 0 := by simp only [Nat.min_def] at h0; split at h0 <;> omega
        obtain rfl : xs = [] := List.eq_nil_of_length_eq_zero (by omega)
        simp [e2]
    rw [this]; exact hown
  · have hmp : 0 < m := by rcases Nat.eq_zero_or_pos m with e | e; · simp [e] at h0
                           · exact e
    have hnp : 0 < n := by rcases Nat.eq_zero_or_pos n with e | e; · simp [e] at h0
                           · exact e
    obtain ⟨b, o, rfl, hcc⟩ := hc hmp
    rcases hown.2 with ⟨_, h⟩ | ⟨g, cap', cur, hv, hbg, hg, hnc, hcm, hcs, htk⟩
    · omega
    · cases hv
      have hlen : (news.take n).length = Nat.min m n := by rw [List.length_take, hm]; simp [Nat.min_comm]
      have hK1 : Nat.min m n ≤ m := Nat.min_le_left _ _
      have hK2 : Nat.min m n ≤ n := Nat.min_le_right _ _
      have hK3 : Nat.min m n = m ∨ Nat.min m n = n := by rcases Nat.le_total m n with h | h; · exact .inl (Nat.min_eq_left h)
                                                         · exact .inr (Nat.min_eq_right h)
      have hcur : cur.toList.length = cap := by simp; omega
      have hrun := run_copy_row (P := P) w dT sT ty elem g 0 n cap ⟨b, o, none⟩ m c cur elem (news.take n) hu hsz hg hlen (fun j v e => by
        rw [Addr.add_lit]
        refine hcc j v ?_
        rw [List.getElem?_take] at e
        split at e
        · exact e
        · cases e) (by rw [hlen]; omega) (fun v hv => h1 v (List.mem_of_mem_take hv))
      rw [hlen] at hrun
      refine ⟨_, hrun, ⟨?_, .inr ⟨g, cap, _, rfl, hbg, setRow_heap w g _ _ elem _ hg, hnc, hcm, ?_, ?_⟩⟩, ⟨rfl, rfl, rfl, by simp [World.setRow], fun k _ hk => setRow_other w g k _ (fun e => hk (by simp [e, Value.ownBlock]))⟩⟩
      · rw [List.length_append, hlen, List.length_drop, hxl]; omega
      · simp only [List.size_toArray, List.length_append, hlen, List.length_drop, List.take_zero, List.length_nil, hcur, Nat.zero_add]
        omega
      · simp only [Nat.mul_one, List.take_zero, List.nil_append, Nat.zero_add] at htk ⊢
        rw [← htk]
        apply List.ext_getElem?
        intro j
        rw [List.getElem?_take]
        by_cases hj : j < n
        · rw [if_pos hj]
          by_cases hjm : j < Nat.min m n
          · rw [List.getElem?_append_left (by rw [hlen]; exact hjm), List.getElem?_append_left (by rw [hlen]; exact hjm)]
          · have hmn : Nat.min m n = m := by omega
            rw [List.getElem?_append_right (by rw [hlen]; omega), List.getElem?_append_right (by rw [hlen]; omega), List.getElem?_drop, List.getElem?_drop, hlen, List.getElem?_take, hmn, if_pos (by omega)]
        · rw [if_neg hj]
          symm
          apply List.getElem?_eq_none
          rw [List.length_append, hlen, List.length_drop, List.length_take, hcur]
          omega

theorem wpList_copy_sl {ops : Array Oper} {rest : List Oper} {o : Oper} {a : Act} {Q : Exit → Act → World → Prop} (hgd : o.guard = none) (d s : Operand) (dT sT : TypeId)
    (ho : o.op = .call { callee := .builtin .copy, args := #[d, s], argTypes := #[dT, sT] }) (elem : TypeId) (hu : P.underlying dT = some (.slice elem)) (hsz : (P.info? elem).map (·.size) = some 1)
    (base : Nat) (dA : Option Addr) (n cap : Nat) (hd : a.eval d = .slice dA n cap) (xs : List Value) (hown : w.ownsRow base elem 1 (.slice dA n cap) n xs)
    (D : Gh) (hk : Keeps D w) (A : Option Addr) (m c : Nat) (hs : a.eval s = .slice A m c) (news : List Value) (hr : Sl D (.slice A m c) news) (h1 : ∀ u ∈ news, u.oneCell' = true)
    (h : ∀ w', w'.ownsRow base elem 1 (.slice dA n cap) n (news.take n ++ xs.drop m) → w.grownBy w' (Value.ownBlock (.slice dA n cap)) → wpList P ops Q rest (a.put o.dst (goInt (Nat.min m n))) w') :
    wpList P ops Q (o :: rest) a w := by
  refine wpList_plain hgd fun K hK => ?_
  obtain ⟨w', hrun, h2, h3⟩ := run_copy_sl (P := P) dT sT o.type elem hu hsz base dA n cap xs hown D hk A m c news hr h1
  unfold Oper.wp
  simp only [execOp, ho, resolve, invoke, builtin, Sem.run_bind, Sem.run_pure, Result.andThen_ok, List.map_toArray, List.map_cons, List.map_nil, hd, hs, hrun]
  exact hK _ _ (h w' h2 h3)
end

/-- A slice that is known, cut: s[:k]. -/
theorem Sl.take {D : Gh} {a : Option Addr} {n c : Nat} {vs : List Value} (h : Sl D (.slice a n c) vs) {k : Nat} (hk : k ≤ n) : Sl D (.slice a k c) (vs.take k) := by
  obtain ⟨a', c', hv, h1, h2, h3, h4⟩ := h
  cases hv
  have hl : (vs.take k).length = k := by rw [List.length_take]; omega
  refine ⟨a, c, by rw [hl], by omega, h2, h3, fun hp => ?_⟩
  obtain ⟨b, o, ha, hc⟩ := h4 (by omega)
  refine ⟨b, o, ha, fun j u e => hc j u ?_⟩
  rw [List.getElem?_take] at e
  split at e
  · exact e
  · cases e

end Go.VS
