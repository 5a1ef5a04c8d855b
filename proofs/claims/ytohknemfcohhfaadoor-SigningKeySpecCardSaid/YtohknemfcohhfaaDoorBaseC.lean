/-
  What is proved here: slices whose elements are of several cells (digests: 32 bytes each), read off the ghost memory; append onto a known slice without room; whole arrays in variables.
-/
import Derived.Test.YtohknemfcohhfaaDoorBaseB
import Derived.Deep.WholeRow
namespace Go.VS
open Go.RowKit

/-- The slice value v has n elements of s cells each: the cells vs. -/
def SlN (D : Gh) (s : Nat) (v : Value) (n : Nat) (vs : List Value) : Prop :=
  vs.length = n * s ∧ ∃ a c, v = .slice a n c ∧ n ≤ c ∧ c ≤ maxLen ∧ (a = none → c = 0) ∧
    (0 < n → ∃ b o, a = some ⟨b, o, none⟩ ∧ ∀ j u, vs[j]? = some u → D b (o + j) = some u)

theorem SlN.le {D D' : Gh} {s n : Nat} {v : Value} {vs : List Value} (h : SlN D s v n vs) (hd : D.le D') : SlN D' s v n vs := by
  obtain ⟨hl, a, c, hv, h1, h2, h3, h4⟩ := h
  exact ⟨hl, a, c, hv, h1, h2, h3, fun hp => let ⟨b, o, ha, hc⟩ := h4 hp; ⟨b, o, ha, fun j u e => hd _ _ _ (hc j u e)⟩⟩
theorem SlN.cells {D : Gh} {w : World} (hk : Keeps D w) {s n m c : Nat} {a : Option Addr} {vs : List Value} (h : SlN D s (.slice a m c) n vs) :
    m = n ∧ vs.length = n * s ∧ n ≤ c ∧ c ≤ maxLen ∧ (0 < n → ∃ b o, a = some ⟨b, o, none⟩ ∧ ∀ j u, vs[j]? = some u → w.cell? ⟨b, o + j, none⟩ = some u) := by
  obtain ⟨hl, a', c', hv, h1, h2, h3, h4⟩ := h
  cases hv
  exact ⟨rfl, hl, h1, h2, fun hp => let ⟨b, o, ha, hc⟩ := h4 hp; ⟨b, o, ha, fun j u e => hk _ _ _ (hc j u e)⟩⟩
theorem SlN.of_sl {D : Gh} {v : Value} {vs : List Value} (h : Sl D v vs) : SlN D 1 v vs.length vs := by
  obtain ⟨a, c, hv, h1, h2, h3, h4⟩ := h
  exact ⟨by simp, a, c, hv, h1, h2, h3, h4⟩
theorem SlN.to_sl {D : Gh} {v : Value} {n : Nat} {vs : List Value} (h : SlN D 1 v n vs) : Sl D v vs := by
  obtain ⟨hl, a, c, hv, h1, h2, h3, h4⟩ := h
  have : vs.length = n := by omega
  subst this
  exact ⟨a, c, hv, h1, h2, h3, h4⟩
theorem SlN.nil (D : Gh) (s : Nat) : SlN D s (.slice none 0 0) 0 [] := ⟨by simp, none, 0, rfl, by simp, by simp [maxLen], fun _ => rfl, fun h => by simp at h⟩
theorem SlN.empty (D : Gh) (s : Nat) (a : Option Addr) (c : Nat) (hc : c ≤ maxLen) (ha : a = none → c = 0) : SlN D s (.slice a 0 c) 0 [] := ⟨by simp, a, c, rfl, by simp, hc, ha, fun h => by simp at h⟩
theorem SlN.take {D : Gh} {s : Nat} {a : Option Addr} {n m c : Nat} {vs : List Value} (h : SlN D s (.slice a m c) n vs) {k : Nat} (hk : k ≤ n) : SlN D s (.slice a k c) k (vs.take (k * s)) := by
  obtain ⟨hl, a', c', hv, h1, h2, h3, h4⟩ := h
  cases hv
  have hks : k * s ≤ n * s := Nat.mul_le_mul_right _ hk
  refine ⟨by rw [List.length_take]; omega, a, c, rfl, by omega, h2, h3, fun hp => ?_⟩
  obtain ⟨b, o, ha, hc⟩ := h4 (by omega)
  refine ⟨b, o, ha, fun j u e => hc j u ?_⟩
  rw [List.getElem?_take] at e
  split at e
  · exact e
  · cases e
theorem SlN.drop {D : Gh} {s b o n m c : Nat} {vs : List Value} (h : SlN D s (.slice (some ⟨b, o, none⟩) m c) n vs) {k : Nat} (hk : k ≤ n) : SlN D s (.slice (some ⟨b, o + k * s, none⟩) (m - k) (c - k)) (n - k) (vs.drop (k * s)) := by
  obtain ⟨hl, a', c', hv, h1, h2, h3, h4⟩ := h
  cases hv
  refine ⟨by rw [List.length_drop, hl, Nat.sub_mul], some ⟨b, o + k * s, none⟩, c - k, rfl, by omega, by omega, by simp, fun hp => ?_⟩
  obtain ⟨b', o', ha, hc⟩ := h4 (by omega)
  cases ha
  refine ⟨b, o + k * s, rfl, fun j u e => ?_⟩
  rw [List.getElem?_drop] at e
  rw [Nat.add_assoc]
  exact hc _ u e

theorem Grow.pubN {w wr : World} {D D' : Gh} {base : Nat} {e : TypeId} {s : Nat} {v : Value} {n : Nat} {vs : List Value} (h : Grow w D wr D') (hown : wr.ownsRow base e s v n vs) (hb : w.heap.size ≤ base) (ho : ∀ g, v.ownBlock = some g → D'.off g) :
    ∃ D'', Grow w D wr D'' ∧ D'.le D'' ∧ SlN D'' s v n vs ∧ (∀ k, D'.off k → v.ownBlock ≠ some k → D''.off k) := by
  have hl : vs.length = n * s := hown.1
  rcases hown.2 with ⟨rfl, rfl⟩ | ⟨g, cap, cur, rfl, hg, hh, hnc, hcm, hsz, htk⟩
  · obtain rfl : vs = [] := List.eq_nil_of_length_eq_zero (by omega)
    exact ⟨D', h, Gh.le.refl _, SlN.nil D' s, fun k h _ => h⟩
  · have hoff : D'.off g := ho g rfl
    refine ⟨D'.add g vs, ⟨h.below, h.keeps.add fun o u e => ?_, h.le.trans (Gh.le_add hoff _), fun b hb' o => (off_add_lt (by omega) b hb' o).trans (h.old b hb' o)⟩, Gh.le_add hoff _, ?_, fun k hk hne => Gh.add_off _ hk (fun e => hne (by rw [e]; rfl))⟩
    · have := hown.cells (g := g) rfl o u e
      simpa [Addr.add_lit] using this
    · refine ⟨hl, some ⟨g, 0, none⟩, cap, rfl, by omega, hcm, by simp, fun _ => ⟨g, 0, rfl, fun j u e => ?_⟩⟩
      rw [Nat.zero_add, Gh.add_at]; exact e

/-- A variable that holds an array, from now on known and never written again. -/
theorem Grow.pubBox {w wr : World} {D D' : Gh} {g : Nat} {t : TypeId} {cs : Array Value} (h : Grow w D wr D') (hB : Box wr D' g t cs) (hb : w.heap.size ≤ g) :
    ∃ D'', Grow w D wr D'' ∧ D'.le D'' ∧ (∀ o u, cs[o]? = some u → D'' g o = some u) ∧ (∀ k, D'.off k → k ≠ g → D''.off k) := by
  refine ⟨D'.add g cs.toList, ⟨h.below, h.keeps.add fun o u e => ?_, h.le.trans (Gh.le_add hB.off _), fun b hb' o => (off_add_lt (by omega) b hb' o).trans (h.old b hb' o)⟩, Gh.le_add hB.off _, fun o u e => by rw [Gh.add_at]; simpa using e, fun k hk hne => Gh.add_off _ hk hne⟩
  rw [hB.cell]; simpa using e

section
variable {P : Program} (w : World)
/-- append onto a row of the call's own, elements of s cells; the source: a slice that is known. -/
theorem run_append_slN (base : Nat) (t ty e : TypeId) (i : TypeInfo) (z : Value) (s bytes : Nat) (ht : P.underlying t = some (.slice e)) (hi : P.info? e = some i) (hz : i.zero = some z)
    (hsize : i.size = s) (hby : i.bytes = bytes) (hzs : z.cells.size = s) (hs0 : 0 < s)
    (v : Value) (n : Nat) (xs : List Value) (hown : w.ownsRow base e s v n xs)
    (D : Gh) (hk : Keeps D w) (A : Option Addr) (m c : Nat) (news : List Value) (hr : SlN D s (.slice A m c) m news) (h1 : ∀ u ∈ news, u.oneCell' = true)
    (h63 : n + m ≤ maxLen) (hbytes : (n + m) * bytes ≤ 140737488355328) (hbase : base ≤ w.heap.size) :
    ∃ A' cap' w', (Builtin.append_ #[t, t] ty #[v, .slice A m c]).run P w = .ok (.slice A' (n + m) cap') w' ∧ w'.ownsRow base e s (.slice A' (n + m) cap') (n + m) (xs ++ news) ∧ w.grownBy w' v.ownBlock ∧
      (Value.ownBlock (.slice A' (n + m) cap') = v.ownBlock ∨ Value.ownBlock (.slice A' (n + m) cap') = some w.heap.size) := by
  obtain ⟨_, hm, _, _, hc⟩ := hr.cells hk
  have key : ∃ v' w', (Builtin.append_ #[t, t] ty #[v, .slice A m c]).run P w = .ok v' w' ∧ w'.ownsRow base e s v' (n + m) (xs ++ news) ∧ w.grownBy w' v.ownBlock ∧ (v'.ownBlock = v.ownBlock ∨ v'.ownBlock = some w.heap.size) := by
    rcases A with _ | ad
    · have h0 : m = 0 := by
        rcases Nat.eq_zero_or_pos m with h0 | h0
        · exact h0
        · obtain ⟨b, o, h, _⟩ := hc h0; cases h
      subst h0
      have hn : news = [] := List.eq_nil_of_length_eq_zero (by omega)
      subst hn
      exact ⟨v, w, run_append_of_nil w base t ty e i s ht hi v n xs hown c, by simpa using hown, World.grownBy.refl w _, .inl rfl⟩
    · have hcells : ∀ j u, news[j]? = some u → w.cell? (ad.add j) = some u := by
        intro j u hu
        rcases Nat.eq_zero_or_pos m with h0 | h0
        · have hn : news = [] := List.eq_nil_of_length_eq_zero (by rw [hm, h0]; simp)
          subst hn
          simp at hu
        · obtain ⟨b, o, h, hcc⟩ := hc h0
          injection h with h
          subst h
          rw [Addr.add_lit]
          exact hcc j u hu
      obtain ⟨v', w', hrun, h2, h3, _, h5⟩ := run_append_own_at (P := P) w base t ty e i z s bytes ht hi hz hsize hby hzs hs0 v n xs hown ad m c news (by omega) hcells h1 h63 hbytes hbase
      exact ⟨v', w', hrun, h2, h3, h5⟩
  obtain ⟨v', w', hrun, h2, h3, h4⟩ := key
  rcases h2.2 with ⟨rfl, h0⟩ | ⟨g, cap, cur, rfl, _⟩
  · have e0 : n + m = 0 := h0
    refine ⟨none, 0, w', by rw [e0]; exact hrun, by rw [e0] at h2 ⊢; exact h2, h3, by simpa [Value.ownBlock] using h4⟩
  · exact ⟨_, _, w', hrun, h2, h3, h4⟩

/-- append onto a known slice without room: the old one, or a new row; known from then on. -/
theorem run_append_full (t ty e : TypeId) (i : TypeInfo) (z : Value) (bytes : Nat) (ht : P.underlying t = some (.slice e)) (hi : P.info? e = some i) (hz : i.zero = some z)
    (hsize : i.size = 1) (hby : i.bytes = bytes) (hzs : z.cells.size = 1)
    (D : Gh) (hk : Keeps D w) (B : Option Addr) (n : Nat) (xs : List Value) (hx : Sl D (.slice B n n) xs) (hn0 : 0 < n)
    (A : Option Addr) (m c : Nat) (news : List Value) (hr : Sl D (.slice A m c) news)
    (h63 : n + m ≤ maxLen) (hbytes : (n + m) * bytes ≤ 140737488355328) :
    ∃ A' cap' w', (Builtin.append_ #[t, t] ty #[.slice B n n, .slice A m c]).run P w = .ok (.slice A' (n + m) cap') w' ∧ ∃ D', Grow w D w' D' ∧ Sl D' (.slice A' (n + m) cap') (xs ++ news) := by
  obtain ⟨hnl, _, hnm, hcx⟩ := hx.cells hk
  obtain ⟨hml, _, _, hcr⟩ := hr.cells hk
  obtain ⟨b, o, rfl, hcells⟩ := hcx hn0
  rcases Nat.eq_zero_or_pos m with h0 | h0
  · subst h0
    obtain rfl : news = [] := List.eq_nil_of_length_eq_zero hml.symm
    refine ⟨some ⟨b, o, none⟩, n, w, ?_, D, Grow.refl hk, by simpa using hx⟩
    rcases A with _ | ad
    · simp [Builtin.append_, run_underlying ht, sizeOf, typeInfo, hi, Builtin.lenOf, Builtin.firstCells, storeCells]
    · simp [Builtin.append_, run_underlying ht, sizeOf, typeInfo, hi, Builtin.lenOf, Builtin.firstCells, loadCells, loadCellsFrom, storeCells]
  · obtain ⟨b2, o2, rfl, hcells2⟩ := hcr h0
    have hrun := run_append_grow (P := P) w t ty e i z ht hi hz ⟨b, o, none⟩ n n xs (by rw [hsize]; omega) (fun j u e => by rw [Addr.add_lit]; exact hcells j u e) ⟨b2, o2, none⟩ m c news (by rw [hsize]; omega) (fun j u e => by rw [Addr.add_lit]; exact hcells2 j u e) (by omega) (by unfold maxLen at h63; omega) (by rw [hby]; exact growslice_fits (by omega) hbytes)
    refine ⟨_, _, _, hrun, ?_⟩
    have hge := grownCap_ge w (n + m) n e
    have hcm : grownCap w (n + m) n e ≤ maxLen := grownCap_le_maxLen w (n + m) n e h63
    have hb : Below w.heap.size w (w.drew.alloc (.cells (xs.toArray ++ news.toArray ++ Builtin.zeroCells z.cells (grownCap w (n + m) n e - (n + m))) e)) := (Below.refl _ _).drew.alloc (Nat.le_refl _) _
    have hown : World.ownsRow (w.drew.alloc (.cells (xs.toArray ++ news.toArray ++ Builtin.zeroCells z.cells (grownCap w (n + m) n e - (n + m))) e)) w.heap.size e 1 (.slice (some ⟨w.heap.size, 0, none⟩) (n + m) (grownCap w (n + m) n e)) (n + m) (xs ++ news) := by
      refine ⟨by simp; omega, .inr ⟨w.heap.size, _, _, rfl, Nat.le_refl _, heap_alloc_new w.drew _, hge, hcm, ?_, ?_⟩⟩
      · simp only [Array.size_append, List.size_toArray, size_zeroCells, hzs]
        omega
      · have hlen : (n + m) * 1 = (xs ++ news).length := by simp; omega
        simp only [Array.toList_append, List.append_assoc]
        rw [← List.append_assoc, hlen]
        exact List.take_left
    exact pub_row hk hb (Nat.le_refl _) hown
end

/-- Digests, one after another, as cells. -/
def flat (ds : List (List UInt8)) : List Value := ds.flatMap (·.map bv)
/-- The slice value v reads as the digests ds. -/
def DS (D : Gh) (v : Value) (ds : List (List UInt8)) : Prop := (∀ d ∈ ds, d.length = 32) ∧ SlN D 32 v ds.length (flat ds)
theorem DS.le {D D' : Gh} {v : Value} {ds : List (List UInt8)} (h : DS D v ds) (hd : D.le D') : DS D' v ds := ⟨h.1, h.2.le hd⟩
theorem DS.nil (D : Gh) : DS D (.slice none 0 0) [] := ⟨fun d h => by simp at h, SlN.nil D 32⟩
theorem flat_length (ds : List (List UInt8)) (h : ∀ d ∈ ds, d.length = 32) : (flat ds).length = ds.length * 32 := by
  induction ds with
  | nil => rfl
  | cons d r ih =>
    have h1 := h d (by simp)
    have h2 := ih (fun x hx => h x (by simp [hx]))
    simp only [flat, List.flatMap_cons, List.length_append, List.length_map, List.length_cons] at h2 ⊢
    omega
theorem flat_append (a b : List (List UInt8)) : flat (a ++ b) = flat a ++ flat b := by simp [flat]
theorem flat_take (ds : List (List UInt8)) (h : ∀ d ∈ ds, d.length = 32) (k : Nat) : (flat ds).take (k * 32) = flat (ds.take k) := by
  induction ds generalizing k with
  | nil => simp [flat]
  | cons d r ih =>
    cases k with
    | zero => simp [flat]
    | succ k =>
      have h1 := h d (by simp)
      have h2 := ih (fun x hx => h x (by simp [hx])) k
      have e : (k + 1) * 32 = (d.map bv).length + k * 32 := by simp; omega
      simp only [flat, List.flatMap_cons, List.take_succ_cons] at h2 ⊢
      rw [e, List.take_length_add_append, h2]
theorem flat_drop (ds : List (List UInt8)) (h : ∀ d ∈ ds, d.length = 32) (k : Nat) : (flat ds).drop (k * 32) = flat (ds.drop k) := by
  induction ds generalizing k with
  | nil => simp [flat]
  | cons d r ih =>
    cases k with
    | zero => simp [flat]
    | succ k =>
      have h1 := h d (by simp)
      have h2 := ih (fun x hx => h x (by simp [hx])) k
      have e : (k + 1) * 32 = (d.map bv).length + k * 32 := by simp; omega
      simp only [flat, List.flatMap_cons, List.drop_succ_cons] at h2 ⊢
      rw [e, List.drop_length_add_append, h2]
theorem flat_at (ds : List (List UInt8)) (h : ∀ d ∈ ds, d.length = 32) (k : Nat) (hk : k < ds.length) (i : Nat) (hi : i < 32) : (flat ds)[32 * k + i]? = (ds[k].map bv)[i]? := by
  have h1 : (flat ds)[32 * k + i]? = ((flat ds).drop (k * 32))[i]? := by rw [List.getElem?_drop, Nat.mul_comm]
  rw [h1, flat_drop ds h k, List.drop_eq_getElem_cons hk]
  have hl : ds[k].length = 32 := h _ (List.getElem_mem hk)
  simp only [flat, List.flatMap_cons]
  rw [List.getElem?_append_left (by simp; omega)]
theorem DS.take {D : Gh} {a : Option Addr} {n c : Nat} {ds : List (List UInt8)} (h : DS D (.slice a n c) ds) {k : Nat} (hk : k ≤ ds.length) : DS D (.slice a k c) (ds.take k) := by
  refine ⟨fun d hd => h.1 d (List.mem_of_mem_take hd), ?_⟩
  have := h.2.take hk
  rw [flat_take ds h.1] at this
  have e : (ds.take k).length = k := by simp; omega
  rw [e]; exact this
theorem DS.drop {D : Gh} {b o n c : Nat} {ds : List (List UInt8)} (h : DS D (.slice (some ⟨b, o, none⟩) n c) ds) {k : Nat} (hk : k ≤ ds.length) : DS D (.slice (some ⟨b, o + k * 32, none⟩) (n - k) (c - k)) (ds.drop k) := by
  refine ⟨fun d hd => h.1 d (List.mem_of_mem_drop hd), ?_⟩
  have := h.2.drop hk
  rw [flat_drop ds h.1] at this
  rw [List.length_drop]; exact this
theorem DS.len {D : Gh} {a : Option Addr} {n c : Nat} {ds : List (List UInt8)} (h : DS D (.slice a n c) ds) : n = ds.length ∧ n ≤ c ∧ c ≤ maxLen := by
  obtain ⟨_, _, a', c', hv, h1, h2, _⟩ := h
  cases hv
  exact ⟨rfl, h1, h2⟩
theorem DS.form {D : Gh} {v : Value} {ds : List (List UInt8)} (h : DS D v ds) : ∃ a c, v = .slice a ds.length c := by
  obtain ⟨_, _, a', c', hv, _⟩ := h
  exact ⟨a', c', hv⟩
/-- A digest as a value. -/
def dg (d : List UInt8) : Value := .agg (d.map bv).toArray
/-- The cells of element k. -/
theorem DS.at_ {D : Gh} {w : World} {a : Option Addr} {n c : Nat} {ds : List (List UInt8)} (h : DS D (.slice a n c) ds) (hk : Keeps D w) {k : Nat} (hlt : k < ds.length) :
    ∃ b o, a = some ⟨b, o, none⟩ ∧ ds[k].length = 32 ∧ ∀ i u, (ds[k].map bv)[i]? = some u → w.cell? ⟨b, o + 32 * k + i, none⟩ = some u := by
  obtain ⟨hall, hs⟩ := h
  obtain ⟨_, _, _, _, hc⟩ := hs.cells hk
  obtain ⟨b, o, ha, hcc⟩ := hc (by omega)
  have hl : ds[k].length = 32 := hall _ (List.getElem_mem hlt)
  refine ⟨b, o, ha, hl, fun i u e => ?_⟩
  have hi : i < 32 := by
    rcases Nat.lt_or_ge i 32 with h | h
    · exact h
    · rw [List.getElem?_eq_none (by simp; omega)] at e; cases e
  rw [Nat.add_assoc]
  exact hcc _ u (by rw [flat_at ds hall k hlt i hi]; exact e)
theorem flat_one (ds : List (List UInt8)) : ∀ u ∈ flat ds, u.oneCell' = true := by
  intro u hu
  simp only [flat, List.mem_flatMap, List.mem_map] at hu
  obtain ⟨d, _, b, _, rfl⟩ := hu
  rfl
end Go.VS
