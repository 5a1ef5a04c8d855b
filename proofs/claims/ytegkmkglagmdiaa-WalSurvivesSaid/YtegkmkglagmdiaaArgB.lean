/-
  What is proved here: an incoming slice of bytes, or of slices of bytes, read off its datum.
-/
import Derived.Test.YtegkmkglagmdiaaArg
import Derived.Deep.Slices
import Derived.ChangeSlices
import Derived.ChangeArms
import Derived.Lib.SmallJoins
namespace Go.VS
open Go.RowKit Go.ChangeShapes Go.WideShapes Go.Deep

section
variable {H : Type} {enc : TypeId × Value → H} {P : Program} {w : World} {base : Nat} {held : Bool}

/-- An incoming slice of bytes, read off its datum. -/
theorem bs_of_trod {t e : TypeId} {fuel : Nat} {v : Value} {x : DataW H × List MemPlace} (ht : P.underlying t = some (.slice e)) (he : P.underlying e = some (.int .u8)) (hc : P.cellsOf e = 1)
    (h : DataW.trod enc P w base (fun _ => true) held fuel t [v] = some x) : ∃ a n c bs, v = .slice a n c ∧ BS (oldD w) (.slice a n c) bs := by
  rcases open_ints ht he hc h with ⟨hcs, _⟩ | ⟨a, l, c, zs, hcs, _, hl, hm, hz, _, hcell, hwz⟩
  · cases hcs
    exact ⟨none, 0, 0, [], rfl, BS.nil _⟩
  · cases hcs
    obtain ⟨bs, hbs⟩ := bs_of_row (w := w) (a := some a) (len := l) (cap := c) (zs := zs) (.inr ⟨a, rfl, hl, hm, by simpa using hz, hcell, hwz⟩)
    exact ⟨_, _, _, bs, rfl, hbs⟩

theorem addr_plain {w : World} {a : Addr} {v : Value} (h : w.cell? (a.add 0) = some v) : a.spot = none := by
  obtain ⟨b, o, sp⟩ := a
  cases sp with
  | none => rfl
  | some k => simp [World.cell?, Addr.add] at h; split at h <;> simp at h

/-- An incoming slice whose elements (of one cell) each meet R. -/
theorem sl_of_trod {t e : TypeId} {fuel : Nat} {v : Value} {x : DataW H × List MemPlace} (R : Value → Prop) (ht : P.underlying t = some (.slice e)) (hc : P.cellsOf e = 1)
    (hR : ∀ fuel u y, DataW.trod enc P w base (fun _ => true) held fuel e [u] = some y → R u)
    (h : DataW.trod enc P w base (fun _ => true) held fuel t [v] = some x) : ∃ a n c vs, v = .slice a n c ∧ Sl (oldD w) (.slice a n c) vs ∧ ∀ u ∈ vs, R u := by
  rcases open_slice ht h with ⟨hcs, _⟩ | ⟨a, len, cap, m, n, D, Pl, hcs, hb, hl, hm, hmm, hx, hi⟩
  · cases hcs
    exact ⟨none, 0, 0, [], rfl, Sl.nil _, by simp⟩
  · cases hcs
    simp only [if_true] at hmm
    have key : ∀ i, ∃ u, i < len → w.cell? (a.add i) = some u ∧ R u := by
      intro i
      by_cases hil : i < len
      · obtain ⟨cs', hcc, htt⟩ := hi i (by omega)
        rw [hc] at hcc
        obtain ⟨_, hcl, hat⟩ := World.cells?_some hcc
        match cs', hcl with
        | [u], _ =>
          have h0 := hat 0 (by omega)
          rw [Nat.mul_one, Go.Deep.add_add, Nat.add_zero] at h0
          exact ⟨u, fun _ => ⟨by simpa using h0, hR _ _ _ htt⟩⟩
      · exact ⟨.bool false, fun h => absurd h hil⟩
    obtain ⟨f, hf⟩ := Classical.axiomOfChoice key
    refine ⟨some a, len, cap, (List.range len).map f, rfl, ⟨some a, cap, by simp, by simpa using hl, hm, (fun h => by cases h), fun hp => ?_⟩, fun u hu => ?_⟩
    · simp at hp
      have hpl := addr_plain (hf 0 hp).1
      obtain ⟨b, o, sp⟩ := a
      simp only at hpl
      subst hpl
      refine ⟨b, o, rfl, fun j u hj => ?_⟩
      simp only [List.getElem?_map, Option.map_eq_some_iff] at hj
      obtain ⟨z, hz, rfl⟩ := hj
      obtain ⟨hz1, rfl⟩ := List.getElem?_eq_some_iff.mp hz
      simp only [List.length_range] at hz1
      have := (hf j hz1).1
      rw [Addr.add_lit] at this
      simpa [oldD] using this
    · obtain ⟨z, hz, rfl⟩ := List.mem_map.1 hu
      exact (hf z (by simpa using hz)).2

theorem choose_list {α β : Type} (R : α → β → Prop) : ∀ l : List α, (∀ a ∈ l, ∃ b, R a b) → ∃ m : List β, l.length = m.length ∧ ∀ (j : Nat) (a : α) (b : β), m[j]? = some b → l[j]? = some a → R a b
  | [], _ => ⟨[], rfl, by simp⟩
  | a :: l, h => by
    obtain ⟨b, hb⟩ := h a (by simp)
    obtain ⟨m, hm, hr⟩ := choose_list R l (fun x hx => h x (by simp [hx]))
    refine ⟨b :: m, by simp [hm], fun j x y hy hx => ?_⟩
    cases j with
    | zero => simp at hx hy; subst hx; subst hy; exact hb
    | succ j => exact hr j x y (by simpa using hy) (by simpa using hx)

/-- An incoming slice of slices of bytes. -/
theorem ss_of_trod {t e b : TypeId} {fuel : Nat} {v : Value} {x : DataW H × List MemPlace} (ht : P.underlying t = some (.slice e)) (he : P.underlying e = some (.slice b)) (hb : P.underlying b = some (.int .u8)) (hce : P.cellsOf e = 1) (hcb : P.cellsOf b = 1)
    (h : DataW.trod enc P w base (fun _ => true) held fuel t [v] = some x) : ∃ a n c xs, v = .slice a n c ∧ SS (oldD w) (.slice a n c) xs := by
  obtain ⟨a, n, c, vs, rfl, hs, hr⟩ := sl_of_trod (fun u => ∃ bs, BS (oldD w) u bs) ht hce (fun fuel u y h => by
    obtain ⟨a, n, c, bs, rfl, hbs⟩ := bs_of_trod he hb hcb h
    exact ⟨bs, hbs⟩) h
  obtain ⟨xs, hl, hx⟩ := choose_list (fun u bs => BS (oldD w) u bs) vs hr
  exact ⟨a, n, c, xs, rfl, vs, hs, hl, fun j x u h1 h2 => hx j u x h1 h2⟩
end
end Go.VS
