/-
  What is proved here: an incoming key of the signing layer, read off its datum.
-/
import Derived.Test.YtohknemfcohhfaaDoorRows
import Derived.Test.YtohknemfcohhfaaDoorArg
import Derived.Deep.Slices
import Derived.Deep.DeepHandedRow
import Derived.ChangeSlices
import Derived.ChangeArms
import Derived.Lib.SmallJoins
namespace Go.Proofs.YtohknemfcohhfaaDoor
open Go.RowKit Go.ChangeShapes Go.WideShapes Go.Deep Go.VS
section
variable {H : Type} {enc : TypeId × Value → H} {w : World} {base : Nat} {held : Bool}
/-- An incoming slice of bytes, read off its datum. -/
theorem bs_of_trod {P : Program} {t e : TypeId} {fuel : Nat} {v : Value} {x : DataW H × List MemPlace} (ht : P.underlying t = some (.slice e)) (he : P.underlying e = some (.int .u8)) (hc : P.cellsOf e = 1)
    (h : DataW.trod enc P w base (fun _ => true) held fuel t [v] = some x) : ∃ a n c bs, v = .slice a n c ∧ BS (oldD w) (.slice a n c) bs := by
  rcases open_ints ht he hc h with ⟨hcs, _⟩ | ⟨a, l, c, zs, hcs, _, hl, hm, hz, _, hcell, hwz⟩
  · cases hcs
    exact ⟨none, 0, 0, [], rfl, BS.nil _⟩
  · cases hcs
    obtain ⟨bs, hbs⟩ := bs_of_row (w := w) (a := some a) (len := l) (cap := c) (zs := zs) (.inr ⟨a, rfl, hl, hm, by simpa using hz, hcell, hwz⟩)
    exact ⟨_, _, _, bs, rfl, hbs⟩
/-- An incoming key, read off its datum. -/
theorem key_of_trod {b0 : Nat} {r : Reach} {v : Value} {d : DataW H} {p : List MemPlace} (hval : Value.okWide Tryd.prog w r b0 45 v) (h : ∃ fuel, DataW.trod enc Tryd.prog w base (fun _ => true) held fuel 45 v.cells.toList = some (d, p)) :
    ∃ A n c seed m u, v = .agg #[.slice A n c, .int .i64 m, .int .i64 u] ∧ BS (oldD w) (.slice A n c) seed ∧ (Lit.int .i64 m).wf = true ∧ (Lit.int .i64 u).wf = true := by
  obtain ⟨u0, u1, u2, y0, y1, y2, nf, rfl, _, _, t0, t1, t2⟩ := Go.Joins.open_agg3 Tryd.underlying45 (by kernel_rfl) (by kernel_rfl) hval h
  obtain ⟨A, n, c, seed, rfl, hbs⟩ := bs_of_trod Tryd.underlying22 Tryd.underlying5 (by kernel_rfl) t0
  obtain ⟨m, hm, _, wm⟩ := DataW.trod_int Tryd.underlying3 t1
  obtain ⟨u, hu, _, wu⟩ := DataW.trod_int Tryd.underlying3 t2
  obtain rfl : u1 = .int .i64 m := by simpa using hm
  obtain rfl : u2 = .int .i64 u := by simpa using hu
  exact ⟨A, n, c, seed, m, u, rfl, hbs, wm, wu⟩
end
end Go.Proofs.YtohknemfcohhfaaDoor
