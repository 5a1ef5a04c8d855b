/-
  What is proved here: an incoming script of crashes (a slice of structs: records, a bool, two ints), read off its datum.
-/
import Derived.Test.YtegkmkglagmdiaaRows
import Derived.Test.YtegkmkglagmdiaaArgB
import Derived.Deep.Slices
import Derived.Lib.SmallJoins
import Derived.Test.YtegkmkglagmdiaaLawSurv
namespace Go.Proofs.Ytegkmkglagmdiaa
open Go.RowKit Go.ChangeShapes Go.WideShapes Go.Deep Go.VS
set_option linter.unusedVariables false

theorem cells66 : Try.prog.cellsOf 66 = 4 := by kernel_rfl
theorem crash_of_trod {H : Type} {enc : TypeId × Value → H} {W : World} {fuel : Nat} {cs : List Value} {x : DataW H × List MemPlace} (h : DataW.trod enc Try.prog W 0 (fun _ => true) true fuel 66 cs = some x) (hl : cs.length = 4) :
    ∃ A m c xs st le te, cs = [.slice A m c, .bool st, .int .i64 le, .int .i64 te] ∧ SS (oldD W) (.slice A m c) xs := by
  obtain ⟨y0, y1, y2, y3, n, _, _, t0, t1, t2, t3⟩ := Go.Joins.trod_struct4 Try.underlying66 h
  have c24 : Try.prog.cellsOf 24 = 1 := by kernel_rfl
  have c4 : Try.prog.cellsOf 4 = 1 := by kernel_rfl
  have c3 : Try.prog.cellsOf 3 = 1 := by kernel_rfl
  match cs, hl with
  | [u0, u1, u2, u3], _ =>
    change DataW.trod enc Try.prog W 0 (fun _ => true) true n 24 (([u0, u1, u2, u3].drop 0).take (Try.prog.cellsOf 24)) = some y0 at t0
    change DataW.trod enc Try.prog W 0 (fun _ => true) true n 4 (([u0, u1, u2, u3].drop 1).take (Try.prog.cellsOf 4)) = some y1 at t1
    change DataW.trod enc Try.prog W 0 (fun _ => true) true n 3 (([u0, u1, u2, u3].drop 2).take (Try.prog.cellsOf 3)) = some y2 at t2
    change DataW.trod enc Try.prog W 0 (fun _ => true) true n 3 (([u0, u1, u2, u3].drop 3).take (Try.prog.cellsOf 3)) = some y3 at t3
    rw [c24] at t0
    rw [c4] at t1
    rw [c3] at t2 t3
    obtain ⟨A, m, c, xs, rfl, hs⟩ := ss_of_trod (v := u0) Try.underlying24 Try.underlying32 Try.underlying5 (by kernel_rfl) (by kernel_rfl) t0
    obtain ⟨st, h1, _⟩ := DataW.trod_bool Try.underlying4 t1
    obtain ⟨le, h2, _, _⟩ := DataW.trod_int Try.underlying3 t2
    obtain ⟨te, h3, _, _⟩ := DataW.trod_int Try.underlying3 t3
    obtain rfl : u1 = .bool st := by simpa using h1
    obtain rfl : u2 = .int .i64 le := by simpa using h2
    obtain rfl : u3 = .int .i64 te := by simpa using h3
    exact ⟨A, m, c, xs, st, le, te, rfl, hs⟩

theorem script_of_trod {H : Type} {enc : TypeId × Value → H} {W : World} {fuel : Nat} {A : Option Addr} {n c : Nat} {x : DataW H × List MemPlace} (h : DataW.trod enc Try.prog W 0 (fun _ => true) true fuel 64 [.slice A n c] = some x) : CS (oldD W) A n := by
  rcases open_slice Try.underlying64 h with ⟨hcs, _⟩ | ⟨a, len, cap, m, nn, DD, Pl, hcs, hb, hl, hm, hmm, hx, hi⟩
  · simp at hcs
    intro hp
    omega
  · simp at hcs
    obtain ⟨rfl, rfl, rfl⟩ := hcs
    simp only [if_true] at hmm
    rw [cells66] at hi
    have key : ∀ i, i < n → ∃ A m c xs st le te, W.cell? (a.add (i * 4)) = some (.slice A m c) ∧ W.cell? (a.add (i * 4 + 1)) = some (.bool st) ∧ W.cell? (a.add (i * 4 + 2)) = some (.int .i64 le) ∧ W.cell? (a.add (i * 4 + 3)) = some (.int .i64 te) ∧ SS (oldD W) (.slice A m c) xs := by
      intro i hil
      obtain ⟨cs', hcc, htt⟩ := hi i (by omega)
      obtain ⟨_, hcl, hat⟩ := World.cells?_some hcc
      obtain ⟨A, m, c, xs, st, le, te, rfl, hs⟩ := crash_of_trod htt hcl
      have h0 := hat 0 (by omega)
      have h1 := hat 1 (by omega)
      have h2 := hat 2 (by omega)
      have h3 := hat 3 (by omega)
      rw [Go.Deep.add_add] at h0 h1 h2 h3
      exact ⟨A, m, c, xs, st, le, te, by simpa using h0, by simpa using h1, by simpa using h2, by simpa using h3, hs⟩
    intro hp
    obtain ⟨_, _, _, _, _, _, _, h0, _⟩ := key 0 hp
    have hpl := addr_plain (a := a) (w := W) (by simpa using h0)
    obtain ⟨b, o, sp⟩ := a
    simp only at hpl
    subst hpl
    refine ⟨b, o, rfl, fun i hil => ?_⟩
    obtain ⟨A, m, c, xs, st, le, te, h0, h1, h2, h3, hs⟩ := key i hil
    rw [Addr.add_lit] at h0 h1 h2 h3
    exact ⟨A, m, c, xs, st, le, te, by simpa [oldD] using h0, by simpa [oldD, Nat.add_assoc] using h1, by simpa [oldD, Nat.add_assoc] using h2, by simpa [oldD, Nat.add_assoc] using h3, hs⟩
end Go.Proofs.Ytegkmkglagmdiaa
