/-
  What is proved here: an incoming log (a struct of two ints, a slice of slices of bytes, an int), read off its datum; with the form's reach its slice is short.
-/
import Derived.Test.YtegkmkglagmdiaaRows
import Derived.Test.YtegkmkglagmdiaaArgB
import Derived.Deep.Slices
import Derived.SizedLaws
import Derived.Lib.SmallJoins
namespace Go.Proofs.Ytegkmkglagmdiaa
open Go.RowKit Go.ChangeShapes Go.WideShapes Go.Deep Go.VS
set_option linter.unusedVariables false

theorem bytes32 : Try.prog.bytesOf 32 = 24 := by kernel_rfl

theorem log_of_trod {H : Type} {enc : TypeId × Value → H} {W : World} {v : Value} {d : DataW H} {p : List MemPlace} {b0 : Nat} (hok : Value.okWide Try.prog W .any b0 47 v)
    (h : DataW.Trod enc Try.prog W 0 (fun _ => true) true 47 v d p) (hw : ∀ n ∈ d.weights Try.prog 47, n ≤ reachBytes) :
    ∃ A n c xs f m s, v = .agg #[.int .i64 f, .int .i64 m, .slice A n c, .int .i64 s] ∧ SS (oldD W) (.slice A n c) xs ∧ n ≤ 8796093022208 ∧
      (Lit.int .i64 f).wf = true ∧ (Lit.int .i64 m).wf = true ∧ (Lit.int .i64 s).wf = true := by
  obtain ⟨u0, u1, u2, u3, y0, y1, y2, y3, nf, rfl, rfl, _, t0, t1, t2, t3⟩ := Go.Joins.open_agg4 Try.underlying47 (by kernel_rfl) (by kernel_rfl) hok h
  have t2' := t2
  obtain ⟨A, n, c, xs, rfl, hss⟩ := ss_of_trod Try.underlying24 Try.underlying32 Try.underlying5 (by kernel_rfl) (by kernel_rfl) t2
  obtain ⟨f, hf, _, wf⟩ := DataW.trod_int Try.underlying3 t0
  obtain ⟨m, hm, _, wm⟩ := DataW.trod_int Try.underlying3 t1
  obtain ⟨s, hs, _, ws⟩ := DataW.trod_int Try.underlying3 t3
  obtain rfl : u0 = .int .i64 f := by simpa using hf
  obtain rfl : u1 = .int .i64 m := by simpa using hm
  obtain rfl : u3 = .int .i64 s := by simpa using hs
  refine ⟨A, n, c, xs, f, m, s, rfl, hss, ?_, wf, wm, ws⟩
  have hw2 : ∀ n ∈ y2.1.weights Try.prog 24, n ≤ reachBytes := fun n hn => hw n (by
    simp only [DataW.weights, Try.underlying47]
    exact DataW.weights_mem_each (j := 2) (t := 24) (d := y2.1) rfl rfl n hn)
  rcases Go.Deep.open_slice Try.underlying24 t2' with ⟨hcs, _⟩ | ⟨a, l, c', mm, nn, DD, Pl, hcs, _, hlc, _, hmm, hx, _⟩
  · simp at hcs
    omega
  · simp at hcs
    obtain ⟨rfl, rfl, rfl⟩ := hcs
    rw [hx] at hw2
    have := hw2 ((n + (mm - n)) * 24) (by simp [DataW.weights, Try.underlying24, bytes32])
    have hlt := reachBytes_lt
    simp at hlt
    omega
end Go.Proofs.Ytegkmkglagmdiaa
