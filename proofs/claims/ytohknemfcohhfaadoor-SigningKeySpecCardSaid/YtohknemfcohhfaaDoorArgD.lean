/-
  What is proved here: an incoming digest (an array of 32 bytes) read as a list of bytes.
-/
import Derived.Test.YtohknemfcohhfaaDoorRows
import Derived.Test.YtohknemfcohhfaaDoorBaseC
import Derived.WideKeyArr2
namespace Go.Proofs.YtohknemfcohhfaaDoor
open Go.RowKit Go.VS Go.ChangeShapes Go.WideShapes Go.WideMaps

theorem mapM_at {α β : Type} (f : α → Option β) : ∀ (L : List α) (ys : List β), L.mapM f = some ys → ∀ i ∈ L, ∃ y, f i = some y
  | [], _, _ => fun i h => by simp at h
  | a :: L, ys, h => fun i hi => by
    rw [List.mapM_cons] at h
    simp only [bind, Option.bind_eq_some_iff, pure, Option.some.injEq] at h
    obtain ⟨y, hy, zs, hzs, rfl⟩ := h
    rcases List.mem_cons.1 hi with rfl | hi
    · exact ⟨y, hy⟩
    · exact mapM_at f L zs hzs i hi
theorem arr26 : ArrKey Tryd.prog 26 5 32 := ⟨Tryd.underlying26, by kernel_rfl, by kernel_rfl, by kernel_rfl⟩
theorem dg_of_trod {H : Type} {enc : TypeId × Value → H} {W : World} {base b0 : Nat} {sp : Nat → Bool} {held : Bool} {r : Reach} {v : Value} {d : DataW H} {ps : List MemPlace}
    (hok : Value.okWide Tryd.prog W r b0 26 v) (hd : DataW.Trod enc Tryd.prog W base sp held 26 v d ps) : ∃ ds : List UInt8, v = dg ds ∧ ds.length = 32 := by
  obtain ⟨xs, rfl, hn⟩ := okWide_arr arr26 hok
  obtain ⟨fuel, hf⟩ := hd
  cases fuel with
  | zero => simp [DataW.trod] at hf
  | succ m =>
    rw [DataW.trod_step] at hf
    unfold DataW.trodStep at hf
    simp only [arr26.hu, Value.cells] at hf
    rw [if_pos (by rw [arr26.size]; simpa using hn)] at hf
    simp only [Option.map_eq_some_iff] at hf
    obtain ⟨ys, hy, _⟩ := hf
    have hall := mapM_at _ _ _ hy
    have key : ∀ i, i < 32 → ∃ a : Int, xs[i]? = some (.int .u8 a) ∧ 0 ≤ a ∧ a < 256 := by
      intro i hi
      obtain ⟨y, e⟩ := hall i (by simpa using hi)
      obtain ⟨a, ea, _, wa⟩ := DataW.trod_int Tryd.underlying5 e
      rw [arr26.one] at ea
      simp only [Nat.mul_one] at ea
      refine ⟨a, ?_, ?_⟩
      · have : (xs.toList.drop i)[0]? = some (.int .u8 a) := by
          have h := congrArg (·[0]?) ea
          simpa [List.getElem?_take] using h
        rw [List.getElem?_drop] at this
        simpa using this
      · simp [Lit.wf, IntKind.min, IntKind.max, IntKind.signed, IntKind.bits] at wa
        omega
    refine ⟨xs.toList.map (fun v => UInt8.ofNat (intOf v).toNat), ?_, by simp [hn]⟩
    unfold dg
    congr 1
    apply Array.ext
    · simp
    · intro i h1 h2
      obtain ⟨a, ha, h0, h256⟩ := key i (by omega)
      rw [Array.getElem?_eq_getElem h1] at ha
      injection ha with ha
      simp [ha, bv, intOf]
      omega
end Go.Proofs.YtohknemfcohhfaaDoor
