/-
  What is proved here: an incoming signature of the signing layer (a number and two slices of digests), read off its datum.
-/
import Derived.Test.YtohknemfcohhfaaDoorRows
import Derived.Test.YtohknemfcohhfaaDoorArg
import Derived.Test.YtohknemfcohhfaaDoorArgD
import Derived.Test.YtohknemfcohhfaaDoorBaseC
import Derived.Deep.Slices
import Derived.Deep.DeepHandedRow
import Derived.ChangeSlices
import Derived.ChangeArms
import Derived.Lib.SmallJoins
namespace Go.Proofs.YtohknemfcohhfaaDoor
open Go.RowKit Go.ChangeShapes Go.WideShapes Go.Deep Go.VS Go.WideMaps
section
variable {H : Type} {enc : TypeId × Value → H} {w : World} {base : Nat} {held : Bool}
theorem bytes32_of_trod {sp : Nat → Bool} {fuel : Nat} {cs : List Value} {x : DataW H × List MemPlace} (hn : cs.length = 32) (hf : DataW.trod enc Tryd.prog w base sp held fuel 26 cs = some x) : ∃ ds : List UInt8, cs = ds.map bv ∧ ds.length = 32 := by
  cases fuel with
  | zero => simp [DataW.trod] at hf
  | succ m =>
    rw [DataW.trod_step] at hf
    unfold DataW.trodStep at hf
    simp only [arr26.hu] at hf
    rw [if_pos (by rw [arr26.size]; simpa using hn)] at hf
    simp only [Option.map_eq_some_iff] at hf
    obtain ⟨ys, hy, _⟩ := hf
    have hall := mapM_at _ _ _ hy
    have key : ∀ i, i < 32 → ∃ a : Int, cs[i]? = some (.int .u8 a) ∧ 0 ≤ a ∧ a < 256 := by
      intro i hi
      obtain ⟨y, e⟩ := hall i (by simpa using hi)
      obtain ⟨a, ea, _, wa⟩ := DataW.trod_int Tryd.underlying5 e
      rw [arr26.one] at ea
      simp only [Nat.mul_one] at ea
      refine ⟨a, ?_, ?_⟩
      · have : (cs.drop i)[0]? = some (.int .u8 a) := by
          have h := congrArg (·[0]?) ea
          simpa [List.getElem?_take] using h
        rw [List.getElem?_drop] at this
        simpa using this
      · simp [Lit.wf, IntKind.min, IntKind.max, IntKind.signed, IntKind.bits] at wa
        omega
    refine ⟨cs.map (fun v => UInt8.ofNat (intOf v).toNat), ?_, by simp [hn]⟩
    apply List.ext_getElem
    · simp
    · intro i h1 h2
      obtain ⟨a, ha, h0, h256⟩ := key i (by omega)
      rw [List.getElem?_eq_getElem h1] at ha
      injection ha with ha
      simp [ha, bv, intOf]
      omega
theorem addr_plain2 {a : Addr} {v : Value} (h : w.cell? (a.add 0) = some v) : a.spot = none := by
  obtain ⟨b, o, sp⟩ := a
  cases sp with
  | none => rfl
  | some k => simp [World.cell?, Addr.add] at h; split at h <;> simp at h
theorem ds_of_trod {fuel : Nat} {v : Value} {x : DataW H × List MemPlace} (h : DataW.trod enc Tryd.prog w base (fun _ => true) held fuel 30 [v] = some x) :
    ∃ a n c ds, v = .slice a n c ∧ DS (oldD w) (.slice a n c) ds := by
  rcases open_slice Tryd.underlying30 h with ⟨hcs, _⟩ | ⟨a, len, cap, m, n, D, Pl, hcs, hb, hl, hm, hmm, hx, hi⟩
  · cases hcs
    exact ⟨none, 0, 0, [], rfl, DS.nil _⟩
  · cases hcs
    simp only [if_true] at hmm
    have hc26 : Tryd.prog.cellsOf 26 = 32 := by kernel_rfl
    have key : ∀ i, ∃ ds : List UInt8, i < len → ds.length = 32 ∧ ∀ k u, (ds.map bv)[k]? = some u → w.cell? (a.add (i * 32 + k)) = some u := by
      intro i
      by_cases hil : i < len
      · obtain ⟨cs', hcc, htt⟩ := hi i (by omega)
        rw [hc26] at hcc
        obtain ⟨_, hcl, hat⟩ := World.cells?_some hcc
        obtain ⟨ds, rfl, hd⟩ := bytes32_of_trod hcl htt
        refine ⟨ds, fun _ => ⟨hd, fun k u hk => ?_⟩⟩
        have hk32 : k < 32 := by
          rcases Nat.lt_or_ge k 32 with h | h
          · exact h
          · rw [List.getElem?_eq_none (by simp; omega)] at hk; cases hk
        have h0 := hat k (by omega)
        rw [Go.Deep.add_add] at h0
        rw [h0]; exact hk
      · exact ⟨[], fun h => absurd h hil⟩
    obtain ⟨f, hf⟩ := Classical.axiomOfChoice key
    have hall : ∀ d ∈ (List.range len).map f, d.length = 32 := fun d hd => by
      obtain ⟨z, hz, rfl⟩ := List.mem_map.1 hd
      exact (hf z (by simpa using hz)).1
    refine ⟨some a, len, cap, (List.range len).map f, rfl, hall, ?_⟩
    have hlen : ((List.range len).map f).length = len := by simp
    rw [hlen]
    refine ⟨by rw [flat_length _ hall, hlen], some a, cap, rfl, by simpa using hl, hm, (fun h => by cases h), fun hp => ?_⟩
    have h00 := hf 0 hp
    have hpl := addr_plain2 (h00.2 0 _ (List.getElem?_eq_getElem (show 0 < ((f 0).map bv).length by rw [List.length_map, h00.1]; omega)))
    obtain ⟨b, o, sp⟩ := a
    simp only at hpl
    subst hpl
    refine ⟨b, o, rfl, fun j u hj => ?_⟩
    have hjl : j < len * 32 := by
      rcases Nat.lt_or_ge j (len * 32) with h | h
      · exact h
      · rw [List.getElem?_eq_none (by rw [flat_length _ hall, hlen]; exact h)] at hj; cases hj
    have hq : j / 32 < len := by omega
    have hfa := flat_at _ hall (j / 32) (by rw [hlen]; exact hq) (j % 32) (by omega)
    rw [show 32 * (j / 32) + j % 32 = j by omega, hj] at hfa
    simp only [List.getElem_map, List.getElem_range] at hfa
    have := (hf (j / 32) hq).2 (j % 32) u hfa.symm
    rw [Addr.add_lit] at this
    rw [show j / 32 * 32 + j % 32 = j by omega] at this
    simpa [oldD] using this
/-- An incoming signature, read off its datum. -/
theorem sig_of_trod {b0 : Nat} {r : Reach} {v : Value} {d : DataW H} {p : List MemPlace} (hval : Value.okWide Tryd.prog w r b0 49 v) (h : ∃ fuel, DataW.trod enc Tryd.prog w base (fun _ => true) held fuel 49 v.cells.toList = some (d, p)) :
    ∃ i B b d' parts E e f path, v = .agg #[.int .i64 i, .slice B b d', .slice E e f] ∧ DS (oldD w) (.slice B b d') parts ∧ DS (oldD w) (.slice E e f) path ∧ (Lit.int .i64 i).wf = true := by
  obtain ⟨u0, u1, u2, y0, y1, y2, nf, rfl, _, _, t0, t1, t2⟩ := Go.Joins.open_agg3 Tryd.underlying49 (by kernel_rfl) (by kernel_rfl) hval h
  obtain ⟨i, hi, _, wi⟩ := DataW.trod_int Tryd.underlying3 t0
  obtain ⟨B, b, d', parts, rfl, hp⟩ := ds_of_trod t1
  obtain ⟨E, e, f, path, rfl, hq⟩ := ds_of_trod t2
  obtain rfl : u0 = .int .i64 i := by simpa using hi
  exact ⟨i, B, b, d', parts, E, e, f, path, rfl, hp, hq, wi⟩
end
end Go.Proofs.YtohknemfcohhfaaDoor
