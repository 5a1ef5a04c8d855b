/- The claim DigestSumSpec (a tied card): for all bytes and every tag, Sum and Tagged match the specification, also for the bytes repeated up to the lengths at which the number of blocks changes; the table of round constants is listed with what its initialiser lays. -/
import Derived.Test.YtohknemfcohhfaaDoorCards
import Derived.Test.YtohknemfcohhfaaDoorTie
import Derived.WalkKit
import Derived.ProofKit
import Derived.OpenShut
import Derived.ShutString
import Derived.ChangeOld
import Derived.Below
import Derived.Deep.DeepHandedRow
import Derived.Lib.LaidTab
import Derived.Test.YtohknemfcohhfaaDoorArg
import Derived.Test.YtohknemfcohhfaaDoorArgD
import Derived.Test.YtohknemfcohhfaaDoorArgK
import Derived.Test.YtohknemfcohhfaaDoorLawSum
namespace Go.Proofs.YtohknemfcohhfaaDoor.digestSumSpec
open Go.ChangeShapes Go.WideShapes Go.ChangeAt Go.RowKit Go.VS
open Go.ChangeMaps (open_string shut_string)
set_option linter.unusedVariables false

theorem own : ownKnob Tryd.prog.godebug = none := by kernel_rfl
theorem laidOut : laidOutB Tryd.prog = true := by kernel_rfl
theorem gTab : Tryd.prog.globalNamed "veilstone/digest.constants" = some 0 := by kernel_rfl
theorem gTabType : (Tryd.prog.globals[0]?).map (·.type) = some 92 := by kernel_rfl
theorem cells92 : Tryd.prog.cellsOf 92 = 64 := by kernel_rfl
theorem cells68 : Tryd.prog.cellsOf 68 = 1 := by kernel_rfl
theorem table {W : World} (h : laidMetH Tryd.prog Rows.digestSumSpecRow.laid W) : Lib.TabIs Tryd.prog W "veilstone/digest.constants" .u32 Go.VS.kT :=
  Lib.tabIs_of_head (rest := []) gTab gTabType Tryd.underlying92 Tryd.underlying68 cells68 cells92 h
theorem tab {W : World} (h : laidMetH Tryd.prog Rows.digestSumSpecRow.laid W) : Tab (Go.VS.oldD W) := fun i hi => (table h).cell gTab i (by have h64 : Go.VS.kT.length = 64 := rfl; omega)

noncomputable def laidWorld (os : Os) : World :=
  { World.holding Tryd.prog os ⟨#[], #[], []⟩ with heap := (World.holding Tryd.prog os ⟨#[], #[], []⟩).heap.modify 0 fun
      | .cells _ t frozen => .cells (Go.VS.kT.map (Value.int .u32)).toArray t frozen
      | o => o }
set_option maxRecDepth 100000 in
theorem laid_met (os : Os) : laidMet Tryd.prog Rows.digestSumSpecRow.laid ((laidWorld os).forCall (fun _ _ => 0) ⟨#[], #[.slice none 0 0, .string ⟨#[]⟩, .int .u8 0], []⟩).memory :=
  laidMet_of_run' 8 (by kernel_rfl) (by kernel_rfl)
set_option maxRecDepth 100000 in
theorem reads (os : Os) {H : Type} (enc : TypeId × Value → H) : ∃ places, DataW.whole enc Tryd.prog ((laidWorld os).forCall (fun _ _ => 0) ⟨#[], #[.slice none 0 0, .string ⟨#[]⟩, .int .u8 0], []⟩).memory Tryd.f3.params.toList Rows.digestSumSpecSpec.vars false #[Value.slice none 0 0, Value.string ⟨#[]⟩, Value.int .u8 0].toList 8 = some ([.nil, .lit (.string []), .lit (.int .u8 0)], [], places) :=
  ⟨[], by kernel_rfl⟩

set_option maxRecDepth 100000 in
theorem contract (H : Type) (enc : TypeId × Value → H) (W : World) (base : Nat) (args : Array Value) (ds gs : List (DataW H)) (before : List MemPlace)
    (hval0 : ∀ (j : Nat) t v, Tryd.f3.params[j]? = some t → args[j]? = some v → Value.okWide Tryd.prog W .any base t v)
    (hW : DataW.Whole enc Tryd.prog Tryd.f3.params.toList Rows.digestSumSpecSpec.vars false W args.toList ds gs before) (hL : laidMetH Tryd.prog Rows.digestSumSpecRow.laid W) :
    Calls Tryd.prog 3 args W fun e W' => ∃ v, e = .returned v ∧ Rows.digestSumSpecSpec.post enc Tryd.prog Tryd.f3 false true false false W args v W' := by
  have hval : ∀ (j : Nat) t v, Tryd.f3.params[j]? = some t → args[j]? = some v → Value.okWide Tryd.prog W .any base t v := hval0
  have hW' := hW
  obtain ⟨p, q, hA0, hV, rfl, hfz, hnd⟩ := hW
  have hA : DataW.TrodAll enc Tryd.prog W 0 (fun _ => true) true Tryd.f3.params.toList args.toList ds p := hA0
  rw [Tryd.params3] at hA hval
  obtain ⟨v0, vs0, d0, ds0, p0, q0, hargs, rfl, rfl, h0, r0⟩ := trodAll_cons hA
  obtain ⟨v1, vs1, d1, ds1, p1, q1, rfl, rfl, rfl, h1, r1⟩ := trodAll_cons r0
  obtain ⟨v2, vs2, d2, ds2, p2, q2, rfl, rfl, rfl, h2, r2⟩ := trodAll_cons r1
  obtain ⟨rfl, rfl, rfl⟩ := trodAll_nil r2
  obtain rfl : args = #[v0, v1, v2] := by cases args; simp_all
  obtain ⟨rfl, rfl⟩ := trodVars_none hV
  have k0 := h0
  have lt0 : ∀ x ∈ p0, x.block < W.heap.size := by obtain ⟨m, hm⟩ := k0; exact DataW.trod_lt m _ _ _ hm
  obtain ⟨a0, len0, cap0, rfl⟩ := okWide_slice Tryd.underlying22 (hval 0 22 v0 rfl rfl)
  obtain ⟨bs0, hbs0⟩ : ∃ bs, BS (oldD W) (.slice a0 len0 cap0) bs := by
    obtain ⟨fuel, hf⟩ := h0
    obtain ⟨a, n, c, bs, hv, hbs⟩ := bs_of_trod (v := .slice a0 len0 cap0) Tryd.underlying22 Tryd.underlying5 (by kernel_rfl) hf
    exact ⟨bs, hv ▸ hbs⟩
  obtain ⟨s1, rfl, rfl, rfl, ws1⟩ := open_string Tryd.underlying9 (hval 1 9 v1 rfl rfl) h1
  have hsb1 : Go.VS.str s1.data.toList = s1 := by cases s1; simp [Go.VS.str]
  have hsl1 : s1.data.toList.length = s1.size := by cases s1; rfl
  obtain ⟨i2, rfl, rfl, rfl, wi2⟩ := open_int Tryd.underlying5 (hval 2 5 v2 rfl rfl) h2
  obtain ⟨m2, rfl, hm2⟩ : ∃ m : Nat, i2 = (m : Int) ∧ m < 256 := by
    simp [Lit.wf, IntKind.min, IntKind.max, IntKind.signed, IntKind.bits] at wi2
    exact ⟨i2.toNat, by omega, by omega⟩
  clear hA0 hval0
  refine ((show Calls Tryd.prog 3 #[.slice a0 len0 cap0, .string s1, .int .u8 (m2 : Int)] W (fun e W' => e = .returned (.bool true) ∧ Below W.heap.size W W') from by have h := sumspec_walk (sh := Go.VS.shaF) (fun _ => rfl) a0 len0 cap0 bs0 s1.data.toList m2 hm2 (Go.VS.oldD W) W (Go.VS.keepsOldD W) (tab hL) hbs0 (by rw [hsl1]; exact ws1); rwa [hsb1] at h)).mono fun e W' ⟨he, bel⟩ => ?_
  subst he
  exact ⟨_, rfl, _, _, _, [], _, [], hW', trodAll_mk1 (shut_bool Tryd.underlying4 _), (trodAll_cons_mk (Below.trod laidOut (by kernel_rfl) (of_decide_eq_true (by kernel_rfl)) k0 bel lt0) (trodAll_cons_mk (shut_string Tryd.underlying9 ws1) (trodAll_cons_mk (shut_int Tryd.underlying5 wi2) trodAll_mk0))), rfl, bel.frame _, fun h => by cases h⟩

set_option maxRecDepth 100000 in
theorem lifted (os : Os) (started : os.Started) (H : Type) (enc : TypeId × Value → H) (F : Stop.Interp) :
    ReturnsInHanded {} Tryd.checked os 3 .any ((OpenSpec.ofChange Rows.digestSumSpecSpec).preRow enc Tryd.prog Tryd.f3 Rows.digestSumSpecRow.domain false Rows.digestSumSpecRow.laid) (((OpenSpec.ofChange Rows.digestSumSpecSpec).at F).post enc Tryd.prog Tryd.f3 false true false false) := by
  obtain ⟨places, hx⟩ := reads os enc
  refine returnsInHanded_of_row (C := Tryd.checked) (s := OpenSpec.ofChange Rows.digestSumSpecSpec) own started (by kernel_rfl) Tryd.func3
    (witness_row_at (enc := enc) (C := Tryd.checked) false (laidWorld os) #[.slice none 0 0, .string ⟨#[]⟩, .int .u8 0] rfl (by kernel_rfl) (by kernel_rfl) (by kernel_rfl)
      (OpenSpec.preRow_of_cond 8 hx (by kernel_rfl) (fun k hk => by cases hk) (by kernel_rfl) (laid_met os))) ?_
  intro W base args ds gs before hval hW _ _ _ hL _ _
  exact contract H enc W base args ds gs before hval hW hL

theorem said : Rows.DigestSumSpecSaid :=
  OpenClaim.holds_of_cond 3 Tryd.f3 rfl rfl rfl rfl rfl rfl rfl ⟨rfl, rfl, rfl, rfl, rfl⟩ rfl rfl rfl rfl rfl (by kernel_rfl) Tryd.func3 (by kernel_rfl)
    (of_decide_eq_true (by kernel_rfl)) (by unfold Func.isWrapper; first | (rw [if_pos (by decide +kernel)]; kernel_rfl) | (rw [if_neg (by decide +kernel)]; exact ⟨rfl, rfl⟩))
    (fun os started H enc _ F => by rw [OpenClaim.pre_eq_preRow]; exact lifted os started H enc F)

theorem plain (f : FuncId) (fn : Func) (hf : Tryd.pinned.checked.prog.funcNamed "veilstone/veilstonelaw27.DigestSumSpec" = some f) (hfn : Tryd.pinned.checked.prog.funcs[f]? = some fn) :
    false = Tryd.pinned.checked.prog.looks [] ∧ ∀ (j : Nat) t, fn.params[j]? = some t → Tryd.pinned.checked.prog.wantsStandIn t = false := by
  obtain rfl : f = 3 := Option.some.inj ((show Tryd.prog.funcNamed "veilstone/veilstonelaw27.DigestSumSpec" = some 3 by kernel_rfl).symm.trans hf) |>.symm
  obtain rfl : fn = Tryd.f3 := (Option.some.inj (Tryd.func3.symm.trans hfn)).symm
  refine ⟨by kernel_rfl, fun j t ht => ?_⟩
  rw [Tryd.params3] at ht
  have hm := Array.mem_of_getElem? ht
  simp at hm
  rcases hm with rfl | rfl | rfl
  · exact (show Tryd.prog.wantsStandIn 22 = false by kernel_rfl)
  · exact (show Tryd.prog.wantsStandIn 9 = false by kernel_rfl)
  · exact (show Tryd.prog.wantsStandIn 5 = false by kernel_rfl)

/-- the card. -/
theorem card : Rows.DigestSumSpecCardSaid :=
  Claim7.holds_tied_plain_at .later [] _ _ _ _ said (fun _ h => by cases h) (by kernel_rfl) (fun _ h => by cases h) digestSumSpec_row_tie rfl ⟨rfl, rfl⟩ (by kernel_rfl) rfl plain (by kernel_rfl)
#print axioms card
end Go.Proofs.YtohknemfcohhfaaDoor.digestSumSpec
