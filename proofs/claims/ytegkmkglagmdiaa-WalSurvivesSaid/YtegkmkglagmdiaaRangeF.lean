/-
  What is proved here: a range over an iterator of byte strings, with ghosts.
-/
import Derived.Test.YtegkmkglagmdiaaBaseB
import Derived.RangeFuncMany
namespace Go.VS
open Go Go.RowKit

/-- what an iterator over the byte strings recs promises. -/
def SeqBS (P : Program) (g : Nat) (lb : Array Value) (recs : List (List UInt8)) (D0 : Gh) : Prop :=
  ∀ (l : Nat) (J Jx : List (List UInt8) → Gh → World → Prop) (W : World) (D : Gh), D0.le D →
    (∀ s D W, J s D W → Keeps D W) →
    (∀ s D W D' W', J s D W → Grow W D W' D' → J s D' W') →
    (∀ pre x D1 W1 v, J pre D1 W1 → (pre ++ [x]) <+: recs → BS D1 v x → YieldAt Fence.wide 0 P l #[v] W1 fun e W' =>
      (e = .returned (.bool true) ∧ ∃ D', D1.le D' ∧ J (pre ++ [x]) D' W') ∨ (e = .returned (.bool false) ∧ ∃ D', D1.le D' ∧ Jx (pre ++ [x]) D' W')) →
    J [] D W →
    Calls P g (#[.func (.yield l) #[] #[]] ++ lb) W fun e W' => (∃ v, e = .returned v) ∧ ((∃ D', D.le D' ∧ J recs D' W') ∨ (∃ pre D', D.le D' ∧ pre <+: recs ∧ Jx pre D' W'))

/-- how the body of a round may be left. -/
def roundG (I : List (List UInt8) → Gh → World → Prop) (Ix : Code → List (List UInt8) → Gh → World → Prop) (xs : List (List UInt8)) (D1 : Gh) (W : World) : Exit → Act → World → Prop
  | .normal, _, W' => KeepsOthers W W' ∧ ∃ D', D1.le D' ∧ I xs D' W'
  | .ret, _, W' => KeepsOthers W W' ∧ ∃ D', D1.le D' ∧ Ix .ret xs D' W'
  | .exit id, _, W' => KeepsOthers W W' ∧ ∃ D', D1.le D' ∧ Ix (.exit id) xs D' W'
  | .goto t, _, W' => KeepsOthers W W' ∧ ∃ D', D1.le D' ∧ Ix (.goto t) xs D' W'
  | .panic _, _, _ => False
  | .outgrown, _, _ => False

theorem wideDepth (n : Nat) : Fence.wide.depth.isSome = true → 1 ≤ n := fun h => by simp [Fence.wide] at h

theorem keepsOthers_below {W W' : World} (h : Below W.heap.size W W') : KeepsOthers W W' := ⟨h.size, fun k _ hk _ => (h.block k (Array.getElem?_eq_some_iff.1 hk).1).trans hk⟩

theorem wp_rangeFunc_bs {P : Program} {g : Operand} {p : Tmp} {assign body : Code} {Q : Exit → Act → World → Prop} {a : Act} {w : World} {gf : Nat} {lb : Array Value}
    {recs : List (List UInt8)} {D0 D : Gh}
    (hg : a.eval g = .func (.func gf) #[] lb) (eg : ∀ args w, (callFunc gf args).run P w = .ok (.enter gf args) w)
    (hseq : SeqBS P gf lb recs D0) (hD : D0.le D)
    (I : List (List UInt8) → Gh → World → Prop) (Ix : Code → List (List UInt8) → Gh → World → Prop)
    (hK : ∀ s D W, I s D W → Keeps D W)
    (hI : ∀ s D W D' W', I s D W → Grow W D W' D' → I s D' W')
    (hIp : ∀ s D W l o o', I s D W → w.heap.size ≤ l → W.heap[l]? = some o → o.isCells = false → I s D (W.putObj l o'))
    (hIx : ∀ c s D W l o o', Ix c s D W → w.heap.size ≤ l → W.heap[l]? = some o → o.isCells = false → Ix c s D (W.putObj l o'))
    (h0 : I [] D w) (a₁ : Value → Act)
    (hassign : ∀ (l : Nat) (v : Value) (W : World) (K : Act → World → Prop), K (a₁ v) W →
      assign.wpIn (Fence.wide.inRound l) 0 P (Exit.then K (fun _ _ _ => False)) { tmps := a.tmps.setIfInBounds p v, defers := [] } W)
    (hbody : ∀ (l : Nat) (pre : List (List UInt8)) (x : List UInt8) (D1 : Gh) (v : Value) (W : World), I pre D1 W → (pre ++ [x]) <+: recs → BS D1 v x →
      body.wpIn (Fence.wide.inRound l) 0 P (roundG I Ix (pre ++ [x]) D1 W) (a₁ v) W)
    (hdone : ∀ (L : Nat) (D' : Gh) (W : World), I recs D' W → D.le D' → w.heap.size ≤ L → W.heap[L]? = some (.deferred (some [])) → Q .normal { a with defers := { target := .collected L, args := #[] } :: a.defers } W)
    (hstop : ∀ (L : Nat) (c : Code) (pre : List (List UInt8)) (D' : Gh) (W : World), pre <+: recs → Ix c pre D' W → D.le D' → w.heap.size ≤ L → W.heap[L]? = some (.deferred (some [])) →
      c.wp P Q { a with defers := { target := .collected L, args := #[] } :: a.defers } W) :
    (Code.rangeFunc g #[p] assign body).wp P Q a w := by
  refine (wpIn_wide (n := 0)).1 (wpIn_rangeFunc ?_)
  intro fn hfn
  obtain ⟨rec, hrec⟩ : ∃ rec : LoopState → Option Code → Loop, rec = fun st pe => { state := st, pending := pe, fn, tmps := a.tmps, params := #[p], assign, body, defers := w.heap.size } := ⟨_, rfl⟩
  obtain ⟨W1, hW1⟩ : ∃ W1, (w.alloc (.deferred (some []))).alloc (.loop (rec .ready none)) = W1 := ⟨_, rfl⟩
  have hL1 : W1.heap[w.heap.size + 1]? = some (.loop (rec .ready none)) := by
    rw [← hW1]; have := World.alloc_heap_new (w.alloc (.deferred (some []))) (.loop (rec .ready none)); rwa [World.size_alloc] at this
  have hK1 : W1.heap[w.heap.size]? = some (.deferred (some [])) := by
    rw [← hW1]; exact (Below.heap_alloc _ _ _ (by simp)).trans (World.alloc_heap_new w _)
  have hgr : Grow w D W1 D := by
    rw [← hW1]; exact ((Grow.refl (hK _ _ _ h0)).alloc _).alloc _
  have hI1 : I [] D W1 := hI _ _ _ _ _ h0 hgr
  refine ⟨w.heap.size + 1, [{ target := .collected w.heap.size, args := #[] }], W1, { target := .fn (.func gf) lb, args := #[.func (.yield (w.heap.size + 1)) #[] #[]] }, W1, gf,
    #[.func (.yield (w.heap.size + 1)) #[] #[]] ++ lb, W1, ?_, ?_, ?_, ?_, wideDepth _, ?_⟩
  · rw [← hW1, hrec]; exact run_enterLoop_outer _ _ _ _ _
  · simp only [resolve, hg]
    simp [go_sem]
  · intro f' _; trivial
  · simp [invoke, go_sem, eg]
  · refine callsIn_wide.2 ?_
    refine (hseq (w.heap.size + 1)
      (fun pre D W => I pre D W ∧ W.heap[w.heap.size + 1]? = some (.loop (rec .ready none)) ∧ W.heap[w.heap.size]? = some (.deferred (some [])))
      (fun pre D W => ∃ c, Ix c pre D W ∧ W.heap[w.heap.size + 1]? = some (.loop (rec .done (some c))) ∧ W.heap[w.heap.size]? = some (.deferred (some [])))
      W1 D hD (fun s D W h => hK s D W h.1)
      (fun s D W D' W' h hgw => ⟨hI s D W D' W' h.1 hgw, (hgw.below.block _ (Array.getElem?_eq_some_iff.1 h.2.1).1).trans h.2.1, (hgw.below.block _ (Array.getElem?_eq_some_iff.1 h.2.2).1).trans h.2.2⟩)
      ?_ ⟨hI1, hL1, hK1⟩).mono ?_
    · rintro pre x D1 W v ⟨hi, hl, hk⟩ hpre hv
      have hlt : w.heap.size + 1 < W.heap.size := (Array.getElem?_eq_some_iff.1 hl).1
      have hy := run_yield (P := P) (args := #[v]) hl (by rw [hrec]; rfl)
      rw [hrec] at hy
      refine ⟨fn, _, assign, body, hy, roundIn_of_wpIn hfn ?_⟩
      have hz : ((#[p] : Array Tmp).zip #[v]).foldl (fun t (x : Tmp × Value) => t.setIfInBounds x.1 x.2) a.tmps = a.tmps.setIfInBounds p v := by
        simp
      refine Eq.mp (congrArg (fun t => Code.wpIn (Fence.wide.inRound (w.heap.size + 1)) 0 P assign _ { tmps := t, defers := [] } W) hz.symm) (hassign _ v W _ ⟨_, run_beginRound hl (by rw [hrec]), ?_⟩)
      have hl2 : (W.putObj (w.heap.size + 1) (.loop { rec .ready none with state := .busy })).heap[w.heap.size + 1]? = some (.loop { rec .ready none with state := .busy }) := World.putObj_heap_same hlt
      have hk2 : (W.putObj (w.heap.size + 1) (.loop { rec .ready none with state := .busy })).heap[w.heap.size]? = some (.deferred (some [])) := (World.putObj_heap_other (by omega)).trans hk
      refine wpIn_mono (hbody _ pre x D1 v _ (hIp _ _ _ _ _ _ hi (by omega) hl rfl) hpre hv) ?_
      have fin : ∀ (jump : Option Code) (W3 : World), KeepsOthers (W.putObj (w.heap.size + 1) (.loop { rec .ready none with state := .busy })) W3 →
          (Instr.endRound (w.heap.size + 1) jump).run P W3 = .ok (.bool jump.isNone) (W3.putObj (w.heap.size + 1) (.loop (rec (if jump.isNone then .ready else .done) jump))) ∧
          W3.heap[w.heap.size + 1]? = some (.loop { rec .ready none with state := .busy }) ∧
          (W3.putObj (w.heap.size + 1) (.loop (rec (if jump.isNone then .ready else .done) jump))).heap[w.heap.size + 1]? = some (.loop (rec (if jump.isNone then .ready else .done) jump)) ∧
          (W3.putObj (w.heap.size + 1) (.loop (rec (if jump.isNone then .ready else .done) jump))).heap[w.heap.size]? = some (.deferred (some [])) := fun jump W3 hk3 => by
        have hl3 := hk3.same _ _ hl2 rfl
        have := run_endRound (P := P) jump hl3
        rw [hrec] at this ⊢
        exact ⟨this, by rw [hrec] at hl3; exact hl3, World.putObj_heap_same (Array.getElem?_eq_some_iff.1 hl3).1, (World.putObj_heap_other (by omega)).trans (hk3.same _ _ hk2 rfl)⟩
      rintro e a3 W3 hp
      cases e with
      | normal =>
        obtain ⟨hk3, D2, hd, hi3⟩ := hp
        obtain ⟨hr, hl3, hl4, hk4⟩ := fin none W3 hk3
        exact ⟨_, _, hr, .inl ⟨rfl, D2, hd, hIp _ _ _ _ _ _ hi3 (by omega) hl3 rfl, hl4, hk4⟩⟩
      | ret =>
        obtain ⟨hk3, D2, hd, hi3⟩ := hp
        obtain ⟨hr, hl3, hl4, hk4⟩ := fin (some .ret) W3 hk3
        exact ⟨_, _, hr, .inr ⟨rfl, D2, hd, .ret, hIx _ _ _ _ _ _ _ hi3 (by omega) hl3 rfl, hl4, hk4⟩⟩
      | exit id =>
        obtain ⟨hk3, D2, hd, hi3⟩ := hp
        obtain ⟨hr, hl3, hl4, hk4⟩ := fin (some (.exit id)) W3 hk3
        exact ⟨_, _, hr, .inr ⟨rfl, D2, hd, .exit id, hIx _ _ _ _ _ _ _ hi3 (by omega) hl3 rfl, hl4, hk4⟩⟩
      | goto t =>
        obtain ⟨hk3, D2, hd, hi3⟩ := hp
        obtain ⟨hr, hl3, hl4, hk4⟩ := fin (some (.goto t)) W3 hk3
        exact ⟨_, _, hr, .inr ⟨rfl, D2, hd, .goto t, hIx _ _ _ _ _ _ _ hi3 (by omega) hl3 rfl, hl4, hk4⟩⟩
      | panic ch => exact hp.elim
      | outgrown => exact hp.elim
    · rintro e W2 ⟨⟨v, rfl⟩, (⟨D2, hd, hi, hl, hk⟩ | ⟨pre, D2, hd, hpre, c, hi, hl, hk⟩)⟩
      · exact ⟨none, _, by have := run_endLoop (P := P) hl (by rw [hrec]; simp); rw [hrec] at this; exact this, hdone _ D2 _ (hIp _ _ _ _ _ _ hi (by omega) hl rfl) hd (Nat.le_refl _) ((World.putObj_heap_other (by omega)).trans hk)⟩
      · exact ⟨some c, _, by have := run_endLoop (P := P) hl (by rw [hrec]; simp); rw [hrec] at this; exact this, (wpIn_wide (n := 0)).2 (hstop _ c pre D2 _ hpre (hIx _ _ _ _ _ _ _ hi (by omega) hl rfl) hd (Nat.le_refl _) ((World.putObj_heap_other (by omega)).trans hk))⟩

/-- a function that holds such a loop. -/
theorem calls_of_marks {P : Program} {f : FuncId} {fn : Func} {c : Code} {args : Array Value} {w : World} {R : Ending → World → Prop}
    (hf : P.funcs[f]? = some fn) (hb : fn.body = some c)
    (h : c.wp P (bodyPostM Fence.wide 0 P fn R) { tmps := args ++ Array.replicate (fn.ntmps - args.size) undef, defers := [] } w) : Calls P f args w R :=
  (callsIn_wide (n := 0)).1 (callsIn_of_wp_marks hf hb trivial ((wpIn_wide (n := 0)).2 h) rfl)
end Go.VS
