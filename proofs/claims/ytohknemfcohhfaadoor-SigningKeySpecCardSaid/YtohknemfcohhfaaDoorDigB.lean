/-
  What is proved here: the variables of the mixing function; the schedule and the rounds, step by step.
-/
import Derived.Test.YtohknemfcohhfaaDoorRows
import Derived.Test.YtohknemfcohhfaaDoorBaseC
import Derived.Test.YtohknemfcohhfaaDoorSha
import Derived.Test.YtohknemfcohhfaaDoorDigA
import Derived.StillTailTactics
import Derived.Deep.RegionHeld3
import Derived.Deep.RegionLaw
import Derived.Deep.DeepCutAuto
import Derived.Deep.QuietTactic
import Derived.BigQuiet
import Derived.Laws.EntriesVeiled
namespace Go.Proofs.YtohknemfcohhfaaDoor
open Go.RowKit Go.VS
theorem wrapB (x : UInt8) : (x.toNat : Int) % 4294967296 = x.toNat := by
  have := x.toNat_lt
  omega
theorem rc2 (x : Int) (w : World) : Calls Tryd.prog 78 #[.int .u32 x, .int .i64 2] w fun e w' => e = .returned (.int .u32 (rotI x 2)) ∧ w = w' := rot_c x 2 (by decide) w
theorem rrc2 (x : Int) (w : World) : Calls Tryd.prog 79 #[.int .u32 x, .int .i64 2] w fun e w' => e = .returned (.int .u32 (rotI x 2)) ∧ ∃ m, w' = w.drewN m := rrot_c x 2 (by decide) w
theorem rc6 (x : Int) (w : World) : Calls Tryd.prog 78 #[.int .u32 x, .int .i64 6] w fun e w' => e = .returned (.int .u32 (rotI x 6)) ∧ w = w' := rot_c x 6 (by decide) w
theorem rrc6 (x : Int) (w : World) : Calls Tryd.prog 79 #[.int .u32 x, .int .i64 6] w fun e w' => e = .returned (.int .u32 (rotI x 6)) ∧ ∃ m, w' = w.drewN m := rrot_c x 6 (by decide) w
theorem rc7 (x : Int) (w : World) : Calls Tryd.prog 78 #[.int .u32 x, .int .i64 7] w fun e w' => e = .returned (.int .u32 (rotI x 7)) ∧ w = w' := rot_c x 7 (by decide) w
theorem rrc7 (x : Int) (w : World) : Calls Tryd.prog 79 #[.int .u32 x, .int .i64 7] w fun e w' => e = .returned (.int .u32 (rotI x 7)) ∧ ∃ m, w' = w.drewN m := rrot_c x 7 (by decide) w
theorem rc11 (x : Int) (w : World) : Calls Tryd.prog 78 #[.int .u32 x, .int .i64 11] w fun e w' => e = .returned (.int .u32 (rotI x 11)) ∧ w = w' := rot_c x 11 (by decide) w
theorem rrc11 (x : Int) (w : World) : Calls Tryd.prog 79 #[.int .u32 x, .int .i64 11] w fun e w' => e = .returned (.int .u32 (rotI x 11)) ∧ ∃ m, w' = w.drewN m := rrot_c x 11 (by decide) w
theorem rc13 (x : Int) (w : World) : Calls Tryd.prog 78 #[.int .u32 x, .int .i64 13] w fun e w' => e = .returned (.int .u32 (rotI x 13)) ∧ w = w' := rot_c x 13 (by decide) w
theorem rrc13 (x : Int) (w : World) : Calls Tryd.prog 79 #[.int .u32 x, .int .i64 13] w fun e w' => e = .returned (.int .u32 (rotI x 13)) ∧ ∃ m, w' = w.drewN m := rrot_c x 13 (by decide) w
theorem rc17 (x : Int) (w : World) : Calls Tryd.prog 78 #[.int .u32 x, .int .i64 17] w fun e w' => e = .returned (.int .u32 (rotI x 17)) ∧ w = w' := rot_c x 17 (by decide) w
theorem rrc17 (x : Int) (w : World) : Calls Tryd.prog 79 #[.int .u32 x, .int .i64 17] w fun e w' => e = .returned (.int .u32 (rotI x 17)) ∧ ∃ m, w' = w.drewN m := rrot_c x 17 (by decide) w
theorem rc18 (x : Int) (w : World) : Calls Tryd.prog 78 #[.int .u32 x, .int .i64 18] w fun e w' => e = .returned (.int .u32 (rotI x 18)) ∧ w = w' := rot_c x 18 (by decide) w
theorem rrc18 (x : Int) (w : World) : Calls Tryd.prog 79 #[.int .u32 x, .int .i64 18] w fun e w' => e = .returned (.int .u32 (rotI x 18)) ∧ ∃ m, w' = w.drewN m := rrot_c x 18 (by decide) w
theorem rc19 (x : Int) (w : World) : Calls Tryd.prog 78 #[.int .u32 x, .int .i64 19] w fun e w' => e = .returned (.int .u32 (rotI x 19)) ∧ w = w' := rot_c x 19 (by decide) w
theorem rrc19 (x : Int) (w : World) : Calls Tryd.prog 79 #[.int .u32 x, .int .i64 19] w fun e w' => e = .returned (.int .u32 (rotI x 19)) ∧ ∃ m, w' = w.drewN m := rrot_c x 19 (by decide) w
theorem rc22 (x : Int) (w : World) : Calls Tryd.prog 78 #[.int .u32 x, .int .i64 22] w fun e w' => e = .returned (.int .u32 (rotI x 22)) ∧ w = w' := rot_c x 22 (by decide) w
theorem rrc22 (x : Int) (w : World) : Calls Tryd.prog 79 #[.int .u32 x, .int .i64 22] w fun e w' => e = .returned (.int .u32 (rotI x 22)) ∧ ∃ m, w' = w.drewN m := rrot_c x 22 (by decide) w
theorem rc25 (x : Int) (w : World) : Calls Tryd.prog 78 #[.int .u32 x, .int .i64 25] w fun e w' => e = .returned (.int .u32 (rotI x 25)) ∧ w = w' := rot_c x 25 (by decide) w
theorem rrc25 (x : Int) (w : World) : Calls Tryd.prog 79 #[.int .u32 x, .int .i64 25] w fun e w' => e = .returned (.int .u32 (rotI x 25)) ∧ ∃ m, w' = w.drewN m := rrot_c x 25 (by decide) w

/-- the variables of the mixing function: state, result, schedule. -/
structure MB (w wr : World) (D : Gh) (g : Nat) (hc : Array Value) (r : Array Value) (ws : List Int) : Prop where
  bel : Below w.heap.size w wr
  kp : Keeps D wr
  B2 : Box wr D w.heap.size 69 hc
  B4 : Box wr D (w.heap.size + 1) 69 r
  B5 : Box wr D g 92 (warr ws)
theorem MB.drew {w wr : World} {D : Gh} {g : Nat} {hc r : Array Value} {ws : List Int} (h : MB w wr D g hc r ws) : MB w wr.drew D g hc r ws := ⟨h.bel.drew, h.kp.drew, h.B2.drew, h.B4.drew, h.B5.drew⟩
theorem MB.drewN {w wr : World} {D : Gh} {g : Nat} {hc r : Array Value} {ws : List Int} (h : MB w wr D g hc r ws) (n : Nat) : MB w (wr.drewN n) D g hc r ws := ⟨belowDrewN h.bel n, h.kp.drewN n, h.B2.drewN n, h.B4.drewN n, h.B5.drewN n⟩
theorem MB.setw {w wr : World} {D : Gh} {g : Nat} {hc r : Array Value} {ws : List Int} (h : MB w wr D g hc r ws) (hg : w.heap.size + 1 < g) {k : Nat} (hk : ws.length = k) (h64 : k < 64) (x : Int) : MB w (wr.setCell ⟨g, k, none⟩ (.int .u32 x)) D g hc r (ws ++ [x]) := by
  subst hk
  refine ⟨belowSet2 (by omega) h.bel, h.kp.setCell (p := ⟨g, ws.length, none⟩) h.B5.off _, Box.far2 (by omega) h.B2, Box.far2 (by omega) h.B4, ?_⟩
  have := h.B5.set_ ws.length (.int .u32 x)
  rwa [warr_set _ _ h64] at this
theorem MB.heldw {w wr : World} {D : Gh} {g : Nat} {hc r : Array Value} {ws : List Int} (h : MB w wr D g hc r ws) {k : Nat} (hk : ws.length = k) (h64 : k < 64) : wr.cell? ⟨g, k, none⟩ = some (.int .u32 0) ∧ wr.frozen? ⟨g, k, none⟩ = false := by
  subst hk
  exact h.B5.held (warr_end ws h64)
theorem MB.word {w wr : World} {D : Gh} {g : Nat} {hc r : Array Value} {ws : List Int} (h : MB w wr D g hc r ws) {k : Nat} (hk : k < ws.length) : wr.cell? ⟨g, k, none⟩ = some (.int .u32 (ws.getD k 0)) := (h.B5.cell k).trans (warr_at ws k hk)
theorem first_succ (b : List UInt8) (k : Nat) : (List.range (k + 1)).map (at4 b) = (List.range k).map (at4 b) ++ [at4 b k] := by simp [List.range_succ]
theorem sched_len (n : Nat) (l : List Int) : (sched n l).length = l.length + n := by
  induction n generalizing l with
  | zero => rfl
  | succ n ih => rw [sched, ih]; simp; omega
theorem sched_succ (n : Nat) (l : List Int) : sched (n + 1) l = sched n l ++ [nextW (sched n l)] := by
  induction n generalizing l with
  | zero => rfl
  | succ n ih => rw [sched, ih, sched]
theorem rounds_append (l : List (Int × Int)) (x : Int × Int) (s : St) : rounds (l ++ [x]) s = roundF (rounds l s) x.1 x.2 := by
  induction l generalizing s with
  | nil => rfl
  | cons a l ih => obtain ⟨k, w⟩ := a; simp only [List.cons_append, rounds]; exact ih _
theorem zip_take_succ (a b : List Int) (k : Nat) (ha : k < a.length) (hb : k < b.length) : (a.zip b).take (k + 1) = (a.zip b).take k ++ [(a.getD k 0, b.getD k 0)] := by
  rw [List.take_add_one]
  congr 1
  rw [List.getElem?_zip_eq_some.2 (⟨List.getElem?_eq_getElem ha, List.getElem?_eq_getElem hb⟩ : a[k]? = some (a[k], b[k]).1 ∧ b[k]? = some (a[k], b[k]).2)]
  simp [List.getD, List.getElem?_eq_getElem ha, List.getElem?_eq_getElem hb]
def stL (s : St) : List Int := [s.a, s.b, s.c, s.d, s.e, s.f, s.g, s.h]
def lV (l : List Int) : Array Value := (l.map (Value.int .u32)).toArray
theorem stV_eq (s : St) : stV s = lV (stL s) := rfl
def addP (h t : List Int) (k : Nat) : List Int := (List.zipWith (fun x y => w32 (x + y)) h t).take k ++ h.drop k
theorem addP_set (h t : List Int) (k : Nat) (e : h.length = t.length) (hk : k < h.length) : (addP h t k).set k (w32 (h.getD k 0 + t.getD k 0)) = addP h t (k + 1) := by
  unfold addP
  have hz : (List.zipWith (fun x y => w32 (x + y)) h t).length = h.length := by simp; omega
  rw [List.set_append_right _ _ (by simp; omega)]
  have hl : ((List.zipWith (fun x y => w32 (x + y)) h t).take k).length = k := by rw [List.length_take]; omega
  rw [hl, Nat.sub_self, List.drop_eq_getElem_cons hk, List.set_cons_zero, List.take_add_one, List.getElem?_eq_getElem (by omega)]
  simp [List.getD, List.getElem?_eq_getElem hk, List.getElem?_eq_getElem (show k < t.length by omega)]
theorem addP_at (h t : List Int) (k : Nat) (e : h.length = t.length) (hk : k < h.length) : (addP h t k)[k]? = some (h.getD k 0) := by
  unfold addP
  have hz : (List.zipWith (fun x y => w32 (x + y)) h t).length = h.length := by simp; omega
  have hl : ((List.zipWith (fun x y => w32 (x + y)) h t).take k).length = k := by rw [List.length_take]; omega
  rw [List.getElem?_append_right (by omega), hl, Nat.sub_self, List.drop_eq_getElem_cons hk]
  simp [List.getD, List.getElem?_eq_getElem hk]
theorem lV_set (l : List Int) (k : Nat) (x : Int) : (lV l).setIfInBounds k (.int .u32 x) = lV (l.set k x) := by simp [lV, List.map_set]
theorem lV_at (l : List Int) (k : Nat) (x : Int) (h : l[k]? = some x) : (lV l)[k]? = some (.int .u32 x) := by simp [lV, h]
theorem addP_end (s t : St) : addP (stL s) (stL t) 8 = stL (addS s t) := rfl
theorem _root_.Go.VS.Box.set8 {w : World} {D : Gh} {g : Nat} {t : TypeId} {a b c d e f i j : Value} (h : Box w D g t #[a, b, c, d, e, f, i, j]) (a' b' c' d' e' f' i' j' : Value) :
    Box ((((((((w.setCell ⟨g, 0, none⟩ a').setCell ⟨g, 1, none⟩ b').setCell ⟨g, 2, none⟩ c').setCell ⟨g, 3, none⟩ d').setCell ⟨g, 4, none⟩ e').setCell ⟨g, 5, none⟩ f').setCell ⟨g, 6, none⟩ i').setCell ⟨g, 7, none⟩ j') D g t #[a', b', c', d', e', f', i', j'] := by
  have hh := (((((((h.set_ 0 a').set_ 1 b').set_ 2 c').set_ 3 d').set_ 4 e').set_ 5 f').set_ 6 i').set_ 7 j'
  have ee : ((((((((#[a, b, c, d, e, f, i, j].setIfInBounds 0 a').setIfInBounds 1 b').setIfInBounds 2 c').setIfInBounds 3 d').setIfInBounds 4 e').setIfInBounds 5 f').setIfInBounds 6 i').setIfInBounds 7 j') = #[a', b', c', d', e', f', i', j'] := by simp
  rw [ee] at hh
  exact hh
/-- eight stores into one block leave whatever holds of stores into it. -/
theorem set8_keeps {Q : World → Prop} {g : Nat} (hQ : ∀ W o u, Q W → Q (W.setCell ⟨g, o, none⟩ u)) {w : World} (h : Q w) (a b c d e f i j : Value) :
    Q ((((((((w.setCell ⟨g, 0, none⟩ a).setCell ⟨g, 1, none⟩ b).setCell ⟨g, 2, none⟩ c).setCell ⟨g, 3, none⟩ d).setCell ⟨g, 4, none⟩ e).setCell ⟨g, 5, none⟩ f).setCell ⟨g, 6, none⟩ i).setCell ⟨g, 7, none⟩ j) :=
  hQ _ _ _ (hQ _ _ _ (hQ _ _ _ (hQ _ _ _ (hQ _ _ _ (hQ _ _ _ (hQ _ _ _ (hQ _ _ _ h)))))))
theorem MB.far {w wr : World} {D : Gh} {g : Nat} {hc r : Array Value} {ws : List Int} (h : MB w wr D g hc r ws) {p o : Nat} {u : Value} (h1 : w.heap.size + 1 < p) (h2 : g ≠ p) (hoff : D.off p) : MB w (wr.setCell ⟨p, o, none⟩ u) D g hc r ws :=
  ⟨belowSet2 (by omega) h.bel, h.kp.setCell (p := ⟨p, o, none⟩) hoff _, Box.far2 (by omega) h.B2, Box.far2 (by omega) h.B4, Box.far2 h2 h.B5⟩
theorem MB.alloc {w wr : World} {D : Gh} {g : Nat} {hc r : Array Value} {ws : List Int} (h : MB w wr D g hc r ws) (o : Obj) : MB w (wr.alloc o) D g hc r ws :=
  ⟨belowAlloc h.bel o, h.kp.alloc o, h.B2.alloc o, h.B4.alloc o, h.B5.alloc o⟩
end Go.Proofs.YtohknemfcohhfaaDoor
