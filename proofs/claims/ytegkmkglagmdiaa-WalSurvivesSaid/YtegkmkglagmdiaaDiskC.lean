/-
  What is proved here: contracts of disk.checkAt and disk.Read
-/
import Derived.Test.YtegkmkglagmdiaaRows
import Derived.Test.YtegkmkglagmdiaaDiskB
import Derived.Deep.RegionHeld3
import Derived.Deep.DeepCutAuto
import Derived.Deep.QuietTactic
import Derived.BigQuiet
import Derived.Laws.EntriesVeiled
namespace Go.Proofs.Ytegkmkglagmdiaa
open Go.RowKit Go.VS

theorem chk01 (d : Dsk) : chk d = 0 ∨ chk d = 1 := by unfold chk; split <;> simp
theorem chk_len {d : Dsk} (h : chk d = 0) : 1 ≤ d.secs.length ∧ d.secs.length ≤ 4096 ∧ (∀ x ∈ d.secs, x.length = 128) ∧ -1 ≤ d.left ∧ 0 ≤ d.tear ∧ d.tear ≤ 128 ∧ (d.stopped = true → d.left = 0) := by
  unfold chk at h
  split at h
  · rename_i hh; exact (okB_iff d).1 hh
  · omega
/-- A variable of four cells, behind a call. -/
theorem after4 {w w1 : World} {a b c d : Value} {t : TypeId} (hb : Below (w.alloc (.cells #[a, b, c, d] t)).heap.size (w.alloc (.cells #[a, b, c, d] t)) w1) :
    w1.cell? ⟨w.heap.size, 0, none⟩ = some a ∧ w1.cell? ⟨w.heap.size, 1, none⟩ = some b ∧ w1.cell? ⟨w.heap.size, 2, none⟩ = some c ∧ w1.cell? ⟨w.heap.size, 3, none⟩ = some d := by
  have h := fun i => hb.cell (p := ⟨w.heap.size, i, none⟩) (by simp)
  refine ⟨(h 0).trans ?_, (h 1).trans ?_, (h 2).trans ?_, (h 3).trans ?_⟩ <;> simp
theorem below_alloc {w w1 : World} {o : Obj} (hb : Below (w.alloc o).heap.size (w.alloc o) w1) : Below w.heap.size w w1 := ((Below.refl _ _).alloc (Nat.le_refl _) _).trans (hb.mono (by simp))

def inR (d : Dsk) (at_ : Int) : Bool := decide (0 ≤ at_ ∧ at_ < d.secs.length)
def chkAt (d : Dsk) (at_ : Int) : Int := if chk d = 0 ∧ inR d at_ = true then 0 else 1

set_option maxHeartbeats 1000000 in
theorem checkAt_c (A : Option Addr) (n c : Nat) (xs : List (List UInt8)) (l t at_ : Int) (s : Bool) (D : Gh) (w : World) (hk : Keeps D w) (hs : SS D (.slice A n c) xs) :
    Calls Try.prog 46 #[.agg #[.slice A n c, .int .i64 l, .int .i64 t, .bool s], .int .i64 at_] w fun e w' => e = .returned (.int .i64 (chkAt ⟨xs, l, t, s⟩ at_)) ∧ Below w.heap.size w w' := by
  obtain ⟨hn, hnc, hcm⟩ := hs.len
  unfold maxLen at hcm
  have HN := Lib.hid hn
  clear hn
  have HC := fun W hk => Lib.hid (check_c A n c xs l t s D W hk hs)
  rcases chk01 ⟨xs, l, t, s⟩ with h0 | h0
  · have H0 := Lib.hid h0
    clear h0
    by_cases h1 : at_ < 0
    · have hf : chkAt ⟨xs, l, t, s⟩ at_ = 1 := by unfold chkAt; rw [if_neg]; simp [inR]; omega
      have HF := Lib.hid hf
      clear hf
      have g1 : decide (at_ < 0) = true := by simp; omega
      go_enter Try.func46, Try.ntmps46
      go_wp2_with fail
      refine (HC _ (hk.alloc _)).out.mono ?_
      rintro e w1 ⟨rfl, hb1⟩
      rw [H0.out]
      go_wp2
      go_ret
      exact ⟨by rw [HF.out]; rfl, below_alloc hb1⟩
    have g1 : decide (at_ < 0) = false := by simp; omega
    by_cases h2 : (n : Int) ≤ at_
    · have hf : chkAt ⟨xs, l, t, s⟩ at_ = 1 := by unfold chkAt; rw [if_neg]; simp [inR, ← HN.out]; omega
      have HF := Lib.hid hf
      clear hf
      have g2 : decide ((n : Int) ≤ at_) = true := by simp; omega
      go_enter Try.func46, Try.ntmps46
      go_wp2_with fail
      refine (HC _ (hk.alloc _)).out.mono ?_
      rintro e w1 ⟨rfl, hb1⟩
      rw [H0.out]
      obtain ⟨q0, q1, q2, q3⟩ := after4 hb1
      go_wp2
      go_ret
      exact ⟨by rw [HF.out]; rfl, below_alloc hb1⟩
    have g2 : decide ((n : Int) ≤ at_) = false := by simp; omega
    have hf : chkAt ⟨xs, l, t, s⟩ at_ = 0 := by unfold chkAt; rw [if_pos]; refine ⟨H0.out, ?_⟩; simp [inR, ← HN.out]; omega
    have HF := Lib.hid hf
    clear hf
    go_enter Try.func46, Try.ntmps46
    go_wp2_with fail
    refine (HC _ (hk.alloc _)).out.mono ?_
    rintro e w1 ⟨rfl, hb1⟩
    rw [H0.out]
    obtain ⟨q0, q1, q2, q3⟩ := after4 hb1
    go_wp2
    go_ret
    exact ⟨by rw [HF.out]; rfl, below_alloc hb1⟩
  · have hf : chkAt ⟨xs, l, t, s⟩ at_ = 1 := by unfold chkAt; rw [if_neg]; rw [h0]; simp
    have H0 := Lib.hid h0
    clear h0
    have HF := Lib.hid hf
    clear hf
    go_enter Try.func46, Try.ntmps46
    go_wp2_with fail
    refine (HC _ (hk.alloc _)).out.mono ?_
    rintro e w1 ⟨rfl, hb1⟩
    rw [H0.out]
    go_wp2
    go_ret
    exact ⟨by rw [HF.out]; rfl, below_alloc hb1⟩

theorem chkAt01 (d : Dsk) (i : Int) : chkAt d i = 0 ∨ chkAt d i = 1 := by unfold chkAt; split <;> simp

def readF (d : Dsk) (at_ : Int) : List UInt8 × Int := if chkAt d at_ ≠ 0 then ([], 1) else if d.stopped then ([], 410) else (d.secs[at_.toNat]?.getD [], 0)

theorem chkAt0 {d : Dsk} {i : Int} (h : chkAt d i = 0) : chk d = 0 ∧ 0 ≤ i ∧ i < d.secs.length := by
  unfold chkAt at h
  split at h
  · rename_i hh; simpa [inR] using hh
  · omega

set_option maxHeartbeats 1000000 in
theorem read_c (A : Option Addr) (n c : Nat) (xs : List (List UInt8)) (l t at_ : Int) (s : Bool) (D : Gh) (w : World) (hk : Keeps D w) (hs : SS D (.slice A n c) xs) :
    Calls Try.prog 23 #[.agg #[.slice A n c, .int .i64 l, .int .i64 t, .bool s], .int .i64 at_] w fun e w' => ∃ a n c D', e = .returned (.tuple #[.slice a n c, .int .i64 (readF ⟨xs, l, t, s⟩ at_).2]) ∧ Grow w D w' D' ∧ BS D' (.slice a n c) (readF ⟨xs, l, t, s⟩ at_).1 := by
  obtain ⟨hn, hnc, hcm⟩ := hs.len
  unfold maxLen at hcm
  have HN := Lib.hid hn
  clear hn
  have HC := fun W hk => Lib.hid (checkAt_c A n c xs l t at_ s D W hk hs)
  rcases chkAt01 ⟨xs, l, t, s⟩ at_ with h0 | h0
  · obtain ⟨hc0, hi0, hi1⟩ := chkAt0 h0
    simp only at hi1
    have hlen := (chk_len hc0).2.2.1
    cases s with
    | true =>
      have hf : readF ⟨xs, l, t, true⟩ at_ = ([], 410) := by unfold readF; rw [if_neg (by rw [h0]; simp), if_pos rfl]
      have H0 := Lib.hid h0
      clear h0
      have HF := Lib.hid hf
      clear hf
      have HLEN := Lib.hid hlen
      clear hlen
      have HC0 := Lib.hid hc0
      clear hc0
      go_enter Try.func23, Try.ntmps23
      go_wp2_with fail
      refine (HC _ (hk.alloc _)).out.mono ?_
      rintro e w1 ⟨rfl, hb1⟩
      rw [H0.out]
      obtain ⟨q0, q1, q2, q3⟩ := after4 hb1
      go_wp2
      go_ret2
      exact ⟨none, 0, 0, D, by rw [HF.out]; rfl, Grow.of_below hk (below_alloc hb1), by rw [HF.out]; exact BS.nil D⟩
    | false =>
      obtain ⟨i, rfl⟩ := Int.eq_ofNat_of_zero_le hi0
      have hix : i < xs.length := by omega
      have hin : i < n := by rw [HN.out]; exact hix
      have hf : readF ⟨xs, l, t, false⟩ (i : Int) = (xs[i], 0) := by unfold readF; rw [if_neg (by rw [h0]; simp), if_neg (by simp)]; simp [List.getElem?_eq_getElem hix]
      have hl : xs[i].length = 128 := hlen _ (List.getElem_mem hix)
      have H0 := Lib.hid h0
      clear h0
      have HF := Lib.hid hf
      clear hf
      have HLEN := Lib.hid hlen
      clear hlen
      have HC0 := Lib.hid hc0
      clear hc0
      go_enter Try.func23, Try.ntmps23
      go_wp2_with fail
      refine (HC _ (hk.alloc _)).out.mono ?_
      rintro e w1 ⟨rfl, hb1⟩
      rw [H0.out]
      obtain ⟨q0, q1, q2, q3⟩ := after4 hb1
      have hk1 : Keeps D w1 := (hk.alloc _).below hb1 (Nat.le_refl _)
      obtain ⟨b, o, a', c', rfl, hcell, hbs⟩ := hs.at_ hk1 hix
      rw [hl] at hcell hbs
      have HL := Lib.hid hl
      clear hl
      go_wp2_with fail
      refine (clone32 _ _ _ _ D _ hk1 hbs (bv_one _) (by omega)).mono ?_
      rintro e w2 ⟨A', c2, rfl, hb2, hown⟩
      obtain ⟨D', hg, hsl⟩ := pub_row hk1 hb2 (Nat.le_refl _) hown
      go_wp2
      go_ret2
      exact ⟨A', _, c2, D', by rw [HF.out]; rfl, (Grow.of_below hk (below_alloc hb1)).trans hg, by rw [HF.out]; exact hsl⟩
  · have hf : readF ⟨xs, l, t, s⟩ at_ = ([], 1) := by unfold readF; rw [if_pos (by rw [h0]; simp)]
    have H0 := Lib.hid h0
    clear h0
    have HF := Lib.hid hf
    clear hf
    go_enter Try.func23, Try.ntmps23
    go_wp2_with fail
    refine (HC _ (hk.alloc _)).out.mono ?_
    rintro e w1 ⟨rfl, hb1⟩
    rw [H0.out]
    go_wp2
    go_ret2
    exact ⟨none, 0, 0, D, by rw [HF.out]; rfl, Grow.of_below hk (below_alloc hb1), by rw [HF.out]; exact BS.nil D⟩
end Go.Proofs.Ytegkmkglagmdiaa
