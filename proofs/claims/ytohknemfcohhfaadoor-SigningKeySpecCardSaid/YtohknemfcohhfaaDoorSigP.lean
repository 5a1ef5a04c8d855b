/-
  What is proved here: digits in plain Lean: no digest's digits are below another's.
-/
import Derived.Test.YtohknemfcohhfaaDoorRows
import Derived.Test.YtohknemfcohhfaaDoorBaseC
import Derived.Test.YtohknemfcohhfaaDoorSha
import Derived.Test.YtohknemfcohhfaaDoorDigA
import Derived.Test.YtohknemfcohhfaaDoorDigC
import Derived.Test.YtohknemfcohhfaaDoorDigD
import Derived.Test.YtohknemfcohhfaaDoorDigE
import Derived.Test.YtohknemfcohhfaaDoorDigF
import Derived.Test.YtohknemfcohhfaaDoorDigG
import Derived.Test.YtohknemfcohhfaaDoorDigH
import Derived.Test.YtohknemfcohhfaaDoorDigI
import Derived.Test.YtohknemfcohhfaaDoorDigJ
import Derived.Test.YtohknemfcohhfaaDoorDigK
import Derived.Test.YtohknemfcohhfaaDoorDigL
import Derived.Test.YtohknemfcohhfaaDoorDigM
import Derived.Test.YtohknemfcohhfaaDoorDigN
import Derived.Test.YtohknemfcohhfaaDoorDigO
import Derived.Test.YtohknemfcohhfaaDoorDigP
import Derived.Test.YtohknemfcohhfaaDoorDigQ
import Derived.Test.YtohknemfcohhfaaDoorDigR
import Derived.Test.YtohknemfcohhfaaDoorDigS
import Derived.Test.YtohknemfcohhfaaDoorDigT
import Derived.Test.YtohknemfcohhfaaDoorLawTags
import Derived.Test.YtohknemfcohhfaaDoorSigA
import Derived.Test.YtohknemfcohhfaaDoorTree
import Derived.Test.YtohknemfcohhfaaDoorSign
import Derived.Test.YtohknemfcohhfaaDoorShelf
import Derived.Lib.ConvBytes
import Derived.StillTailTactics
import Derived.Lib.AppendZerosOnto
import Derived.Deep.RegionHeld3
import Derived.Stop.BytesEq
import Derived.Great.BuildSlice
import Derived.Deep.MidRow
import Derived.Deep.RegionLaw
import Derived.Deep.DeepCutAuto
import Derived.Deep.QuietTactic
import Derived.BigQuiet
import Derived.Laws.EntriesVeiled
namespace Go.Proofs.YtohknemfcohhfaaDoor
open Go.RowKit Go.VS
/-- the sum of the digits of the bytes. -/
theorem hex_sum (d : List UInt8) : (d.flatMap hex2).sum = 30 * d.length - dsum d := by
  induction d with
  | nil => rfl
  | cons c r ih =>
    have e : dsum (c :: r) = (30 - (c.toNat : Int) / 16 - (c.toNat : Int) % 16) + dsum r := by simp [dsum]
    rw [List.flatMap_cons, List.sum_append, ih, e, List.length_cons]
    simp [hex2]
    omega
/-- the digits of a are not above those of b. -/
def leN (x y : List Int) (n : Nat) : Bool := decide (∀ k, k < n → x.getD k 0 ≤ y.getD k 0)
theorem leN_succ (x y : List Int) (n : Nat) : leN x y (n + 1) = (leN x y n && decide (x.getD n 0 ≤ y.getD n 0)) := by
  unfold leN
  rw [Bool.eq_iff_iff, Bool.and_eq_true]
  simp only [decide_eq_true_eq]
  constructor
  · intro h; exact ⟨fun k hk => h k (by omega), h n (by omega)⟩
  · rintro ⟨h1, h2⟩ k hk
    rcases Nat.lt_or_ge k n with h | h
    · exact h1 k h
    · obtain rfl : k = n := by omega
      exact h2
theorem hex_up : ∀ (a b : List UInt8), a.length = b.length → (∀ k, k < 2 * a.length → (a.flatMap hex2).getD k 0 ≤ (b.flatMap hex2).getD k 0) →
    dsum b ≤ dsum a ∧ (dsum a ≤ dsum b → a = b)
  | [], [], _, _ => ⟨Int.le_refl _, fun _ => rfl⟩
  | [], _ :: _, h, _ => by simp at h
  | _ :: _, [], h, _ => by simp at h
  | c :: a, d :: b, hl, h => by
    have e1 : dsum (c :: a) = (30 - (c.toNat : Int) / 16 - (c.toNat : Int) % 16) + dsum a := by simp [dsum]
    have e2 : dsum (d :: b) = (30 - (d.toNat : Int) / 16 - (d.toNat : Int) % 16) + dsum b := by simp [dsum]
    have h0 := h 0 (by simp only [List.length_cons]; omega)
    have h1 := h 1 (by simp only [List.length_cons]; omega)
    simp [hex2] at h0 h1
    obtain ⟨i1, i2⟩ := hex_up a b (by simpa using hl) (fun k hk => by
      have := h (k + 2) (by simp only [List.length_cons]; omega)
      simpa [hex2] using this)
    rw [e1, e2]
    refine ⟨by omega, fun hle => ?_⟩
    have hcd : c.toNat = d.toNat := by omega
    rw [i2 (by omega), UInt8.toNat_inj.1 hcd]
theorem digF_lo (d : List UInt8) (hd : d.length = 32) (k : Nat) (hk : k < 64) : (digF d).getD k 0 = (d.flatMap hex2).getD k 0 := by
  unfold digF
  rw [List.getD_eq_getElem?_getD, List.getD_eq_getElem?_getD, List.getElem?_append_left (by rw [hex_len]; omega)]
theorem digF_hi (d : List UInt8) (hd : d.length = 32) (k : Nat) : (digF d).getD (64 + k) 0 = (tail3 (dsum d)).getD k 0 := by
  unfold digF
  rw [List.getD_eq_getElem?_getD, List.getD_eq_getElem?_getD, List.getElem?_append_right (by rw [hex_len]; omega), hex_len, hd]
  congr 2
  omega
theorem anti (a b : List UInt8) (ha : a.length = 32) (hb : b.length = 32) (h : leN (digF a) (digF b) 67 = true) : a = b := by
  have h := of_decide_eq_true h
  obtain ⟨h1, h2⟩ := hex_up a b (by omega) (fun k hk => by
    have := h k (by omega)
    rwa [digF_lo a ha k (by omega), digF_lo b hb k (by omega)] at this)
  refine h2 ?_
  have t0 := h 64 (by omega)
  have t1 := h 65 (by omega)
  have t2 := h 66 (by omega)
  rw [digF_hi a ha 0, digF_hi b hb 0] at t0
  rw [digF_hi a ha 1, digF_hi b hb 1] at t1
  rw [digF_hi a ha 2, digF_hi b hb 2] at t2
  simp [tail3] at t0 t1 t2
  have := dsum_le a
  have := dsum_le b
  omega
theorem hex_at (d : List UInt8) (k : Nat) (c : UInt8) (h : d[k / 2]? = some c) : (d.flatMap hex2).getD k 0 = (c.toNat : Int) / 2 ^ (4 - k % 2 * 4) % 16 := by
  induction d generalizing k with
  | nil => simp at h
  | cons x r ih =>
    have hc := c.toNat_lt
    match k, h with
    | 0, h => simp at h; subst h; simp [hex2]; omega
    | 1, h => simp at h; subst h; simp [hex2]
    | k + 2, h =>
      rw [show (k + 2) / 2 = k / 2 + 1 by omega] at h
      have := ih k (by simpa using h)
      rw [show (k + 2) % 2 = k % 2 by omega, ← this]
      simp [hex2]
/-- the sum of the first digits. -/
def sumN (l : List Int) (n : Nat) : Int := (l.take (min n 64)).sum
theorem sumN_lo (l : List Int) (n : Nat) (hn : n < 64) (x : Int) (h : l[n]? = some x) : sumN l (n + 1) = sumN l n + x := by
  unfold sumN
  rw [show min (n + 1) 64 = n + 1 by omega, show min n 64 = n by omega, List.take_add_one, h]
  simp
theorem sumN_hi (l : List Int) (n : Nat) (hn : 64 ≤ n) : sumN l (n + 1) = sumN l n := by
  unfold sumN
  rw [show min (n + 1) 64 = 64 by omega, show min n 64 = 64 by omega]
theorem sumN_end (d : List UInt8) (hd : d.length = 32) : sumN (digF d) 67 + (digF d).getD 64 0 * 256 + (digF d).getD 65 0 * 16 + (digF d).getD 66 0 = 960 := by
  have e0 := digF_hi d hd 0
  have e1 := digF_hi d hd 1
  have e2 := digF_hi d hd 2
  simp [tail3] at e0 e1 e2
  have hs := hex_sum d
  have hsum : sumN (digF d) 67 = (d.flatMap hex2).sum := by
    unfold sumN digF
    rw [show min 67 64 = 64 from rfl, List.take_append_of_le_length (by rw [hex_len]; omega), List.take_of_length_le (by rw [hex_len]; omega)]
  have := dsum_le d
  simp only [List.getD_eq_getElem?_getD]
  rw [hsum, hs, e0, e1, e2, hd]
  omega
theorem digF_range (d : List UInt8) (hd : d.length = 32) (k : Nat) (hk : k < 67) : 0 ≤ (digF d).getD k 0 ∧ (digF d).getD k 0 ≤ 15 := by
  rcases Nat.lt_or_ge k 64 with h | h
  · have hlt : k / 2 < d.length := by omega
    rw [digF_lo d hd k h, hex_at d k _ (List.getElem?_eq_getElem hlt)]
    omega
  · obtain ⟨j, rfl⟩ : ∃ j, k = 64 + j := ⟨k - 64, by omega⟩
    rw [digF_hi d hd j]
    have := dsum_le d
    match j, hk with
    | 0, _ => simp [tail3]; omega
    | 1, _ => simp [tail3]; omega
    | 2, _ => simp [tail3]; omega
    | j + 3, h => omega
end Go.Proofs.YtohknemfcohhfaaDoor
