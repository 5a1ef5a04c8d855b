/-
  What is proved here: the checksum in plain Lean: it is affine, and a change of one byte changes it.
-/
namespace Go.VS
/-- one bit of the checksum's register. -/
def crcStep (n : Nat) : Nat := if n % 2 = 1 then (n / 2) ^^^ 3988292384 else n / 2
def crcSteps : Nat → Nat → Nat
  | 0, n => n
  | k + 1, n => crcSteps k (crcStep n)
def crcByte (n : Nat) (c : UInt8) : Nat := crcSteps 8 (n ^^^ c.toNat)
/-- the register behind some bytes. -/
def crcReg (n : Nat) (bs : List UInt8) : Nat := bs.foldl crcByte n
/-- the checksum. -/
def crcF (bs : List UInt8) : Nat := crcReg 4294967295 bs ^^^ 4294967295
theorem crcStep_lt {n : Nat} (h : n < 4294967296) : crcStep n < 4294967296 := by
  unfold crcStep
  split
  · exact Nat.xor_lt_two_pow (n := 32) (by omega) (by omega)
  · omega
theorem crcSteps_lt : ∀ (k n : Nat), n < 4294967296 → crcSteps k n < 4294967296
  | 0, _, h => h
  | k + 1, _, h => crcSteps_lt k _ (crcStep_lt h)
theorem crcByte_lt {n : Nat} (h : n < 4294967296) (c : UInt8) : crcByte n c < 4294967296 :=
  crcSteps_lt 8 _ (Nat.xor_lt_two_pow (n := 32) h (by have := c.toNat_lt; omega))
theorem crcReg_lt : ∀ (bs : List UInt8) (n : Nat), n < 4294967296 → crcReg n bs < 4294967296
  | [], _, h => h
  | c :: r, _, h => crcReg_lt r _ (crcByte_lt h c)
theorem crcF_lt (bs : List UInt8) : crcF bs < 4294967296 := Nat.xor_lt_two_pow (n := 32) (crcReg_lt bs _ (by omega)) (by omega)
theorem crcStep_xor (x y : Nat) : crcStep (x ^^^ y) = crcStep x ^^^ crcStep y := by
  unfold crcStep
  have h1 : (x ^^^ y) / 2 = x / 2 ^^^ y / 2 := Nat.xor_div_two
  have h2 : (x ^^^ y) % 2 = (x % 2 + y % 2) % 2 := by
    have : (x ^^^ y) % 2 = (x % 2) ^^^ (y % 2) := Nat.xor_mod_two_pow (n := 1)
    rw [this]
    rcases Nat.mod_two_eq_zero_or_one x with a | a <;> rcases Nat.mod_two_eq_zero_or_one y with b | b <;> rw [a, b] <;> rfl
  rw [h1, h2]
  have hp : ∀ a b p : Nat, a ^^^ p ^^^ (b ^^^ p) = a ^^^ b := fun a b p => by
    rw [Nat.xor_comm b p, Nat.xor_assoc, ← Nat.xor_assoc p p b, Nat.xor_self, Nat.zero_xor]
  have hq : ∀ a b p : Nat, a ^^^ b ^^^ p = a ^^^ p ^^^ b := fun a b p => by
    rw [Nat.xor_assoc, Nat.xor_comm b p, ← Nat.xor_assoc]
  rcases Nat.mod_two_eq_zero_or_one x with a | a <;> rcases Nat.mod_two_eq_zero_or_one y with b | b <;> simp [a, b]
  · rw [Nat.xor_assoc]
  · rw [hq]
  · rw [hp]
theorem crcSteps_xor : ∀ (k x y : Nat), crcSteps k (x ^^^ y) = crcSteps k x ^^^ crcSteps k y
  | 0, _, _ => rfl
  | k + 1, x, y => by rw [crcSteps, crcStep_xor, crcSteps_xor k]; rfl
theorem crcByte_xor (x y : Nat) (c d : UInt8) : crcByte (x ^^^ y) (c ^^^ d) = crcByte x c ^^^ crcByte y d := by
  unfold crcByte
  rw [← crcSteps_xor, UInt8.toNat_xor]
  congr 1
  rw [Nat.xor_assoc, ← Nat.xor_assoc y, Nat.xor_comm y c.toNat, Nat.xor_assoc, ← Nat.xor_assoc]
/-- three rows of bytes, put together. -/
def xor3 : List UInt8 → List UInt8 → List UInt8 → List UInt8
  | a :: as, b :: bs, c :: cs => (a ^^^ b ^^^ c) :: xor3 as bs cs
  | _, _, _ => []
theorem crcReg_xor3 : ∀ (as bs cs : List UInt8), as.length = bs.length → as.length = cs.length → ∀ x y z : Nat,
    crcReg (x ^^^ y ^^^ z) (xor3 as bs cs) = crcReg x as ^^^ crcReg y bs ^^^ crcReg z cs
  | [], [], [], _, _, _, _, _ => rfl
  | a :: as, b :: bs, c :: cs, h1, h2, x, y, z => by
    have ih := crcReg_xor3 as bs cs (by simpa using h1) (by simpa using h2) (crcByte x a) (crcByte y b) (crcByte z c)
    rw [← crcByte_xor, ← crcByte_xor] at ih
    exact ih
  | [], _ :: _, _, h, _, _, _, _ => by simp at h
  | _ :: _, [], _, h, _, _, _, _ => by simp at h
  | [], [], _ :: _, _, h, _, _, _ => by simp at h
  | _ :: _, _ :: _, [], _, h, _, _, _ => by simp at h
theorem crc_affine (as bs cs : List UInt8) (h1 : as.length = bs.length) (h2 : as.length = cs.length) : crcF (xor3 as bs cs) = crcF as ^^^ crcF bs ^^^ crcF cs := by
  have h := crcReg_xor3 as bs cs h1 h2 4294967295 4294967295 4294967295
  rw [Nat.xor_self, Nat.zero_xor] at h
  unfold crcF
  rw [h]
  generalize crcReg 4294967295 as = x
  generalize crcReg 4294967295 bs = y
  generalize crcReg 4294967295 cs = z
  generalize 4294967295 = p
  have hp : x ^^^ p ^^^ (y ^^^ p) = x ^^^ y := by
    rw [Nat.xor_comm y p, Nat.xor_assoc, ← Nat.xor_assoc p p y, Nat.xor_self, Nat.zero_xor]
  rw [hp, Nat.xor_assoc]
theorem crcStep_zero {n : Nat} (hn : n < 4294967296) (h : crcStep n = 0) : n = 0 := by
  unfold crcStep at h
  split at h
  · have : n / 2 = 3988292384 := by
      have e : n / 2 ^^^ 3988292384 ^^^ 3988292384 = 0 ^^^ 3988292384 := by rw [h]
      rw [Nat.xor_assoc, Nat.xor_self, Nat.zero_xor, Nat.xor_zero] at e
      exact e
    omega
  · omega
theorem xor_zero_eq {x y : Nat} (h : x ^^^ y = 0) : x = y := by
  have e : x ^^^ y ^^^ y = 0 ^^^ y := by rw [h]
  rw [Nat.xor_assoc, Nat.xor_self, Nat.zero_xor, Nat.xor_zero] at e
  exact e
theorem crcSteps_inj : ∀ (k x y : Nat), x < 4294967296 → y < 4294967296 → crcSteps k x = crcSteps k y → x = y
  | 0, _, _, _, _, h => h
  | k + 1, x, y, hx, hy, h => by
    have h1 := crcSteps_inj k _ _ (crcStep_lt hx) (crcStep_lt hy) h
    refine xor_zero_eq (crcStep_zero (Nat.xor_lt_two_pow (n := 32) hx hy) ?_)
    rw [crcStep_xor, h1, Nat.xor_self]
theorem crcByte_inj {x y : Nat} (c : UInt8) (hx : x < 4294967296) (hy : y < 4294967296) (h : crcByte x c = crcByte y c) : x = y := by
  have hc := c.toNat_lt
  have h1 := crcSteps_inj 8 _ _ (Nat.xor_lt_two_pow (n := 32) hx (by omega)) (Nat.xor_lt_two_pow (n := 32) hy (by omega)) h
  have e : x ^^^ c.toNat ^^^ c.toNat = y ^^^ c.toNat ^^^ c.toNat := by rw [h1]
  rwa [Nat.xor_assoc, Nat.xor_self, Nat.xor_zero, Nat.xor_assoc, Nat.xor_self, Nat.xor_zero] at e
theorem crcReg_inj : ∀ (bs : List UInt8) (x y : Nat), x < 4294967296 → y < 4294967296 → crcReg x bs = crcReg y bs → x = y
  | [], _, _, _, _, h => h
  | c :: r, _, _, hx, hy, h => crcByte_inj c hx hy (crcReg_inj r _ _ (crcByte_lt hx c) (crcByte_lt hy c) h)
/-- a change of one byte changes the checksum. -/
theorem crc_one (a b : List UInt8) (c d : UInt8) (h : c ≠ d) : crcF (a ++ c :: b) ≠ crcF (a ++ d :: b) := by
  intro e
  unfold crcF at e
  have e1 : crcReg 4294967295 (a ++ c :: b) = crcReg 4294967295 (a ++ d :: b) := by
    have : crcReg 4294967295 (a ++ c :: b) ^^^ 4294967295 ^^^ 4294967295 = crcReg 4294967295 (a ++ d :: b) ^^^ 4294967295 ^^^ 4294967295 := by rw [e]
    rwa [Nat.xor_assoc, Nat.xor_self, Nat.xor_zero, Nat.xor_assoc, Nat.xor_self, Nat.xor_zero] at this
  unfold crcReg at e1
  rw [List.foldl_append, List.foldl_append] at e1
  have hr := crcReg_lt a 4294967295 (by omega)
  have e2 := crcReg_inj b _ _ (crcByte_lt hr c) (crcByte_lt hr d) e1
  have hc := c.toNat_lt
  have hd := d.toNat_lt
  have e3 := crcSteps_inj 8 _ _ (Nat.xor_lt_two_pow (n := 32) hr (by omega)) (Nat.xor_lt_two_pow (n := 32) hr (by omega)) e2
  have e4 : crcReg 4294967295 a ^^^ (crcReg 4294967295 a ^^^ c.toNat) = crcReg 4294967295 a ^^^ (crcReg 4294967295 a ^^^ d.toNat) := by rw [e3]
  rw [← Nat.xor_assoc, ← Nat.xor_assoc, Nat.xor_self, Nat.zero_xor, Nat.zero_xor] at e4
  exact h (UInt8.toNat_inj.1 e4)
theorem crc_digits : crcF [49, 50, 51, 52, 53, 54, 55, 56, 57] = 3421780262 := by decide +kernel
theorem crc_nil : crcF [] = 0 := by decide +kernel
end Go.VS
