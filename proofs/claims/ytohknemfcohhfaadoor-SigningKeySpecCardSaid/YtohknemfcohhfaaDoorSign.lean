/-
  What is proved here: hash-based signatures in plain Lean: chains compose; what is opened leads back to the public key.
-/
import Derived.Test.YtohknemfcohhfaaDoorTree
namespace Go.VS
def chainT : List UInt8 := [99, 104, 97, 105, 110]
def secretT : List UInt8 := [115, 101, 99, 114, 101, 116]
def oneT : List UInt8 := [111, 110, 101]
def messageT : List UInt8 := [109, 101, 115, 115, 97, 103, 101]
/-- a number as a byte. -/
def b8 (x : Int) : UInt8 := UInt8.ofNat (x % 256).toNat
theorem b8_val (x : Int) : ((b8 x).toNat : Int) = x % 256 := by
  unfold b8
  rw [UInt8.toNat_ofNat']
  omega
section
variable (T : List UInt8 → List UInt8 → Dg)
/-- k steps of a chain, from the value with the number n. -/
def advF (i j : Int) : Nat → Int → Dg → Dg
  | 0, _, d => d
  | k + 1, n, d => advF i j k (n + 1) (T chainT ([b8 i, b8 j, b8 n] ++ d))
def adv (i j a b : Int) (d : Dg) : Dg := advF T i j (b - a).toNat a d
theorem advF_add (i j : Int) (m : Nat) : ∀ (k : Nat) (n : Int) (d : Dg), advF T i j (k + m) n d = advF T i j m (n + k) (advF T i j k n d)
  | 0, n, d => by simp [advF]
  | k + 1, n, d => by
    rw [show k + 1 + m = (k + m) + 1 by omega, advF, advF_add i j m k, advF]
    congr 1
    omega
theorem adv_self (i j a b : Int) (h : b ≤ a) (d : Dg) : adv T i j a b d = d := by
  unfold adv
  rw [show (b - a).toNat = 0 by omega]
  rfl
theorem adv_comp (i j a b c : Int) (h1 : a ≤ b) (h2 : b ≤ c) (d : Dg) : adv T i j b c (adv T i j a b d) = adv T i j a c d := by
  unfold adv
  rw [show (c - a).toNat = (b - a).toNat + (c - b).toNat by omega, advF_add]
  congr 1
  omega
theorem adv_succ (i j a n : Int) (h : a ≤ n) (d : Dg) : adv T i j a (n + 1) d = T chainT ([b8 i, b8 j, b8 n] ++ adv T i j a n d) := by
  rw [← adv_comp T i j a n (n + 1) h (by omega)]
  generalize adv T i j a n d = x
  unfold adv
  rw [show (n + 1 - n).toNat = 1 by omega]
  rfl
def startF (seed : List UInt8) (i j : Int) : Dg := T secretT (seed ++ [b8 i, b8 j])
def valF (seed : List UInt8) (i j n : Int) : Dg := adv T i j 0 n (startF T seed i j)
def oneF (ends : List Dg) : Dg := T oneT ends.flatten
def endsF (seed : List UInt8) (i : Int) : List Dg := (List.range 67).map fun (j : Nat) => valF T seed i j 15
def keyF (seed : List UInt8) (i : Int) : Dg := oneF T (endsF T seed i)
def keysF (seed : List UInt8) (m : Nat) : List Dg := (List.range m).map fun (i : Nat) => keyF T seed i
def hashF (pub : Dg) (i : Int) (msg : List UInt8) : Dg := T messageT (pub ++ ([b8 i] ++ msg))
def partsF (seed : List UInt8) (u : Int) (l : List Int) : List Dg := (List.range 67).map fun (j : Nat) => valF T seed u j (l.getD j 0)
def openF (parts : List Dg) (i : Int) (l : List Int) : List Dg := (List.range 67).map fun (j : Nat) => adv T i j (l.getD j 0) 15 (parts.getD j [])
theorem keysF_len (seed : List UInt8) (m : Nat) : (keysF T seed m).length = m := by simp [keysF]
theorem partsF_len (seed : List UInt8) (u : Int) (l : List Int) : (partsF T seed u l).length = 67 := by simp [partsF]
theorem partsF_at (seed : List UInt8) (u : Int) (l : List Int) (j : Nat) (h : j < 67) : (partsF T seed u l).getD j [] = valF T seed u j (l.getD j 0) := by
  unfold partsF
  rw [List.getD_eq_getElem?_getD, List.getElem?_map, List.getElem?_range h]
  rfl
theorem open_parts (seed : List UInt8) (u : Int) (l : List Int) (h : ∀ j, j < 67 → 0 ≤ l.getD j 0 ∧ l.getD j 0 ≤ 15) : openF T (partsF T seed u l) u l = endsF T seed u := by
  unfold openF endsF
  refine List.map_congr_left fun j hj => ?_
  have hj := List.mem_range.1 hj
  have := h j hj
  rw [partsF_at T seed u l j hj]
  unfold valF
  rw [adv_comp T u j 0 _ 15 (by omega) (by omega)]
/-- the digest that a signature leads to. -/
def backF (m : Nat) (i : Int) (l : List Int) (parts path : List Dg) : Dg := climbF T (oneF T (openF T parts i l)) i.toNat m path
theorem back_sign (seed : List UInt8) (m u : Nat) (hu : u < m) (l : List Int) (h : ∀ j, j < 67 → 0 ≤ l.getD j 0 ∧ l.getD j 0 ≤ 15) :
    backF T m u l (partsF T seed u l) (pathF T (keysF T seed m) u) = treeF T (keysF T seed m) := by
  unfold backF
  rw [open_parts T seed u l h, Int.toNat_natCast]
  refine climb_path T m _ u _ (keysF_len T seed m) ?_
  unfold keysF keyF
  rw [List.getElem?_map, List.getElem?_range hu]
  rfl
theorem parts_chain (seed : List UInt8) (u : Int) (x y : List Int) (j : Nat) (hj : j < 67) (h0 : 0 ≤ x.getD j 0) (h : x.getD j 0 ≤ y.getD j 0) :
    adv T u j (x.getD j 0) (y.getD j 0) ((partsF T seed u x).getD j []) = (partsF T seed u y).getD j [] := by
  rw [partsF_at T seed u x j hj, partsF_at T seed u y j hj]
  unfold valF
  rw [adv_comp T u j 0 _ _ h0 h]
theorem flatten_take_succ (ds : List Dg) (k : Nat) (d : Dg) (h : ds[k]? = some d) : (ds.take (k + 1)).flatten = (ds.take k).flatten ++ d := by
  rw [List.take_add_one, h]
  simp
theorem flatten_len (ds : List Dg) (h : ∀ d ∈ ds, d.length = 32) : ds.flatten.length = 32 * ds.length := by
  induction ds with
  | nil => rfl
  | cons d r ih =>
    have h1 := h d (by simp)
    have h2 := ih (fun x hx => h x (by simp [hx]))
    simp only [List.flatten_cons, List.length_append, List.length_cons]
    omega
end
end Go.VS
