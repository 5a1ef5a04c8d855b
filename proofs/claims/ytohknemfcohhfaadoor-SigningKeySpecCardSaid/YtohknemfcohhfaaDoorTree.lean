/-
  What is proved here: the digest of a list of digests, paths and climbing, in plain Lean: a path climbs to the digest of its list; two lists that part at one place have paths that part in at most one element.
-/
namespace Go.VS

/-- the greatest power of 2 less than n, for n > 1. -/
def half (n : Nat) : Nat := 2 ^ Nat.log2 (n - 1)

theorem half_pos (n : Nat) : 0 < half n := Nat.two_pow_pos _
theorem half_lt {n : Nat} (h : 2 ≤ n) : half n < n := by
  unfold half
  have := Nat.log2_self_le (n := n - 1) (by omega)
  omega
theorem half_ge {n : Nat} (h : 2 ≤ n) : n ≤ 2 * half n := by
  unfold half
  have := Nat.lt_log2_self (n := n - 1)
  rw [Nat.pow_succ] at this
  omega
theorem half_le_pow {n m : Nat} (h : 2 ≤ n) (hm : n ≤ 2 ^ (m + 1)) : half n ≤ 2 ^ m := by
  unfold half
  apply Nat.pow_le_pow_right (by omega)
  have : Nat.log2 (n - 1) < m + 1 := (Nat.log2_lt (by omega)).2 (by omega)
  omega

abbrev Dg := List UInt8
def leafT : List UInt8 := [108, 101, 97, 102]
def nodeT : List UInt8 := [110, 111, 100, 101]
def emptyT : List UInt8 := [101, 109, 112, 116, 121]
section
variable (T : List UInt8 → List UInt8 → Dg)

def treeF (l : List Dg) : Dg :=
  if _h : 2 ≤ l.length then T nodeT (treeF (l.take (half l.length)) ++ treeF (l.drop (half l.length)))
  else match l with
    | [] => T emptyT []
    | d :: _ => T leafT d
termination_by l.length
decreasing_by
  · have := half_lt _h; simp; omega
  · have := half_pos l.length; simp; omega

theorem treeF_nil : treeF T [] = T emptyT [] := by rw [treeF]; simp
theorem treeF_one (d : Dg) : treeF T [d] = T leafT d := by rw [treeF]; simp
theorem treeF_two {l : List Dg} (h : 2 ≤ l.length) : treeF T l = T nodeT (treeF T (l.take (half l.length)) ++ treeF T (l.drop (half l.length))) := by
  rw [treeF, dif_pos h]

/-- the path, from the leaf up. -/
def pathF (l : List Dg) (at_ : Nat) : List Dg :=
  if _h : 2 ≤ l.length then
    if at_ < half l.length then pathF (l.take (half l.length)) at_ ++ [treeF T (l.drop (half l.length))]
    else pathF (l.drop (half l.length)) (at_ - half l.length) ++ [treeF T (l.take (half l.length))]
  else []
termination_by l.length
decreasing_by
  · have := half_lt _h; simp; omega
  · have := half_pos l.length; simp; omega

theorem pathF_one {l : List Dg} (at_ : Nat) (h : l.length < 2) : pathF T l at_ = [] := by rw [pathF, dif_neg (by omega)]
theorem pathF_lo {l : List Dg} {at_ : Nat} (h : 2 ≤ l.length) (ha : at_ < half l.length) : pathF T l at_ = pathF T (l.take (half l.length)) at_ ++ [treeF T (l.drop (half l.length))] := by
  rw [pathF, dif_pos h, if_pos ha]
theorem pathF_hi {l : List Dg} {at_ : Nat} (h : 2 ≤ l.length) (ha : ¬ at_ < half l.length) : pathF T l at_ = pathF T (l.drop (half l.length)) (at_ - half l.length) ++ [treeF T (l.take (half l.length))] := by
  rw [pathF, dif_pos h, if_neg ha]

def lenF (at_ n : Nat) : Nat :=
  if _h : 2 ≤ n then if at_ < half n then 1 + lenF at_ (half n) else 1 + lenF (at_ - half n) (n - half n) else 0
termination_by n
decreasing_by
  · exact half_lt _h
  · have := half_pos n; omega
theorem lenF_one (at_ : Nat) {n : Nat} (h : n < 2) : lenF at_ n = 0 := by rw [lenF, dif_neg (by omega)]
theorem lenF_lo {at_ n : Nat} (h : 2 ≤ n) (ha : at_ < half n) : lenF at_ n = 1 + lenF at_ (half n) := by rw [lenF, dif_pos h, if_pos ha]
theorem lenF_hi {at_ n : Nat} (h : 2 ≤ n) (ha : ¬ at_ < half n) : lenF at_ n = 1 + lenF (at_ - half n) (n - half n) := by rw [lenF, dif_pos h, if_neg ha]

theorem lenF_le (m : Nat) : ∀ at_ n : Nat, n ≤ 2 ^ m → lenF at_ n ≤ m := by
  induction m with
  | zero => intro at_ n h; rw [lenF_one _ (by simp at h; omega)]; omega
  | succ m ih =>
    intro at_ n h
    by_cases h2 : 2 ≤ n
    · have h3 := half_le_pow h2 h
      have h4 := half_ge h2
      by_cases ha : at_ < half n
      · rw [lenF_lo h2 ha]; have := ih at_ (half n) h3; omega
      · rw [lenF_hi h2 ha]; have := ih (at_ - half n) (n - half n) (by omega); omega
    · rw [lenF_one _ (by omega)]; omega

def climbF (d : Dg) (at_ n : Nat) (p : List Dg) : Dg :=
  if _h : 2 ≤ n then
    if at_ < half n then T nodeT (climbF d at_ (half n) p.dropLast ++ p.getLastD [])
    else T nodeT (p.getLastD [] ++ climbF d (at_ - half n) (n - half n) p.dropLast)
  else T leafT d
termination_by n
decreasing_by
  · exact half_lt _h
  · have := half_pos n; omega
theorem climbF_one (d : Dg) (at_ : Nat) {n : Nat} (p : List Dg) (h : n < 2) : climbF T d at_ n p = T leafT d := by rw [climbF, dif_neg (by omega)]
theorem climbF_lo (d : Dg) {at_ n : Nat} (p : List Dg) (h : 2 ≤ n) (ha : at_ < half n) : climbF T d at_ n p = T nodeT (climbF T d at_ (half n) p.dropLast ++ p.getLastD []) := by rw [climbF, dif_pos h, if_pos ha]
theorem climbF_hi (d : Dg) {at_ n : Nat} (p : List Dg) (h : 2 ≤ n) (ha : ¬ at_ < half n) : climbF T d at_ n p = T nodeT (p.getLastD [] ++ climbF T d (at_ - half n) (n - half n) p.dropLast) := by rw [climbF, dif_pos h, if_neg ha]

theorem pathF_len : ∀ (n : Nat) (l : List Dg) (at_ : Nat), l.length = n → (pathF T l at_).length = lenF at_ n := by
  intro n
  induction n using Nat.strongRecOn with
  | ind n ih =>
    intro l at_ hl
    subst hl
    by_cases h2 : 2 ≤ l.length
    · have h3 := half_lt h2
      have h4 := half_pos l.length
      by_cases ha : at_ < half l.length
      · rw [pathF_lo T h2 ha, lenF_lo h2 ha, List.length_append, ih (half l.length) h3 _ _ (by simp; omega)]; simp; omega
      · rw [pathF_hi T h2 ha, lenF_hi h2 ha, List.length_append, ih (l.length - half l.length) (by omega) _ _ (by simp)]; simp; omega
    · rw [pathF_one T _ (by omega), lenF_one _ (by omega)]; rfl

theorem climb_path : ∀ (n : Nat) (l : List Dg) (at_ : Nat) (d : Dg), l.length = n → l[at_]? = some d → climbF T d at_ n (pathF T l at_) = treeF T l := by
  intro n
  induction n using Nat.strongRecOn with
  | ind n ih =>
    intro l at_ d hl hd
    subst hl
    by_cases h2 : 2 ≤ l.length
    · have h3 := half_lt h2
      have h4 := half_pos l.length
      rw [treeF_two T h2]
      by_cases ha : at_ < half l.length
      · rw [climbF_lo T d _ h2 ha, pathF_lo T h2 ha]
        rw [List.dropLast_concat, List.getLastD_concat, ih (half l.length) h3 _ _ d (by simp; omega) (by rw [List.getElem?_take, if_pos ha]; exact hd)]
      · rw [climbF_hi T d _ h2 ha, pathF_hi T h2 ha]
        rw [List.dropLast_concat, List.getLastD_concat, ih (l.length - half l.length) (by omega) _ _ d (by simp) (by rw [List.getElem?_drop]; rw [← hd]; congr 1; omega)]
    · rw [climbF_one T _ _ _ (by omega)]
      match l, h2, hd with
      | [], _, hd => simp at hd
      | [x], _, hd =>
        rw [treeF_one]
        cases at_ with
        | zero => simp at hd; rw [hd]
        | succ n => simp at hd
      | x :: y :: r, h2, _ => simp at h2

/-- the number of places at which two lists part. -/
def parts (p q : List Dg) : Nat := match p, q with
  | a :: p, b :: q => (if a = b then 0 else 1) + parts p q
  | _, _ => 0
theorem parts_self : ∀ p : List Dg, parts p p = 0
  | [] => rfl
  | a :: p => by simp [parts, parts_self p]
theorem parts_concat : ∀ (p q : List Dg) (a b : Dg), p.length = q.length → parts (p ++ [a]) (q ++ [b]) = parts p q + (if a = b then 0 else 1)
  | [], [], a, b, _ => by simp [parts]
  | x :: p, y :: q, a, b, h => by simp only [List.cons_append, parts]; rw [parts_concat p q a b (by simpa using h)]; omega
  | [], y :: q, _, _, h => by simp at h
  | x :: p, [], _, _, h => by simp at h

theorem places : ∀ (n : Nat) (l : List Dg) (i k : Nat) (d : Dg), l.length = n → i ≠ k → parts (pathF T l i) (pathF T (l.set k d) i) ≤ 1 := by
  intro n
  induction n using Nat.strongRecOn with
  | ind n ih =>
    intro l i k d hl hne
    subst hl
    by_cases h2 : 2 ≤ l.length
    · have h2' : 2 ≤ (l.set k d).length := by simpa using h2
      have hll : (l.set k d).length = l.length := by simp
      have h3 := half_lt h2
      have h4 := half_pos l.length
      have hP := pathF_len T
      by_cases ha : i < half l.length
      · rw [pathF_lo T h2 ha, pathF_lo T h2' (by rw [hll]; exact ha), hll, parts_concat _ _ _ _ (by rw [hP _ _ _ rfl, hP _ _ _ rfl]; simp)]
        by_cases hk : k < half l.length
        · have e1 : (l.set k d).drop (half l.length) = l.drop (half l.length) := by
            rw [List.drop_set_of_lt hk]
          rw [e1, if_pos rfl, List.take_set]
          have := ih (half l.length) h3 (l.take (half l.length)) i k d (by simp; omega) hne
          omega
        · have e1 : (l.set k d).take (half l.length) = l.take (half l.length) := by
            rw [List.take_set, List.set_eq_of_length_le (by simp; omega)]
          rw [e1, parts_self]
          split <;> omega
      · rw [pathF_hi T h2 ha, pathF_hi T h2' (by rw [hll]; exact ha), hll, parts_concat _ _ _ _ (by rw [hP _ _ _ rfl, hP _ _ _ rfl]; simp)]
        by_cases hk : k < half l.length
        · have e1 : (l.set k d).drop (half l.length) = l.drop (half l.length) := by
            rw [List.drop_set_of_lt hk]
          rw [e1, parts_self]
          split <;> omega
        · have e1 : (l.set k d).take (half l.length) = l.take (half l.length) := by
            rw [List.take_set, List.set_eq_of_length_le (by simp; omega)]
          have e2 : (l.set k d).drop (half l.length) = (l.drop (half l.length)).set (k - half l.length) d := by
            rw [List.drop_set, if_neg hk]
          rw [e1, e2, if_pos rfl]
          have := ih (l.length - half l.length) (by omega) (l.drop (half l.length)) (i - half l.length) (k - half l.length) d (by simp) (by omega)
          omega
    · rw [pathF_one T _ (by omega)]
      simp [parts]
end
end Go.VS
