/-
  What is proved here: the log on sectors in plain Lean: a sector, a record over sectors, reading back.
-/
import Derived.Test.YtegkmkglagmdiaaCrc
namespace Go.VS
/-- a number as four bytes. -/
def u4 (n : Nat) : List UInt8 := [UInt8.ofNat (n / 16777216), UInt8.ofNat (n / 65536), UInt8.ofNat (n / 256), UInt8.ofNat n]
/-- the number of the first four bytes. -/
def num4 (b : List UInt8) : Nat := (b.getD 0 0).toNat * 16777216 + (b.getD 1 0).toNat * 65536 + (b.getD 2 0).toNat * 256 + (b.getD 3 0).toNat
theorem num4_lt (b : List UInt8) : num4 b < 4294967296 := by
  unfold num4
  have h0 := (b.getD 0 0).toNat_lt
  have h1 := (b.getD 1 0).toNat_lt
  have h2 := (b.getD 2 0).toNat_lt
  have h3 := (b.getD 3 0).toNat_lt
  omega
theorem num4_u4 (n : Nat) (h : n < 4294967296) (r : List UInt8) : num4 (u4 n ++ r) = n := by
  simp [num4, u4]
  omega
theorem u4_len (n : Nat) : (u4 n).length = 4 := rfl
/-- what a sector holds between the checksum and the second generation. -/
def bodyS (k flags : Nat) (data : List UInt8) : List UInt8 := [UInt8.ofNat (k / 256), UInt8.ofNat k, UInt8.ofNat flags, UInt8.ofNat data.length] ++ (data ++ List.replicate (112 - data.length) 0)
/-- the bytes of a sector. -/
def encS (gen k flags : Nat) (data : List UInt8) : List UInt8 := u4 gen ++ (u4 (crcF (bodyS k flags data)) ++ (bodyS k flags data ++ u4 gen))
def lenS (b : List UInt8) : Nat := (b.getD 11 0).toNat
def flagS (b : List UInt8) : Nat := (b.getD 10 0).toNat
def dataS (b : List UInt8) : List UInt8 := (b.drop 12).take (lenS b)
def begS (b : List UInt8) : Bool := decide (flagS b % 2 = 1)
def endS (b : List UInt8) : Bool := decide (2 ≤ flagS b)
/-- is a sector good for the number k? -/
def okS (b : List UInt8) (k : Nat) : Bool :=
  decide (num4 b ≠ 0 ∧ num4 (b.drop 124) = num4 b ∧ num4 (b.drop 4) = crcF ((b.drop 8).take 116)) &&
  (decide ((b.getD 8 0).toNat * 256 + (b.getD 9 0).toNat = k ∧ flagS b ≤ 3 ∧ lenS b ≤ 112) &&
  (((b.drop (12 + lenS b)).take (112 - lenS b)).all (· == 0) &&
  decide ((2 ≤ flagS b ∨ lenS b = 112) ∧ (flagS b % 2 = 1 ∨ lenS b ≠ 0))))
/-- the records that sectors hold, from number k on, behind a record of generation last; cur: a record that is begun. -/
def scan (k last : Nat) : Option (List UInt8) → List (List UInt8) → List (List UInt8)
  | _, [] => []
  | none, s :: r =>
    if okS s k = true ∧ begS s = true ∧ last ≤ num4 s then
      if endS s then dataS s :: scan (k + 1) (num4 s) none r else scan (k + 1) (num4 s) (some (dataS s)) r
    else []
  | some b, s :: r =>
    if okS s k = true ∧ begS s = false ∧ num4 s = last then
      if endS s then (b ++ dataS s) :: scan (k + 1) last none r else scan (k + 1) last (some (b ++ dataS s)) r
    else []
theorem bodyS_len (k flags : Nat) (data : List UInt8) (h : data.length ≤ 112) : (bodyS k flags data).length = 116 := by
  simp [bodyS]; omega
theorem encS_len (gen k flags : Nat) (data : List UInt8) (h : data.length ≤ 112) : (encS gen k flags data).length = 128 := by
  have := bodyS_len k flags data h
  simp [encS, u4_len, this]
theorem encS_num (gen k flags : Nat) (data : List UInt8) (hg : gen < 4294967296) : num4 (encS gen k flags data) = gen := num4_u4 _ hg _
theorem encS_end (gen k flags : Nat) (data : List UInt8) (h : data.length ≤ 112) (hg : gen < 4294967296) : num4 ((encS gen k flags data).drop 124) = gen := by
  have hb := bodyS_len k flags data h
  have : (encS gen k flags data).drop 124 = u4 gen := by
    unfold encS
    rw [← List.append_assoc, ← List.append_assoc, List.drop_left' (by simp [u4_len, hb])]
  rw [this]
  have := num4_u4 gen hg []
  rwa [List.append_nil] at this
theorem encS_body (gen k flags : Nat) (data : List UInt8) (h : data.length ≤ 112) : ((encS gen k flags data).drop 8).take 116 = bodyS k flags data := by
  have hb := bodyS_len k flags data h
  unfold encS
  rw [← List.append_assoc, List.drop_left' (by simp [u4_len]), List.take_left' hb]
theorem encS_at (gen k flags : Nat) (data : List UInt8) (j : Nat) (hj : j < 116) (h : data.length ≤ 112) : (encS gen k flags data).getD (8 + j) 0 = (bodyS k flags data).getD j 0 := by
  have hb := bodyS_len k flags data h
  rw [← encS_body gen k flags data h, List.getD_eq_getElem?_getD, List.getD_eq_getElem?_getD, List.getElem?_take, if_pos hj, List.getElem?_drop]
theorem encS_sum (gen k flags : Nat) (data : List UInt8) : num4 ((encS gen k flags data).drop 4) = crcF (bodyS k flags data) := by
  unfold encS
  rw [List.drop_left' (u4_len _), num4_u4 _ (crcF_lt _)]
theorem encS_flag (gen k flags : Nat) (data : List UInt8) (h : data.length ≤ 112) (hf : flags ≤ 3) : flagS (encS gen k flags data) = flags := by
  unfold flagS
  rw [show 10 = 8 + 2 from rfl, encS_at gen k flags data 2 (by omega) h]
  simp [bodyS]; omega
theorem encS_lenS (gen k flags : Nat) (data : List UInt8) (h : data.length ≤ 112) : lenS (encS gen k flags data) = data.length := by
  unfold lenS
  rw [show 11 = 8 + 3 from rfl, encS_at gen k flags data 3 (by omega) h]
  simp [bodyS]; omega
theorem encS_tail (gen k flags : Nat) (data : List UInt8) : (encS gen k flags data).drop 12 = data ++ (List.replicate (112 - data.length) 0 ++ u4 gen) := by
  unfold encS bodyS
  rw [← List.append_assoc, ← List.append_assoc, ← List.append_assoc]
  rw [show u4 gen ++ u4 (crcF ([UInt8.ofNat (k / 256), UInt8.ofNat k, UInt8.ofNat flags, UInt8.ofNat data.length] ++ (data ++ List.replicate (112 - data.length) 0))) ++ [UInt8.ofNat (k / 256), UInt8.ofNat k, UInt8.ofNat flags, UInt8.ofNat data.length] ++ (data ++ List.replicate (112 - data.length) 0) ++ u4 gen = (u4 gen ++ u4 (crcF ([UInt8.ofNat (k / 256), UInt8.ofNat k, UInt8.ofNat flags, UInt8.ofNat data.length] ++ (data ++ List.replicate (112 - data.length) 0))) ++ [UInt8.ofNat (k / 256), UInt8.ofNat k, UInt8.ofNat flags, UInt8.ofNat data.length]) ++ (data ++ (List.replicate (112 - data.length) 0 ++ u4 gen)) by simp only [List.append_assoc]]
  rw [List.drop_left' (by simp [u4_len])]
theorem encS_data (gen k flags : Nat) (data : List UInt8) (h : data.length ≤ 112) : dataS (encS gen k flags data) = data := by
  unfold dataS
  rw [encS_lenS gen k flags data h, encS_tail gen k flags data, List.take_left' rfl]
theorem encS_ok (gen k flags : Nat) (data : List UInt8) (h : data.length ≤ 112) (hg0 : 0 < gen) (hg : gen < 4294967296) (hk : k < 65536) (hf : flags ≤ 3)
    (h1 : 2 ≤ flags ∨ data.length = 112) (h2 : flags % 2 = 1 ∨ data.length ≠ 0) : okS (encS gen k flags data) k = true := by
  unfold okS
  rw [encS_num gen k flags data hg, encS_end gen k flags data h hg, encS_sum, encS_body gen k flags data h, encS_flag gen k flags data h hf, encS_lenS gen k flags data h]
  have e8 : (encS gen k flags data).getD 8 0 = UInt8.ofNat (k / 256) := encS_at gen k flags data 0 (by omega) h
  have e9 : (encS gen k flags data).getD 9 0 = UInt8.ofNat k := encS_at gen k flags data 1 (by omega) h
  have e12 : ((encS gen k flags data).drop (12 + data.length)).take (112 - data.length) = List.replicate (112 - data.length) 0 := by
    rw [← List.drop_drop, encS_tail gen k flags data, List.drop_left' rfl, List.take_left' (by simp)]
  rw [e8, e9, e12]
  simp only [Bool.and_eq_true, decide_eq_true_eq]
  refine ⟨⟨by omega, trivial, trivial⟩, ⟨?_, hf, h⟩, ?_, h1, h2⟩
  · simp; omega
  · simp
/-- how many sectors a record of n bytes occupies. -/
def occ (n : Nat) : Nat := max 1 ((n + 111) / 112)
def occs (l : List (List UInt8)) : Nat := (l.map fun b => occ b.length).sum
/-- the sectors of a record, from number k on. -/
def recS (gen : Nat) (k : Nat) (first : Bool) (b : List UInt8) : List (List UInt8) :=
  if _h : b.length ≤ 112 then [encS gen k ((if first then 1 else 0) + 2) b]
  else encS gen k (if first then 1 else 0) (b.take 112) :: recS gen (k + 1) false (b.drop 112)
termination_by b.length
decreasing_by simp; omega
theorem recS_short (gen k : Nat) (first : Bool) (b : List UInt8) (h : b.length ≤ 112) : recS gen k first b = [encS gen k ((if first then 1 else 0) + 2) b] := by rw [recS, dif_pos h]
theorem recS_long (gen k : Nat) (first : Bool) (b : List UInt8) (h : ¬ b.length ≤ 112) : recS gen k first b = encS gen k (if first then 1 else 0) (b.take 112) :: recS gen (k + 1) false (b.drop 112) := by rw [recS, dif_neg h]
theorem occ_short {n : Nat} (h : n ≤ 112) : occ n = 1 := by unfold occ; omega
theorem occ_long {n : Nat} (h : ¬ n ≤ 112) : occ n = occ (n - 112) + 1 := by unfold occ; omega
theorem recS_len (gen : Nat) : ∀ (n : Nat) (k : Nat) (first : Bool) (b : List UInt8), b.length = n → (recS gen k first b).length = occ n := by
  intro n
  induction n using Nat.strongRecOn with
  | ind n ih =>
    intro k first b hb
    by_cases h : b.length ≤ 112
    · rw [recS_short gen k first b h, occ_short (by omega)]; rfl
    · rw [recS_long gen k first b h, List.length_cons, ih (n - 112) (by omega) (k + 1) false (b.drop 112) (by simp; omega), occ_long (n := n) (by omega)]
/-- a piece of a record. -/
def pieceS (b : List UInt8) (i : Nat) : List UInt8 := (b.drop (i * 112)).take 112
def flagP (many : Nat) (first : Bool) (i : Nat) : Nat := (if i = 0 ∧ first = true then 1 else 0) + (if i + 1 = many then 2 else 0)
theorem recS_range (gen : Nat) : ∀ (n : Nat) (k : Nat) (first : Bool) (b : List UInt8), b.length = n →
    recS gen k first b = (List.range (occ n)).map fun i => encS gen (k + i) (flagP (occ n) first i) (pieceS b i) := by
  intro n
  induction n using Nat.strongRecOn with
  | ind n ih =>
    intro k first b hb
    by_cases h : b.length ≤ 112
    · rw [recS_short gen k first b h, occ_short (by omega)]
      have : pieceS b 0 = b := by unfold pieceS; rw [Nat.zero_mul, List.drop_zero, List.take_of_length_le h]
      simp [List.range_succ, flagP, this]
    · rw [recS_long gen k first b h, ih (n - 112) (by omega) (k + 1) false (b.drop 112) (by simp; omega), occ_long (n := n) (by omega), List.range_succ_eq_map]
      have h1 : 0 < occ (n - 112) := by unfold occ; omega
      rw [List.map_cons, List.map_map]
      congr 1
      · have : pieceS b 0 = b.take 112 := by unfold pieceS; rw [Nat.zero_mul, List.drop_zero]
        rw [this]
        unfold flagP
        rw [if_neg (show ¬ 0 + 1 = occ (n - 112) + 1 by omega)]
        simp
      · refine List.map_congr_left fun i _ => ?_
        have : pieceS (b.drop 112) i = pieceS b (i + 1) := by unfold pieceS; rw [List.drop_drop]; congr 2; omega
        simp only [Function.comp, Nat.succ_eq_add_one, this]
        congr 1
        · omega
        · unfold flagP
          simp
theorem scan_cur (gen : Nat) (hg0 : 0 < gen) (hg : gen < 4294967296) (rest : List (List UInt8)) : ∀ (n : Nat) (k : Nat) (b cur : List UInt8), b.length = n → 0 < n → k + occ n ≤ 65536 →
    scan k gen (some cur) (recS gen k false b ++ rest) = (cur ++ b) :: scan (k + occ n) gen none rest := by
  intro n
  induction n using Nat.strongRecOn with
  | ind n ih =>
    intro k b cur hb h0 hk
    have hocc : 0 < occ n := by unfold occ; omega
    by_cases h : b.length ≤ 112
    · rw [recS_short gen k false b h, occ_short (by omega)]
      have hok := encS_ok gen k 2 b h hg0 hg (by omega) (by omega) (.inl (by omega)) (.inr (by omega))
      have hfl := encS_flag gen k 2 b h (by omega)
      simp only [Bool.false_eq_true, if_false, Nat.zero_add, List.cons_append, List.nil_append]
      rw [scan, if_pos ⟨hok, by simp [begS, hfl], encS_num gen k 2 b hg⟩, if_pos (by simp [endS, hfl]), encS_data gen k 2 b h]
    · rw [recS_long gen k false b h, List.cons_append]
      have ht : (b.take 112).length = 112 := by rw [List.length_take]; omega
      have hok := encS_ok gen k 0 (b.take 112) (by omega) hg0 hg (by omega) (by omega) (.inr ht) (.inr (by omega))
      have hfl := encS_flag gen k 0 (b.take 112) (by omega) (by omega)
      simp only [Bool.false_eq_true, if_false]
      rw [scan, if_pos ⟨hok, by simp [begS, hfl], encS_num gen k 0 _ hg⟩, if_neg (by simp [endS, hfl]), encS_data gen k 0 _ (by omega)]
      have hol := occ_long (n := n) (by omega)
      rw [ih (n - 112) (by omega) (k + 1) (b.drop 112) (cur ++ b.take 112) (by simp; omega) (by omega) (by omega), List.append_assoc, List.take_append_drop]
      congr 2
      omega
/-- a record that was written is read again. -/
theorem scan_rec (gen last : Nat) (hg0 : 0 < gen) (hg : gen < 4294967296) (hl : last ≤ gen) (rest : List (List UInt8)) (k : Nat) (b : List UInt8) (hk : k + occ b.length ≤ 65536) :
    scan k last none (recS gen k true b ++ rest) = b :: scan (k + occ b.length) gen none rest := by
  have hocc : 0 < occ b.length := by unfold occ; omega
  by_cases h : b.length ≤ 112
  · rw [recS_short gen k true b h, occ_short h]
    have hok := encS_ok gen k 3 b h hg0 hg (by omega) (by omega) (.inl (by omega)) (.inl (by omega))
    have hfl := encS_flag gen k 3 b h (by omega)
    simp only [if_true, List.cons_append, List.nil_append]
    rw [scan, if_pos ⟨hok, by simp [begS, hfl], by rw [encS_num gen k 3 b hg]; exact hl⟩, if_pos (by simp [endS, hfl]), encS_data gen k 3 b h, encS_num gen k 3 b hg]
  · rw [recS_long gen k true b h, List.cons_append]
    have ht : (b.take 112).length = 112 := by rw [List.length_take]; omega
    have hok := encS_ok gen k 1 (b.take 112) (by omega) hg0 hg (by omega) (by omega) (.inr ht) (.inr (by omega))
    have hfl := encS_flag gen k 1 (b.take 112) (by omega) (by omega)
    simp only [if_true]
    rw [scan, if_pos ⟨hok, by simp [begS, hfl], by rw [encS_num gen k 1 _ hg]; exact hl⟩, if_neg (by simp [endS, hfl]), encS_data gen k 1 _ (by omega), encS_num gen k 1 _ hg]
    have hol := occ_long (n := b.length) (by omega)
    rw [scan_cur gen hg0 hg rest (b.length - 112) (k + 1) (b.drop 112) (b.take 112) (by simp) (by omega) (by omega), List.take_append_drop]
    congr 2
    omega
/-- the sectors of records that are written with one generation. -/
def recsS (gen : Nat) : Nat → List (List UInt8) → List (List UInt8)
  | _, [] => []
  | k, b :: r => recS gen k true b ++ recsS gen (k + occ b.length) r
theorem occs_cons (b : List UInt8) (r : List (List UInt8)) : occs (b :: r) = occ b.length + occs r := by simp [occs]
theorem occs_append (a b : List (List UInt8)) : occs (a ++ b) = occs a + occs b := by simp [occs]
theorem recsS_len (gen : Nat) : ∀ (l : List (List UInt8)) (k : Nat), (recsS gen k l).length = occs l
  | [], _ => rfl
  | b :: r, k => by rw [recsS, List.length_append, recS_len gen _ k true b rfl, recsS_len gen r, occs_cons]
theorem recsS_append (gen : Nat) : ∀ (a b : List (List UInt8)) (k : Nat), recsS gen k (a ++ b) = recsS gen k a ++ recsS gen (k + occs a) b
  | [], b, k => by simp [recsS, occs]
  | x :: a, b, k => by
    rw [List.cons_append, recsS, recsS, recsS_append gen a b, occs_cons, List.append_assoc]
    congr 3
    omega
theorem scan_recs (gen : Nat) (hg0 : 0 < gen) (hg : gen < 4294967296) (rest : List (List UInt8)) : ∀ (l : List (List UInt8)) (k last : Nat), last ≤ gen → k + occs l ≤ 65536 →
    scan k last none (recsS gen k l ++ rest) = l ++ scan (k + occs l) (if l = [] then last else gen) none rest
  | [], k, last, _, _ => by simp [recsS, occs]
  | b :: r, k, last, hl, hk => by
    have hoc := occs_cons b r
    rw [recsS, List.append_assoc, scan_rec gen last hg0 hg hl _ k b (by omega), scan_recs gen hg0 hg rest r _ gen (Nat.le_refl _) (by omega), ite_self, hoc, if_neg (List.cons_ne_nil b r), List.cons_append, Nat.add_assoc]
end Go.VS
