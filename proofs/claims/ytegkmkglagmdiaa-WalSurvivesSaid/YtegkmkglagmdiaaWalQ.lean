/-
  What is proved here: the log on sectors in plain Lean: stops in the midst of writing.
-/
import Derived.Test.YtegkmkglagmdiaaWalP
namespace Go.VS
/-- sectors of earlier generations end the log. -/
theorem scan_old (G N : Nat) (hG : G < N) (X : List (List UInt8)) (h : ∀ s ∈ X, num4 s ≤ G) (k : Nat) : scan k N none X = [] ∧ ∀ cur, scan k N (some cur) X = [] := by
  cases X with
  | nil => exact ⟨by simp [scan], fun cur => by simp [scan]⟩
  | cons s r =>
    have hs := h s (by simp)
    refine ⟨?_, fun cur => ?_⟩
    · rw [scan, if_neg (by rintro ⟨_, _, h⟩; omega)]
    · rw [scan, if_neg (by rintro ⟨_, _, h⟩; omega)]
theorem scan_bad (last : Nat) (s : List UInt8) (X : List (List UInt8)) (k : Nat) (h : okS s k = false) : scan k last none (s :: X) = [] ∧ ∀ cur, scan k last (some cur) (s :: X) = [] := by
  refine ⟨?_, fun cur => ?_⟩
  · rw [scan, if_neg (by rw [h]; rintro ⟨h, _⟩; cases h)]
  · rw [scan, if_neg (by rw [h]; rintro ⟨h, _⟩; cases h)]
section
variable (N : Nat) (hN0 : 0 < N) (hN : N < 4294967296) (Z : List (List UInt8)) (hZ1 : ∀ k cur, scan k N (some cur) Z = [])
include hN0 hN hZ1
theorem part_cur : ∀ (n : Nat) (k : Nat) (b cur : List UInt8) (j : Nat), b.length = n → j < occ n → k + occ n ≤ 65536 → scan k N (some cur) ((recS N k false b).take j ++ Z) = [] := by
  intro n
  induction n using Nat.strongRecOn with
  | ind n ih =>
    intro k b cur j hb hj hk
    cases j with
    | zero => rw [List.take_zero, List.nil_append, hZ1]
    | succ j =>
      by_cases h : b.length ≤ 112
      · rw [occ_short (by omega)] at hj; omega
      · have hol := occ_long (n := n) (by omega)
        have ht : (b.take 112).length = 112 := by rw [List.length_take]; omega
        have hok := encS_ok N k 0 (b.take 112) (by omega) hN0 hN (by omega) (by omega) (.inr ht) (.inr (by omega))
        have hfl := encS_flag N k 0 (b.take 112) (by omega) (by omega)
        rw [recS_long N k false b h, List.take_succ_cons, List.cons_append]
        simp only [Bool.false_eq_true, if_false]
        rw [scan, if_pos ⟨hok, by simp [begS, hfl], encS_num N k 0 _ hN⟩, if_neg (by simp [endS, hfl])]
        exact ih (n - 112) (by omega) (k + 1) (b.drop 112) _ j (by simp; omega) (by omega) (by omega)
theorem part_first (k last : Nat) (hl : last ≤ N) (b : List UInt8) (j : Nat) (h0 : 0 < j) (hj : j < occ b.length) (hk : k + occ b.length ≤ 65536) : scan k last none ((recS N k true b).take j ++ Z) = [] := by
  cases j with
  | zero => omega
  | succ j =>
    by_cases h : b.length ≤ 112
    · rw [occ_short (by omega)] at hj; omega
    · have hol := occ_long (n := b.length) (by omega)
      have ht : (b.take 112).length = 112 := by rw [List.length_take]; omega
      have hok := encS_ok N k 1 (b.take 112) (by omega) hN0 hN (by omega) (by omega) (.inr ht) (.inl (by omega))
      have hfl := encS_flag N k 1 (b.take 112) (by omega) (by omega)
      rw [recS_long N k true b h, List.take_succ_cons, List.cons_append]
      simp only [if_true]
      rw [scan, if_pos ⟨hok, by simp [begS, hfl], by rw [encS_num N k 1 _ hN]; exact hl⟩, if_neg (by simp [endS, hfl]), encS_num N k 1 _ hN]
      exact part_cur N hN0 hN Z hZ1 (b.length - 112) (k + 1) (b.drop 112) _ j (by simp) (by omega) (by omega)
theorem part_recs (hZ2 : ∀ k, scan k N none Z = []) : ∀ (R : List (List UInt8)) (k last j : Nat), last ≤ N → j ≤ occs R → k + occs R ≤ 65536 → (j = 0 → scan k last none Z = []) →
    ∃ i Q, (i ≤ R.length ∧ occs (R.take i) ≤ j ∧ (i < R.length → j < occs (R.take (i + 1)))) ∧ (recsS N k R).take j = recsS N k (R.take i) ++ Q ∧ scan (k + occs (R.take i)) (if R.take i = [] then last else N) none (Q ++ Z) = []
  | [], k, last, j, _, hj, _, h0 => by
    have : j = 0 := by simp [occs] at hj; exact hj
    exact ⟨0, [], ⟨Nat.le_refl _, by simp [occs], fun h => by simp at h⟩, by simp [recsS], by simpa [occs] using h0 this⟩
  | b :: r, k, last, j, hl, hj, hk, h0 => by
    rw [occs_cons] at hj hk
    have hlen := recS_len N _ k true b rfl
    by_cases hjb : j < occ b.length
    · refine ⟨0, (recS N k true b).take j, ⟨Nat.zero_le _, by simp [occs], fun _ => by simpa [occs] using hjb⟩, ?_, ?_⟩
      · rw [recsS, List.take_append_of_le_length (by omega)]; simp [recsS]
      · rw [List.take_zero, if_pos rfl]
        simp only [occs, List.map_nil, List.sum_nil, Nat.add_zero]
        rcases Nat.eq_zero_or_pos j with hj0 | hj0
        · subst hj0; rw [List.take_zero, List.nil_append]; exact h0 rfl
        · exact part_first N hN0 hN Z hZ1 k last hl b j hj0 hjb (by omega)
    · obtain ⟨i, Q, ⟨hi, hi1, hi2⟩, h1, h2⟩ := part_recs hZ2 r (k + occ b.length) N (j - occ b.length) (Nat.le_refl _) (by omega) (by omega) (fun _ => hZ2 _)
      refine ⟨i + 1, Q, ⟨by simp; omega, by rw [List.take_succ_cons, occs_cons]; omega, fun h => by
        rw [List.take_succ_cons, occs_cons]
        have := hi2 (by simpa using h)
        omega⟩, ?_, ?_⟩
      · rw [recsS, List.take_append, hlen, h1, List.take_of_length_le (by omega), List.take_succ_cons, recsS, List.append_assoc]
      · rw [List.take_succ_cons, occs_cons, if_neg (List.cons_ne_nil _ _)]
        rw [ite_self] at h2
        rw [← Nat.add_assoc]; exact h2
end
/-- what is known of a log's sectors: they hold these records, and no generation is above G. -/
structure LogI (S : List (List UInt8)) (kept : List (List UInt8)) (G : Nat) : Prop where
  sec : ∀ s ∈ S, s.length = 128 ∧ num4 s ≤ G ∧ num4 (s.drop 124) ≤ G
  parts : ∃ P X last, S = P ++ X ∧ P.length = occs kept ∧ last ≤ G ∧ (∀ Y, scan 0 0 none (P ++ Y) = kept ++ scan (occs kept) last none Y) ∧ scan (occs kept) last none X = []
theorem LogI.records {S kept : List (List UInt8)} {G : Nat} (h : LogI S kept G) : scan 0 0 none S = kept := by
  obtain ⟨P, X, last, rfl, _, _, h1, h2⟩ := h.parts
  rw [h1, h2, List.append_nil]
theorem LogI.fits {S kept : List (List UInt8)} {G : Nat} (h : LogI S kept G) : occs kept ≤ S.length := by
  obtain ⟨P, X, last, rfl, h1, _⟩ := h.parts
  rw [List.length_append]; omega
theorem logI_new (n : Nat) : LogI (List.replicate n (List.replicate 128 0)) [] 0 := by
  refine ⟨fun s hs => ?_, [], List.replicate n (List.replicate 128 0), 0, rfl, rfl, Nat.le_refl _, fun Y => rfl, ?_⟩
  · rw [List.eq_of_mem_replicate hs]; decide +kernel
  · cases n with
    | zero => simp [scan]
    | succ n => rw [List.replicate_succ]; exact (scan_bad 0 _ _ _ (by simp [okS, num4])).1
theorem recS_sec (N : Nat) (hN : N < 4294967296) : ∀ (n : Nat) (k : Nat) (first : Bool) (b : List UInt8), b.length = n → ∀ s ∈ recS N k first b, s.length = 128 ∧ num4 s ≤ N ∧ num4 (s.drop 124) ≤ N := by
  intro n
  induction n using Nat.strongRecOn with
  | ind n ih =>
    intro k first b hb s hs
    by_cases h : b.length ≤ 112
    · rw [recS_short N k first b h, List.mem_singleton] at hs
      subst hs
      exact ⟨encS_len _ _ _ _ h, by rw [encS_num _ _ _ _ hN]; exact Nat.le_refl _, by rw [encS_end _ _ _ _ h hN]; exact Nat.le_refl _⟩
    · have ht : (b.take 112).length = 112 := by rw [List.length_take]; omega
      rw [recS_long N k first b h, List.mem_cons] at hs
      rcases hs with rfl | hs
      · exact ⟨encS_len _ _ _ _ (by omega), by rw [encS_num _ _ _ _ hN]; exact Nat.le_refl _, by rw [encS_end _ _ _ _ (by omega) hN]; exact Nat.le_refl _⟩
      · exact ih (n - 112) (by omega) (k + 1) false (b.drop 112) (by simp; omega) s hs
theorem recsS_sec (N : Nat) (hN : N < 4294967296) : ∀ (R : List (List UInt8)) (k : Nat), ∀ s ∈ recsS N k R, s.length = 128 ∧ num4 s ≤ N ∧ num4 (s.drop 124) ≤ N
  | [], _, s, hs => by simp [recsS] at hs
  | b :: r, k, s, hs => by
    rw [recsS, List.mem_append] at hs
    rcases hs with hs | hs
    · exact recS_sec N hN _ k true b rfl s hs
    · exact recsS_sec N hN r _ s hs
/-- the sectors behind a log's used ones are written, from the first on: j of those of the records R; then comes Z. -/
theorem LogI.crash {S kept : List (List UInt8)} {G : Nat} (h : LogI S kept G) (N : Nat) (hN : N = G + 1) (hN2 : N < 4294967296) (R : List (List UInt8)) (j : Nat) (hj : j ≤ occs R) (hS : occs kept + occs R ≤ 65536) (Z : List (List UInt8))
    (hZ : ∀ s ∈ Z, s.length = 128 ∧ num4 s ≤ N ∧ num4 (s.drop 124) ≤ N) (hZ1 : ∀ k, scan k N none Z = [] ∧ ∀ cur, scan k N (some cur) Z = []) (hZ0 : j = 0 → (Z = S.drop (occs kept) ∨ ∀ last, scan (occs kept) last none Z = [])) :
    ∃ i, i ≤ R.length ∧ LogI (S.take (occs kept) ++ ((recsS N (occs kept) R).take j ++ Z)) (kept ++ R.take i) N := by
  obtain ⟨hsec, P, X, last, rfl, hP, hl, h1, h2⟩ := h
  have hX : (P ++ X).drop (occs kept) = X := List.drop_left' hP
  have hPt : (P ++ X).take (occs kept) = P := List.take_left' hP
  rw [hX] at hZ0
  rw [hPt]
  obtain ⟨i, Q, ⟨hi, _, _⟩, e1, e2⟩ := part_recs N (by omega) hN2 Z (fun k => (hZ1 k).2) (fun k => (hZ1 k).1) R (occs kept) last j (by omega) hj hS (fun hj0 => by
    rcases hZ0 hj0 with hz | hz
    · rw [hz]; exact h2
    · exact hz last)
  have hocl : occs (R.take i) ≤ occs R := by
    have : occs R = occs (R.take i) + occs (R.drop i) := by rw [← occs_append, List.take_append_drop]
    omega
  refine ⟨i, hi, ⟨fun s hs => ?_, P ++ recsS N (occs kept) (R.take i), Q ++ Z, if R.take i = [] then last else N, ?_, ?_, ?_, fun Y => ?_, ?_⟩⟩
  · rw [List.mem_append, List.mem_append] at hs
    rcases hs with hs | hs | hs
    · have := hsec s (List.mem_append_left _ hs); omega
    · exact recsS_sec N hN2 R _ s (List.mem_of_mem_take hs)
    · exact hZ s hs
  · rw [e1, List.append_assoc, List.append_assoc]
  · rw [List.length_append, hP, recsS_len, occs_append]
  · split <;> omega
  · rw [List.append_assoc, h1, scan_recs N (by omega) hN2 Y _ _ _ (by omega) (by omega), occs_append, List.append_assoc]
  · rw [occs_append]; exact e2
/-- all records are written. -/
theorem LogI.full {S kept : List (List UInt8)} {G : Nat} (h : LogI S kept G) (N : Nat) (hN : N = G + 1) (hN2 : N < 4294967296) (R : List (List UInt8)) (hS : occs kept + occs R ≤ 65536) :
    LogI (S.take (occs kept) ++ (recsS N (occs kept) R ++ S.drop (occs kept + occs R))) (kept ++ R) N := by
  obtain ⟨hsec, P, X, last, rfl, hP, hl, h1, h2⟩ := h
  have hX : (P ++ X).drop (occs kept) = X := List.drop_left' hP
  have hPt : (P ++ X).take (occs kept) = P := List.take_left' hP
  rw [hPt, ← List.drop_drop, hX]
  have hXold := scan_old G N (by omega) (X.drop (occs R)) (fun s hs => (hsec s (List.mem_append_right _ (List.mem_of_mem_drop hs))).2.1)
  refine ⟨fun s hs => ?_, P ++ recsS N (occs kept) R, X.drop (occs R), if R = [] then last else N, ?_, ?_, ?_, fun Y => ?_, ?_⟩
  · rw [List.mem_append, List.mem_append] at hs
    rcases hs with hs | hs | hs
    · have := hsec s (List.mem_append_left _ hs); omega
    · exact recsS_sec N hN2 R _ s hs
    · have := hsec s (List.mem_append_right _ (List.mem_of_mem_drop hs)); omega
  · rw [List.append_assoc]
  · rw [List.length_append, hP, recsS_len, occs_append]
  · split <;> omega
  · rw [List.append_assoc, h1, scan_recs N (by omega) hN2 Y _ _ _ (by omega) (by omega), occs_append, List.append_assoc]
  · split
    · rename_i hR; subst hR; simpa [occs] using h2
    · rw [occs_append]; exact (hXold _).1
/-- a sector of which the first t bytes are written. -/
def tornS (t : Nat) (new old : List UInt8) : List UInt8 := new.take t ++ old.drop t
theorem num4_lo {b : List UInt8} (h : num4 b < 256) : b.getD 0 0 = 0 ∧ b.getD 1 0 = 0 ∧ b.getD 2 0 = 0 := by
  unfold num4 at h
  refine ⟨?_, ?_, ?_⟩ <;> (apply UInt8.toNat_inj.1; simp only [UInt8.toNat_zero]; omega)
theorem num4_cons (a b c d : UInt8) (r : List UInt8) : num4 (a :: b :: c :: d :: r) = a.toNat * 16777216 + b.toNat * 65536 + c.toNat * 256 + d.toNat := rfl
theorem list4 (b : List UInt8) (h : 4 ≤ b.length) : ∃ x y z u r, b = x :: y :: z :: u :: r := by
  match b, h with
  | x :: y :: z :: u :: r, _ => exact ⟨x, y, z, u, r, rfl⟩
theorem torn_lo (t : Nat) (ht : t ≤ 3) (new old : List UInt8) (hn : 4 ≤ new.length) (ho : 4 ≤ old.length) (h1 : num4 new < 256) (h2 : num4 old < 256) : tornS t new old = old := by
  obtain ⟨a, b, c, d, r, rfl⟩ := list4 new hn
  obtain ⟨a', b', c', d', r', rfl⟩ := list4 old ho
  have e1 := num4_lo h1
  have e2 := num4_lo h2
  simp at e1 e2
  obtain ⟨rfl, rfl, rfl⟩ := e1
  obtain ⟨rfl, rfl, rfl⟩ := e2
  match t, ht with
  | 0, _ => rfl
  | 1, _ => rfl
  | 2, _ => rfl
  | 3, _ => rfl
theorem torn_len (t : Nat) (new old : List UInt8) (hn : new.length = 128) (ho : old.length = 128) : (tornS t new old).length = 128 := by
  simp [tornS]; omega
theorem torn_drop (t : Nat) (new old : List UInt8) (hn : new.length = 128) : (tornS t new old).drop 124 = tornS (t - 124) (new.drop 124) (old.drop 124) := by
  unfold tornS
  have e : t + (124 - (new.take t).length) = 124 + (t - 124) := by rw [List.length_take, hn]; omega
  rw [List.drop_append, List.drop_take, List.drop_drop, List.drop_drop, e]
/-- a sector that is written in part is as it was, is as it should be, or is not good. -/
theorem torn_ways (G N : Nat) (hN : N = G + 1) (hG : N < 256) (t : Nat) (k flags : Nat) (data : List UInt8) (hd : data.length ≤ 112) (old : List UInt8) (ho : old.length = 128) (h1 : num4 old ≤ G) (h2 : num4 (old.drop 124) ≤ G) :
    tornS t (encS N k flags data) old = old ∨ tornS t (encS N k flags data) old = encS N k flags data ∨
      ((∀ k', okS (tornS t (encS N k flags data) old) k' = false) ∧ (tornS t (encS N k flags data) old).length = 128 ∧ num4 (tornS t (encS N k flags data) old) ≤ N ∧ num4 ((tornS t (encS N k flags data) old).drop 124) ≤ N) := by
  have hl := encS_len N k flags data hd
  have hg := encS_num N k flags data (by omega)
  have he := encS_end N k flags data hd (by omega)
  by_cases t3 : t ≤ 3
  · exact .inl (torn_lo t t3 _ _ (by omega) (by omega) (by omega) (by omega))
  · by_cases t128 : 128 ≤ t
    · refine .inr (.inl ?_)
      unfold tornS
      rw [List.take_of_length_le (by omega), List.drop_of_length_le (by omega), List.append_nil]
    · refine .inr (.inr ?_)
      have e1 : num4 (tornS t (encS N k flags data) old) = N := by
        refine Eq.trans ?_ hg
        unfold tornS
        obtain ⟨a, b, c, d, r, e⟩ := list4 (encS N k flags data) (by omega)
        obtain ⟨t', e'⟩ : ∃ t', t = t' + 1 + 1 + 1 + 1 := ⟨t - 4, by omega⟩
        rw [e, e']
        simp only [List.take_succ_cons, List.cons_append, num4_cons]
      have e2 : num4 ((tornS t (encS N k flags data) old).drop 124) ≤ G := by
        rw [torn_drop t _ _ hl, torn_lo (t - 124) (by omega) _ _ (by simp [hl]) (by simp [ho]) (by omega) (by omega)]
        exact h2
      refine ⟨fun k' => ?_, torn_len t _ _ hl ho, by omega, by omega⟩
      unfold okS
      rw [decide_eq_false (by rintro ⟨_, h, _⟩; omega), Bool.false_and]
theorem recS_enc (N : Nat) : ∀ (n : Nat) (k : Nat) (first : Bool) (b : List UInt8), b.length = n → ∀ s ∈ recS N k first b, ∃ k' flags data, data.length ≤ 112 ∧ s = encS N k' flags data := by
  intro n
  induction n using Nat.strongRecOn with
  | ind n ih =>
    intro k first b hb s hs
    by_cases h : b.length ≤ 112
    · rw [recS_short N k first b h, List.mem_singleton] at hs
      exact ⟨_, _, _, h, hs⟩
    · have ht : (b.take 112).length = 112 := by rw [List.length_take]; omega
      rw [recS_long N k first b h, List.mem_cons] at hs
      rcases hs with rfl | hs
      · exact ⟨_, _, _, by omega, rfl⟩
      · exact ih (n - 112) (by omega) (k + 1) false (b.drop 112) (by simp; omega) s hs
theorem recsS_enc (N : Nat) : ∀ (R : List (List UInt8)) (k : Nat), ∀ s ∈ recsS N k R, ∃ k' flags data, data.length ≤ 112 ∧ s = encS N k' flags data
  | [], _, s, hs => by simp [recsS] at hs
  | b :: r, k, s, hs => by
    rw [recsS, List.mem_append] at hs
    rcases hs with hs | hs
    · exact recS_enc N _ k true b rfl s hs
    · exact recsS_enc N r _ s hs
/-- a stop in the midst of writing: a beginning of the new records is there. -/
theorem LogI.torn {S kept : List (List UInt8)} {G : Nat} (h : LogI S kept G) (N : Nat) (hN : N = G + 1) (hN2 : N < 256) (R : List (List UInt8)) (j t : Nat) (hj : j < occs R) (hS : occs kept + occs R ≤ S.length) (hS2 : S.length ≤ 65536) :
    ∃ i, i ≤ R.length ∧ LogI (S.take (occs kept) ++ ((recsS N (occs kept) R).take j ++ (tornS t ((recsS N (occs kept) R).getD j []) (S.getD (occs kept + j) []) :: S.drop (occs kept + j + 1)))) (kept ++ R.take i) N := by
  have hlen := recsS_len N R (occs kept)
  have hj' : j < (recsS N (occs kept) R).length := by omega
  have hjS : occs kept + j < S.length := by omega
  have hgd : (recsS N (occs kept) R).getD j [] = (recsS N (occs kept) R)[j] := by simp [hj']
  have hgs : S.getD (occs kept + j) [] = S[occs kept + j] := by simp [hjS]
  have hold := h.sec _ (List.getElem_mem hjS)
  have holds := h.sec
  obtain ⟨k', flags, data, hd, he⟩ := recsS_enc N R (occs kept) _ (List.getElem_mem hj')
  rw [hgd, hgs]
  have hclean : ∀ j', j' ≤ occs R → ∃ i, i ≤ R.length ∧ LogI (S.take (occs kept) ++ ((recsS N (occs kept) R).take j' ++ S.drop (occs kept + j'))) (kept ++ R.take i) N := fun j' hj' =>
    h.crash N hN (by omega) R j' hj' (by omega) _ (fun s hs => by have := holds s (List.mem_of_mem_drop hs); omega) (fun k => scan_old G N (by omega) _ (fun s hs => (holds s (List.mem_of_mem_drop hs)).2.1) k) (fun h0 => .inl (by rw [h0, Nat.add_zero]))
  rcases torn_ways G N hN hN2 t k' flags data hd S[occs kept + j] hold.1 hold.2.1 hold.2.2 with e | e | ⟨hbad, hl, h1, h2⟩
  · rw [he, e, ← List.drop_eq_getElem_cons hjS]
    exact hclean j (by omega)
  · rw [he, e, ← he]
    have := hclean (j + 1) (by omega)
    rw [List.take_succ_eq_append_getElem hj', List.append_assoc] at this
    exact this
  · rw [he]
    exact h.crash N hN (by omega) R j (by omega) (by omega) _ (fun s hs => by
      rw [List.mem_cons] at hs
      rcases hs with rfl | hs
      · exact ⟨hl, h1, h2⟩
      · have := holds s (List.mem_of_mem_drop hs); omega) (fun k => scan_bad N _ _ k (hbad k)) (fun _ => .inr fun last => (scan_bad last _ _ _ (hbad _)).1)
end Go.VS
