/-
  What is proved here: in plain Lean: what a log on sectors holds after each sync, with and without a stop
-/
import Derived.Test.YtegkmkglagmdiaaWalZ
namespace Go.Proofs.Ytegkmkglagmdiaa
open Go.RowKit Go.VS
theorem gmax_fold (xs : List (List UInt8)) : ∀ (g : Nat), g ≤ xs.foldl (fun g s => max (max g (num4 s)) (num4 (s.drop 124))) g ∧ (∀ s ∈ xs, num4 s ≤ xs.foldl (fun g s => max (max g (num4 s)) (num4 (s.drop 124))) g ∧ num4 (s.drop 124) ≤ xs.foldl (fun g s => max (max g (num4 s)) (num4 (s.drop 124))) g) ∧
    (∀ N, g ≤ N → (∀ s ∈ xs, num4 s ≤ N ∧ num4 (s.drop 124) ≤ N) → xs.foldl (fun g s => max (max g (num4 s)) (num4 (s.drop 124))) g ≤ N) := by
  induction xs with
  | nil => intro g; exact ⟨Nat.le_refl _, by simp, fun N h _ => h⟩
  | cons x r ih =>
    intro g
    rw [List.foldl_cons]
    obtain ⟨h1, h2, h3⟩ := ih (max (max g (num4 x)) (num4 (x.drop 124)))
    refine ⟨by omega, fun s hs => ?_, fun N hg h => h3 N ?_ fun s hs => h s (by simp [hs])⟩
    · rcases List.mem_cons.1 hs with rfl | hs
      · exact ⟨by omega, by omega⟩
      · exact h2 s hs
    · have := h x (by simp); omega
theorem gmax_ge {xs : List (List UInt8)} {s : List UInt8} (h : s ∈ xs) : num4 s ≤ gmax xs ∧ num4 (s.drop 124) ≤ gmax xs := (gmax_fold xs 0).2.1 s h
theorem gmax_le {xs : List (List UInt8)} {N : Nat} (h : ∀ s ∈ xs, num4 s ≤ N ∧ num4 (s.drop 124) ≤ N) : gmax xs ≤ N := (gmax_fold xs 0).2.2 N (by omega) h
theorem gmax_eq {xs : List (List UInt8)} {N : Nat} (h : ∀ s ∈ xs, num4 s ≤ N ∧ num4 (s.drop 124) ≤ N) {s : List UInt8} (hs : s ∈ xs) (hn : num4 s = N) : gmax xs = N := by
  have h1 := gmax_le h
  have h2 := (gmax_ge hs).1
  omega
/-- what stays true from sync to sync. -/
structure PInv (S kept : List (List UInt8)) (M i : Nat) : Prop where
  ok : chk ⟨zeros128 :: S, -1, 0, false⟩ = 0
  len : S.length + 1 = M
  log : LogI S kept (gmax S)
  gen : gmax S ≤ i
theorem recS_num (N : Nat) (hN : N < 4294967296) : ∀ (n k : Nat) (first : Bool) (b : List UInt8), b.length = n → ∀ s ∈ recS N k first b, num4 s = N := by
  intro n
  induction n using Nat.strongRecOn with
  | ind n ih =>
    intro k first b hb s hs
    by_cases h : b.length ≤ 112
    · rw [recS_short N k first b h, List.mem_singleton] at hs
      rw [hs]; exact encS_num _ _ _ _ hN
    · rw [recS_long N k first b h, List.mem_cons] at hs
      rcases hs with rfl | hs
      · exact encS_num _ _ _ _ hN
      · exact ih (n - 112) (by omega) _ _ (b.drop 112) (by simp; omega) s hs
theorem recsS_num (N : Nat) (hN : N < 4294967296) : ∀ (R : List (List UInt8)) (k : Nat), ∀ s ∈ recsS N k R, num4 s = N
  | [], _, s, hs => by simp [recsS] at hs
  | b :: r, k, s, hs => by
    rw [recsS, List.mem_append] at hs
    rcases hs with hs | hs
    · exact recS_num N hN _ k true b rfl s hs
    · exact recsS_num N hN r _ s hs
theorem chk_left {S : List (List UInt8)} {l t l' t' : Int} {s s' : Bool} (h : chk ⟨S, l, t, s⟩ = 0) (h1 : -1 ≤ l') (h2 : 0 ≤ t') (h3 : t' ≤ 128) (h4 : s' = true → l' = 0) : chk ⟨S, l', t', s'⟩ = 0 := by
  obtain ⟨a, b, c, _, _, _, _⟩ := chk_len h
  exact chk_mk a b c h1 h2 h3 h4
theorem torn_num (t : Nat) (new old : List UInt8) (hn : 4 ≤ new.length) (h : 3 < t) : num4 (tornS t new old) = num4 new := by
  obtain ⟨a, b, c, d, r, e⟩ := list4 new hn
  obtain ⟨t', rfl⟩ : ∃ t', t = t' + 4 := ⟨t - 4, by omega⟩
  unfold tornS
  rw [e]
  simp only [List.take_succ_cons, List.cons_append, num4_cons]
theorem pinv_chk {S S' : List (List UInt8)} {M i : Nat} {kept : List (List UInt8)} (h : PInv S kept M i) (hl : S'.length = S.length) (hs : ∀ s ∈ S', s.length = 128) : chk ⟨zeros128 :: S', -1, 0, false⟩ = 0 := by
  obtain ⟨a, b, c, _, _, _, _⟩ := chk_len h.ok
  refine chk_mk ?_ ?_ ?_ (by omega) (by omega) (by omega) (by simp)
  · rw [List.length_cons] at a ⊢; omega
  · rw [List.length_cons] at b ⊢; omega
  · intro x hx
    rcases List.mem_cons.1 hx with rfl | hx
    · simp [zeros128]
    · exact hs x hx
/-- one sync, with or without a stop. -/
theorem pinv_sync {S kept L : List (List UInt8)} {M i : Nat} (h : PInv S kept M i) (hi : i < 8) (hkL : L.take kept.length = kept) (hoc : occs L + 1 ≤ M) (hM : M ≤ 31) (l t : Int) (hlt : (l = -1 ∧ t = 0) ∨ (0 ≤ l ∧ 0 ≤ t ∧ t ≤ 128)) :
    ∃ S', (syncW ⟨zeros128 :: S, l, t, false⟩ (1 + occs kept) (recsS (gmax S + 1) (occs kept) (L.drop kept.length))).1.secs = zeros128 :: S' ∧
      (((syncW ⟨zeros128 :: S, l, t, false⟩ (1 + occs kept) (recsS (gmax S + 1) (occs kept) (L.drop kept.length))).2 = 0 ∧ PInv S' L M (i + 1)) ∨
       ((syncW ⟨zeros128 :: S, l, t, false⟩ (1 + occs kept) (recsS (gmax S + 1) (occs kept) (L.drop kept.length))).2 = 410 ∧ 0 ≤ l ∧ 0 < L.length ∧ ∃ K, PInv S' K M (i + 1) ∧ kept.length ≤ K.length ∧ K.length ≤ L.length ∧ L.take K.length = K)) := by
  obtain ⟨R, hR⟩ : ∃ R, R = L.drop kept.length := ⟨_, rfl⟩
  have hL : L = kept ++ R := by rw [hR, ← hkL, List.length_take, Nat.min_eq_left (by have := congrArg List.length hkL; rw [List.length_take] at this; omega), List.take_append_drop]
  rw [← hR]
  have hoL : occs L = occs kept + occs R := by rw [hL, occs_append]
  obtain ⟨N, hN⟩ : ∃ N, N = gmax S + 1 := ⟨_, rfl⟩
  have hg := h.gen
  have hlen := h.len
  have hN2 : N < 256 := by omega
  rw [← hN]
  have hc : chk ⟨zeros128 :: S, l, t, false⟩ = 0 := by
    rcases hlt with ⟨h1, h2⟩ | ⟨h1, h2, h3⟩
    · rw [h1, h2]; exact h.ok
    · exact chk_left h.ok (by omega) h2 h3 (by simp)
  have hrl := recsS_len N R (occs kept)
  have h128 : ∀ y ∈ recsS N (occs kept) R, y.length = 128 := fun y hy => (recsS_sec N (by omega) R _ y hy).1
  have hfit : 1 + occs kept + (recsS N (occs kept) R).length ≤ (zeros128 :: S).length := by rw [hrl, List.length_cons]; omega
  by_cases hfull : l = -1 ∨ ((recsS N (occs kept) R).length : Int) ≤ l
  · rw [syncW_full t _ _ l _ hc h128 hfit hfull]
    refine ⟨S.take (occs kept) ++ (recsS N (occs kept) R ++ S.drop (occs kept + occs R)), ?_, .inl ⟨rfl, ?_⟩⟩
    · have e1 : 1 + occs kept = occs kept + 1 := by omega
      have e2 : occs kept + 1 + (recsS N (occs kept) R).length = (occs kept + occs R) + 1 := by rw [hrl]; omega
      dsimp only
      rw [e1, e2, List.take_succ_cons, List.drop_succ_cons, List.cons_append]
    · have hf := h.log.full N hN (by omega) R (by omega)
      rw [← hL] at hf
      have hl' : (S.take (occs kept) ++ (recsS N (occs kept) R ++ S.drop (occs kept + occs R))).length = S.length := by
        simp only [List.length_append, List.length_take, List.length_drop, hrl]; omega
      have hgen : gmax (S.take (occs kept) ++ (recsS N (occs kept) R ++ S.drop (occs kept + occs R))) ≤ N := gmax_le fun s hs => (hf.sec s hs).2
      refine ⟨pinv_chk h hl' fun s hs => (hf.sec s hs).1, by omega, ?_, by omega⟩
      by_cases hR0 : R = []
      · have e : S.take (occs kept) ++ (recsS N (occs kept) R ++ S.drop (occs kept + occs R)) = S := by
          rw [hR0]; simp [recsS, occs]
        rw [e, hL, hR0, List.append_nil]
        exact h.log
      · obtain ⟨b, r, hbr⟩ := List.exists_cons_of_ne_nil hR0
        have hpos : 0 < (recsS N (occs kept) R).length := by
          rw [hrl, hbr, occs_cons]; unfold occ; omega
        have hm := List.getElem_mem (l := recsS N (occs kept) R) (n := 0) hpos
        rw [gmax_eq (N := N) (fun s hs => (hf.sec s hs).2) (List.mem_append_right _ (List.mem_append_left _ hm)) (recsS_num N (by omega) R _ _ hm)]
        exact hf
  · have hl0 : 0 ≤ l := by omega
    obtain ⟨j, rfl⟩ : ∃ j : Nat, l = (j : Int) := ⟨l.toNat, by omega⟩
    have hjl : j < (recsS N (occs kept) R).length := by omega
    have hjo : j < occs R := by omega
    rw [syncW_torn t _ _ j _ hc h128 hfit hjl]
    have hLT := h.log.torn N hN hN2 R j t.toNat hjo (by omega) (by omega)
    obtain ⟨S', hS'⟩ : ∃ S', S' = S.take (occs kept) ++ ((recsS N (occs kept) R).take j ++ (tornS t.toNat ((recsS N (occs kept) R).getD j []) (S.getD (occs kept + j) []) :: S.drop (occs kept + j + 1))) := ⟨_, rfl⟩
    rw [← hS'] at hLT
    obtain ⟨i2, hi2, hf⟩ := hLT
    have hl' : S'.length = S.length := by
      rw [hS']; simp only [List.length_append, List.length_cons, List.length_take, List.length_drop]; omega
    have hgen : gmax S' ≤ N := gmax_le fun s hs => (hf.sec s hs).2
    have hLpos : 0 < L.length := by
      rcases Nat.eq_zero_or_pos L.length with h0 | h0
      · have : L = [] := List.eq_nil_of_length_eq_zero h0
        rw [this, show occs [] = 0 from rfl] at hoL
        omega
      · exact h0
    refine ⟨S', ?_, .inr ⟨rfl, hl0, hLpos, ?_⟩⟩
    · have e1 : 1 + occs kept = occs kept + 1 := by omega
      have e2 : occs kept + 1 + j + 1 = (occs kept + j + 1) + 1 := by omega
      have e3 : occs kept + 1 + j = (occs kept + j) + 1 := by omega
      dsimp only
      rw [e1, e2, e3, List.take_succ_cons, List.drop_succ_cons, List.cons_append, hS', List.getD_cons_succ]
    · have hkk : kept.length ≤ L.length := by rw [hL, List.length_append]; omega
      have hjS : occs kept + j < S.length := by omega
      have hnew : (recsS N (occs kept) R).getD j [] = (recsS N (occs kept) R)[j] := by simp [List.getD_eq_getElem?_getD, hjl]
      have hold : S.getD (occs kept + j) [] = S[occs kept + j] := by simp [List.getD_eq_getElem?_getD, hjS]
      by_cases hsame : j = 0 ∧ t.toNat ≤ 3
      · -- nothing is written: the log is as it was
        have hnl := h128 _ (List.getElem_mem hjl)
        have hol := h.log.sec _ (List.getElem_mem hjS)
        have hnn := recsS_num N (by omega) R _ _ (List.getElem_mem hjl)
        have e : S' = S := by
          rw [hS', hnew, hold, torn_lo t.toNat hsame.2 _ _ (by omega) (by omega) (by omega) (by omega)]
          obtain ⟨h0, _⟩ := hsame
          subst h0
          simp only [List.take_zero, List.nil_append, Nat.add_zero]
          rw [List.getElem_cons_drop, List.take_append_drop]
        refine ⟨kept, ⟨by rw [e]; exact h.ok, by rw [e]; exact h.len, by rw [e]; exact h.log, by rw [e]; omega⟩, Nat.le_refl _, hkk, hkL⟩
      · have hmem : ∃ s ∈ S', num4 s = N := by
          by_cases hj0 : j = 0
          · have ht : 3 < t.toNat := by omega
            refine ⟨tornS t.toNat ((recsS N (occs kept) R).getD j []) (S.getD (occs kept + j) []), by rw [hS']; simp, ?_⟩
            rw [torn_num _ _ _ (by rw [hnew, h128 _ (List.getElem_mem hjl)]; omega) ht, hnew]
            exact recsS_num N (by omega) R _ _ (List.getElem_mem hjl)
          · have h0 : 0 < (recsS N (occs kept) R).length := by omega
            refine ⟨(recsS N (occs kept) R)[0], ?_, recsS_num N (by omega) R _ _ (List.getElem_mem h0)⟩
            rw [hS']
            refine List.mem_append_right _ (List.mem_append_left _ ?_)
            rw [List.mem_take_iff_getElem]
            exact ⟨0, by omega, rfl⟩
        obtain ⟨s, hs, hn⟩ := hmem
        have hge := gmax_eq (fun s hs => (hf.sec s hs).2) hs hn
        refine ⟨kept ++ R.take i2, ⟨pinv_chk h hl' fun s hs => (hf.sec s hs).1, by omega, by rw [hge]; exact hf, by omega⟩, by simp, by rw [hL]; simp; omega, ?_⟩
        rw [hL, List.length_append, List.length_take, Nat.min_eq_left hi2, List.take_append, List.take_of_length_le (by omega)]
        congr 2
        omega
theorem pinv_new (M : Nat) (h1 : 2 ≤ M) (h2 : M ≤ 31) : PInv (List.replicate (M - 1) zeros128) [] M 0 := by
  have hl := logI_new (M - 1)
  have e : gmax (List.replicate (M - 1) (List.replicate 128 (0 : UInt8))) = 0 := by
    have := gmax_le (xs := List.replicate (M - 1) (List.replicate 128 (0 : UInt8))) (N := 0) (fun s hs => (hl.sec s hs).2)
    omega
  refine ⟨chk_mk (by simp) (by simp; omega) (fun x hx => ?_) (by omega) (by omega) (by omega) (by simp), by simp; omega, ?_, ?_⟩
  · rcases List.mem_cons.1 hx with rfl | hx
    · simp [zeros128]
    · rw [List.eq_of_mem_replicate hx]; simp [zeros128]
  · unfold zeros128; rw [e]; exact hl
  · unfold zeros128; rw [e]; omega
end Go.Proofs.Ytegkmkglagmdiaa
