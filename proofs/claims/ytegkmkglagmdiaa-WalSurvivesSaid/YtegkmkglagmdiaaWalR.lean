/-
  What is proved here: the log on sectors in plain Lean: a damaged sector.
-/
import Derived.Test.YtegkmkglagmdiaaWalQ
namespace Go.VS
theorem num4_four (a b c d : UInt8) (r : List UInt8) : num4 ([a, b, c, d] ++ r) = a.toNat * 16777216 + b.toNat * 65536 + c.toNat * 256 + d.toNat := rfl
theorem num4_set (A r : List UInt8) (hA : A.length = 4) (at_ : Nat) (h : at_ < 4) (x : UInt8) (hx : x ≠ A.getD at_ 0) : num4 (A.set at_ x ++ r) ≠ num4 (A ++ r) := by
  match A, hA with
  | [a, b, c, d], _ =>
    have ha := a.toNat_lt
    have hb := b.toNat_lt
    have hc := c.toNat_lt
    have hd := d.toNat_lt
    have hxl := x.toNat_lt
    have hne : x.toNat ≠ ([a, b, c, d].getD at_ 0).toNat := fun e => hx (UInt8.toNat_inj.1 e)
    match at_, h with
    | 0, _ => simp at hne; simp [num4]; omega
    | 1, _ => simp at hne; simp [num4]; omega
    | 2, _ => simp at hne; simp [num4]; omega
    | 3, _ => simp at hne; simp [num4]; omega
theorem num4_pre (U r : List UInt8) (h : U.length = 4) : num4 (U ++ r) = num4 U := by
  match U, h with
  | [a, b, c, d], _ => rfl
theorem xor_ne (c d : UInt8) (h : d ≠ 0) : c ^^^ d ≠ c := by
  intro e
  apply h
  have := congrArg UInt8.toNat e
  rw [UInt8.toNat_xor] at this
  have e2 : c.toNat ^^^ (c.toNat ^^^ d.toNat) = c.toNat ^^^ c.toNat := by rw [this]
  rw [← Nat.xor_assoc, Nat.xor_self, Nat.zero_xor] at e2
  exact UInt8.toNat_inj.1 e2
/-- a change of one byte of a sector is seen. -/
theorem damaged (N k flags : Nat) (data : List UInt8) (hd : data.length ≤ 112) (at_ : Nat) (hat : at_ < 128) (x : UInt8) (hx : x ≠ (encS N k flags data).getD at_ 0) (k' : Nat) : okS ((encS N k flags data).set at_ x) k' = false := by
  have hb := bodyS_len k flags data hd
  have hu := u4_len N
  have hv := u4_len (crcF (bodyS k flags data))
  unfold okS
  have key : ¬ (num4 ((encS N k flags data).set at_ x) ≠ 0 ∧ num4 (((encS N k flags data).set at_ x).drop 124) = num4 ((encS N k flags data).set at_ x) ∧ num4 (((encS N k flags data).set at_ x).drop 4) = crcF ((((encS N k flags data).set at_ x).drop 8).take 116)) := by
    rintro ⟨_, h1, h2⟩
    unfold encS at *
    generalize hB : bodyS k flags data = B at *
    generalize hU : u4 N = U at *
    rw [List.getD_eq_getElem?_getD] at hx
    by_cases c1 : at_ < 4
    · rw [List.set_append_left _ _ (by omega)] at h1
      rw [List.getElem?_append_left (by omega)] at hx
      rw [← List.append_assoc, ← List.append_assoc, List.drop_left' (by simp [hu, hv, hb])] at h1
      have := num4_set U (u4 (crcF B) ++ (B ++ U)) hu at_ c1 x (by rwa [List.getD_eq_getElem?_getD])
      rw [List.append_assoc, List.append_assoc] at h1
      rw [← h1] at this
      apply this
      have := num4_pre U (u4 (crcF B) ++ (B ++ U)) hu
      exact this.symm
    · rw [List.set_append_right _ _ (by omega), hu] at h1 h2
      rw [List.getElem?_append_right (by omega), hu] at hx
      by_cases c2 : at_ < 8
      · rw [List.set_append_left _ _ (by omega)] at h2
        rw [List.getElem?_append_left (by omega)] at hx
        have := num4_set (u4 (crcF B)) (B ++ U) hv (at_ - 4) (by omega) x (by rwa [List.getD_eq_getElem?_getD])
        have e3 : ((U ++ ((u4 (crcF B)).set (at_ - 4) x ++ (B ++ U))).drop 8).take 116 = B := by
          rw [← List.append_assoc, List.drop_left' (by simp [hu, hv]), List.take_left' hb]
        rw [List.drop_left' hu, e3] at h2
        rw [h2, num4_u4 _ (crcF_lt _)] at this
        exact this rfl
      · rw [List.set_append_right _ _ (by omega), hv] at h1 h2
        rw [List.getElem?_append_right (by omega), hv] at hx
        by_cases c3 : at_ < 124
        · rw [List.set_append_left _ _ (by omega)] at h2
          rw [List.getElem?_append_left (by omega)] at hx
          rw [List.drop_left' hu, num4_u4 _ (crcF_lt _), ← List.append_assoc, List.drop_left' (by simp [hu, hv]), List.take_left' (by simp [hb])] at h2
          have hj : at_ - 4 - 4 < B.length := by omega
          have e1 : B = B.take (at_ - 4 - 4) ++ B[at_ - 4 - 4] :: B.drop (at_ - 4 - 4 + 1) := by rw [List.getElem_cons_drop, List.take_append_drop]
          have e2 : B.set (at_ - 4 - 4) x = B.take (at_ - 4 - 4) ++ x :: B.drop (at_ - 4 - 4 + 1) := by rw [List.set_eq_take_append_cons_drop, if_pos hj]
          rw [e2] at h2
          rw [List.getElem?_eq_getElem hj] at hx
          refine crc_one _ _ _ _ (Ne.symm hx) (Eq.trans ?_ h2)
          exact congrArg crcF e1.symm
        · rw [List.set_append_right _ _ (by omega), hb] at h1
          rw [List.getElem?_append_right (by omega), hb] at hx
          rw [← List.append_assoc, ← List.append_assoc, List.drop_left' (by simp [hu, hv, hb])] at h1
          have := num4_set U [] hu (at_ - 4 - 4 - 116) (by omega) x (by rwa [List.getD_eq_getElem?_getD])
          rw [List.append_nil, List.append_nil, h1, List.append_assoc, List.append_assoc] at this
          exact this (num4_pre U _ hu)
  rw [decide_eq_false key, Bool.false_and]
/-- only the records before a damaged sector are read. -/
theorem scan_damage (R : List (List UInt8)) (k : Nat) (hk : k ≤ occs R) (hR : occs R ≤ 65536) (Z : List (List UInt8)) (hZ : ∀ k, scan k 1 none Z = [] ∧ ∀ cur, scan k 1 (some cur) Z = []) (hZ0 : scan 0 0 none Z = []) :
    ∃ i, i ≤ R.length ∧ occs (R.take i) ≤ k ∧ (i < R.length → k < occs (R.take (i + 1))) ∧ scan 0 0 none ((recsS 1 0 R).take k ++ Z) = R.take i := by
  obtain ⟨i, Q, ⟨h1, h2, h3⟩, e1, e2⟩ := part_recs 1 (by omega) (by omega) Z (fun k => (hZ k).2) (fun k => (hZ k).1) R 0 0 k (by omega) hk (by omega) (fun _ => hZ0)
  refine ⟨i, h1, h2, h3, ?_⟩
  have : occs (R.take i) ≤ occs R := by
    have : occs R = occs (R.take i) + occs (R.drop i) := by rw [← occs_append, List.take_append_drop]
    omega
  rw [e1, List.append_assoc, scan_recs 1 (by omega) (by omega) _ _ _ _ (by omega) (by omega), e2, List.append_nil]
end Go.VS
