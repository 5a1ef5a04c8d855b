/-
  What is proved here: in plain Lean: what a run of sector writes leaves, with and without a stop; a damaged sector of a new log
-/
import Derived.Test.YtegkmkglagmdiaaWalP
import Derived.Test.YtegkmkglagmdiaaWalQ
import Derived.Test.YtegkmkglagmdiaaWalR
import Derived.Test.YtegkmkglagmdiaaWalB
import Derived.Test.YtegkmkglagmdiaaWalC
import Derived.Test.YtegkmkglagmdiaaWalK
import Derived.Test.YtegkmkglagmdiaaWalS
import Derived.Test.YtegkmkglagmdiaaDiskI
import Derived.Test.YtegkmkglagmdiaaDiskH
namespace Go.Proofs.Ytegkmkglagmdiaa
open Go.RowKit Go.VS
theorem chk_mk {S : List (List UInt8)} {l t : Int} {s : Bool} (h1 : 1 ≤ S.length) (h2 : S.length ≤ 4096) (h3 : ∀ x ∈ S, x.length = 128) (h4 : -1 ≤ l) (h5 : 0 ≤ t) (h6 : t ≤ 128) (h7 : s = true → l = 0) : chk ⟨S, l, t, s⟩ = 0 := by
  unfold chk
  rw [if_pos]
  exact (okB_iff _).2 ⟨h1, h2, h3, h4, h5, h6, h7⟩
theorem chk_set {S : List (List UInt8)} {l t l' : Int} {s s' : Bool} (h : chk ⟨S, l, t, s⟩ = 0) (a : Nat) {y : List UInt8} (hy : y.length = 128) (hl : -1 ≤ l') (hs : s' = true → l' = 0) : chk ⟨S.set a y, l', t, s'⟩ = 0 := by
  obtain ⟨h1, h2, h3, _, h5, h6, _⟩ := chk_len h
  exact chk_mk (by simpa using h1) (by simpa using h2) (fun x hx => by
    rcases List.mem_or_eq_of_mem_set hx with hx | rfl
    · exact h3 x hx
    · exact hy) hl h5 h6 hs
theorem chkAt_ok {S : List (List UInt8)} {l t : Int} {s : Bool} (h : chk ⟨S, l, t, s⟩ = 0) {a : Nat} (ha : a < S.length) : chkAt ⟨S, l, t, s⟩ (a : Int) = 0 := by
  unfold chkAt
  rw [if_pos ⟨h, by simp [inR]; omega⟩]
theorem writeF_full {S : List (List UInt8)} {l t : Int} {a : Nat} {y : List UInt8} (hc : chk ⟨S, l, t, false⟩ = 0) (hy : y.length = 128) (ha : a < S.length) (hl : l ≠ 0) :
    writeF ⟨S, l, t, false⟩ (a : Int) y = (⟨S.set a y, if 0 < l then l - 1 else l, t, false⟩, 0) := by
  unfold writeF
  rw [if_neg (by rw [chkAt_ok hc ha, hy]; simp), if_neg (by simp), if_neg (by simpa using hl)]
  simp
theorem writeF_torn {S : List (List UInt8)} {t : Int} {a : Nat} {y : List UInt8} (hc : chk ⟨S, 0, t, false⟩ = 0) (hy : y.length = 128) (ha : a < S.length) :
    writeF ⟨S, 0, t, false⟩ (a : Int) y = (⟨S.set a (tornS t.toNat y (S.getD a [])), 0, t, true⟩, 410) := by
  unfold writeF
  rw [if_neg (by rw [chkAt_ok hc ha, hy]; simp), if_neg (by simp), if_pos (by simp)]
  simp [tornS]
theorem set_take {S : List (List UInt8)} {a : Nat} {y : List UInt8} (ha : a < S.length) : (S.set a y).take (a + 1) = S.take a ++ [y] := by
  rw [List.set_eq_take_append_cons_drop, if_pos ha, List.take_append, List.length_take, List.take_take]
  have e1 : min (a + 1) a = a := by omega
  have e2 : a + 1 - min a S.length = 1 := by omega
  rw [e1, e2]; rfl
theorem set_drop {S : List (List UInt8)} {a b : Nat} {y : List UInt8} (h : a < b) : (S.set a y).drop b = S.drop b := by
  rw [List.drop_set_of_lt h]
theorem syncW_full (t : Int) : ∀ (ys S : List (List UInt8)) (l : Int) (a : Nat), chk ⟨S, l, t, false⟩ = 0 → (∀ y ∈ ys, y.length = 128) → a + ys.length ≤ S.length → (l = -1 ∨ (ys.length : Int) ≤ l) →
    syncW ⟨S, l, t, false⟩ a ys = (⟨S.take a ++ (ys ++ S.drop (a + ys.length)), if l = -1 then -1 else l - ys.length, t, false⟩, 0)
  | [], S, l, a, _, _, _, _ => by
    simp only [syncW, List.length_nil, Nat.add_zero, List.nil_append, List.take_append_drop]
    split
    · rename_i h; rw [h]
    · simp
  | y :: r, S, l, a, hc, hy, ha, hl => by
    rw [List.length_cons] at ha hl
    have hy0 := hy y (by simp)
    have hl0 : l ≠ 0 := by omega
    rw [syncW, writeF_full hc hy0 (by omega) hl0, if_pos rfl]
    have hc' := chk_set hc a hy0 (l' := if 0 < l then l - 1 else l) (s' := false) (by split <;> omega) (by simp)
    dsimp only
    rw [syncW_full t r _ _ (a + 1) hc' (fun z hz => hy z (by simp [hz])) (by rw [List.length_set]; omega) (by split <;> omega), set_take (by omega), set_drop (by omega)]
    have e1 : a + 1 + r.length = a + (y :: r).length := by rw [List.length_cons]; omega
    have e2 : (if (if 0 < l then l - 1 else l) = -1 then (-1 : Int) else (if 0 < l then l - 1 else l) - r.length) = (if l = -1 then -1 else l - ((y :: r).length : Nat)) := by
      rw [List.length_cons]
      by_cases h : l = -1
      · subst h; simp
      · have hp : 0 < l := by omega
        have hq : ¬ l - 1 = -1 := by omega
        rw [if_pos hp, if_neg hq, if_neg h]; omega
    rw [e1, e2, List.append_assoc]
    rfl
theorem syncW_torn (t : Int) : ∀ (ys S : List (List UInt8)) (l a : Nat), chk ⟨S, (l : Int), t, false⟩ = 0 → (∀ y ∈ ys, y.length = 128) → a + ys.length ≤ S.length → l < ys.length →
    syncW ⟨S, (l : Int), t, false⟩ a ys = (⟨S.take a ++ (ys.take l ++ (tornS t.toNat (ys.getD l []) (S.getD (a + l) []) :: S.drop (a + l + 1))), 0, t, true⟩, 410)
  | [], S, l, a, _, _, _, hl => by simp at hl
  | y :: r, S, 0, a, hc, hy, ha, hl => by
    rw [List.length_cons] at ha
    have hy0 := hy y (by simp)
    rw [syncW, show ((0 : Nat) : Int) = 0 from rfl] at *
    rw [writeF_torn hc hy0 (by omega), if_neg (by simp)]
    rw [List.set_eq_take_append_cons_drop, if_pos (by omega)]
    simp
  | y :: r, S, l + 1, a, hc, hy, ha, hl => by
    rw [List.length_cons] at ha hl
    have hy0 := hy y (by simp)
    rw [syncW, writeF_full hc hy0 (by omega) (by omega), if_pos rfl]
    have hc' := chk_set hc a hy0 (l' := (l : Int)) (s' := false) (by omega) (by simp)
    have e0 : (if (0 : Int) < ((l + 1 : Nat) : Int) then ((l + 1 : Nat) : Int) - 1 else ((l + 1 : Nat) : Int)) = (l : Int) := by split <;> omega
    dsimp only
    rw [e0, syncW_torn t r _ l (a + 1) hc' (fun z hz => hy z (by simp [hz])) (by rw [List.length_set]; omega) (by omega), set_take (by omega), set_drop (by omega)]
    have e1 : a + 1 + l = a + (l + 1) := by omega
    have e2 : (S.set a y).getD (a + (l + 1)) [] = S.getD (a + (l + 1)) [] := by
      simp [List.getD_eq_getElem?_getD]
    rw [e1, e2, List.append_assoc]
    simp
def z40 : List (List UInt8) := List.replicate 40 zeros128
theorem z40_chk : chk ⟨z40, -1, 0, false⟩ = 0 := by decide +kernel
theorem z40_open : scan 0 0 none ((z40.drop 0).take 40) = [] := by decide +kernel
theorem z40_max : gmax ((z40.drop 0).take 40) = 0 := by decide +kernel
/-- the sectors behind Sync on a new disk. -/
def damS (R : List (List UInt8)) : List (List UInt8) := recsS 1 0 R ++ z40.drop (occs R)
theorem damS_sync (R : List (List UInt8)) (hR : occs R ≤ 40) : syncW ⟨z40, -1, 0, false⟩ 0 (recsS 1 0 R) = (⟨damS R, -1, 0, false⟩, 0) := by
  have hl := recsS_len 1 R 0
  rw [syncW_full 0 (recsS 1 0 R) z40 (-1) 0 z40_chk (fun y hy => (recsS_sec 1 (by omega) R 0 y hy).1) (by rw [hl]; simp [z40]; omega) (.inl rfl), hl]
  simp [damS]
theorem damS_len (R : List (List UInt8)) (hR : occs R ≤ 40) : (damS R).length = 40 := by
  simp [damS, recsS_len, z40]; omega
theorem damS_chk (R : List (List UInt8)) (hR : occs R ≤ 40) : chk ⟨damS R, -1, 0, false⟩ = 0 := by
  refine chk_mk (by rw [damS_len R hR]; omega) (by rw [damS_len R hR]; omega) (fun x hx => ?_) (by omega) (by omega) (by omega) (by simp)
  rcases List.mem_append.1 hx with h | h
  · exact (recsS_sec 1 (by omega) R 0 x h).1
  · rw [List.eq_of_mem_replicate (List.mem_of_mem_drop h)]; simp [zeros128]
theorem damS_scan (R : List (List UInt8)) (hR : occs R ≤ 40) (k : Nat) (hk : k < occs R) (s : List UInt8) (hs : (damS R)[k]? = some s) (at_ : Nat) (hat : at_ < 128) (y : UInt8) (hy : y ≠ 0) :
    ∃ i, i ≤ R.length ∧ occs (R.take i) ≤ k ∧ (i < R.length → k < occs (R.take (i + 1))) ∧ scan 0 0 none ((damS R).set k (s.set at_ (s.getD at_ 0 ^^^ y))) = R.take i := by
  have hl := recsS_len 1 R 0
  have hk' : k < (recsS 1 0 R).length := by omega
  have hs' : (recsS 1 0 R)[k] = s := by
    unfold damS at hs
    rw [List.getElem?_append_left hk', List.getElem?_eq_getElem hk'] at hs
    injection hs
  obtain ⟨k', fl, data, hd, he⟩ := recsS_enc 1 R 0 s (by rw [← hs']; exact List.getElem_mem hk')
  have hbad : ∀ k', okS (s.set at_ (s.getD at_ 0 ^^^ y)) k' = false := fun k'' => by
    rw [he]
    exact damaged 1 k' fl data hd at_ hat _ (xor_ne _ _ hy) k''
  generalize s.set at_ (s.getD at_ 0 ^^^ y) = s2 at *
  have e : (damS R).set k s2 = (recsS 1 0 R).take k ++ (s2 :: (damS R).drop (k + 1)) := by
    rw [List.set_eq_take_append_cons_drop, if_pos (by rw [damS_len R hR]; omega)]
    congr 1
    unfold damS
    rw [List.take_append_of_le_length (by omega)]
  rw [e]
  exact scan_damage R k (by omega) (by omega) _ (fun j => scan_bad 1 s2 _ j (hbad j)) (scan_bad 0 s2 _ 0 (hbad 0)).1
end Go.Proofs.Ytegkmkglagmdiaa
