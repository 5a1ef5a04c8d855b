/-
  What is proved here: the hash function Sum.
-/
import Derived.Test.YtohknemfcohhfaaDoorRows
import Derived.Test.YtohknemfcohhfaaDoorBaseC
import Derived.Test.YtohknemfcohhfaaDoorSha
import Derived.Test.YtohknemfcohhfaaDoorDigA
import Derived.Test.YtohknemfcohhfaaDoorDigC
import Derived.Test.YtohknemfcohhfaaDoorDigD
import Derived.Test.YtohknemfcohhfaaDoorDigE
import Derived.StillTailTactics
import Derived.Lib.AppendZerosOnto
import Derived.Deep.RegionHeld3
import Derived.Deep.RegionLaw
import Derived.Deep.DeepCutAuto
import Derived.Deep.QuietTactic
import Derived.BigQuiet
import Derived.Laws.EntriesVeiled
namespace Go.Proofs.YtohknemfcohhfaaDoor
open Go.RowKit Go.VS
theorem stV_one (s : St) : (stV s).all (·.oneCell') = true := by simp [stV, Value.oneCell']
theorem run_slice_high {P : Program} {t e : TypeId} (ht : P.underlying t = some (.slice e)) (hi : (P.info? e).map (·.size) = some 1) (a : Option Addr) (n c k : Nat) (hk : k ≤ c) (w : World) :
    (Instr.slice t (.slice a n c) none (some (.int .i64 k)) none).run P w = .ok (.slice a k c) w := by
  obtain ⟨i, hi'⟩ : ∃ i, P.info? e = some i := by
    cases h : P.info? e with
    | none => rw [h] at hi; cases hi
    | some i => exact ⟨i, rfl⟩
  rcases a with _ | ⟨b, o, p⟩
  · simp [Instr.slice, run_underlying ht, Instr.sliceBounds, Instr.sliceBound, asIntOf, hk, sizeOf, typeInfo, hi']
  · simp [Instr.slice, run_underlying ht, Instr.sliceBounds, Instr.sliceBound, asIntOf, hk, sizeOf, typeInfo, hi', Addr.add]
set_option maxRecDepth 100000 in
set_option maxHeartbeats 2000000 in
theorem sum_c (A : Option Addr) (n c : Nat) (bs : List UInt8) (D : Gh) (w : World) (hk : Keeps D w) (hb : BS D (.slice A n c) bs) (hlim : n ≤ 1000000) (hT : Tab D) :
    Calls Tryd.prog 18 #[.slice A n c] w fun e w' => e = .returned (dg (shaF bs)) ∧ Below w.heap.size w w' := by
  obtain ⟨hn, hnc, hcm⟩ := hb.len
  unfold maxLen at hcm
  have HN := Lib.hid hn
  clear hn
  have hB2 := (Box.new2 hk rfl 26 (darr [])).alloc (.cells (stV s0F) 69)
  have hB3 := Box.new2 (hk.alloc (.cells (darr []) 26)) (g := w.heap.size + 1) (by simp) 69 (stV s0F)
  have hbel := Lib.hid (show Below w.heap.size w ((w.alloc (.cells (darr []) 26)).alloc (.cells (stV s0F) 69)) from (by repeat (first | (with_reducible exact Below.refl _ _) | (with_reducible refine Below.drew ?_) | (with_reducible refine belowDrewN ?_ _) | (with_reducible refine belowAlloc ?_ _) | ((with_reducible refine belowSet2 ?_ ?_); omega) | (with_reducible assumption) | (with_reducible refine belowVia (by assumption) ?_) | (with_reducible refine belowVia (Grow.below (by assumption)) ?_))))
  go_enter Tryd.func18, Tryd.ntmps18
  go_wp2_with fail
  refine (pad_c A n c bs D _ ((by repeat (with_reducible first | assumption | refine Keeps.drew ?_ | refine Keeps.drewN ?_ _ | refine Keeps.alloc ?_ _ | exact Grow.keeps (by assumption)))) hb hlim).mono ?_
  rintro e w1 ⟨A1, c1, D1, rfl, hG1, hb1⟩
  have hT1 := hT.le hG1.le
  have hB2' := hB2.grow hG1
  have hB3' := hB3.grow hG1
  have hbel1 := belowVia hG1.below hbel.out
  have hkp1 := hG1.keeps
  obtain ⟨hp1, hp2, hp3⟩ := pad_len bs
  rw [← HN.out] at hp3
  obtain ⟨_, hnc1, hcm1⟩ := hb1.len
  unfold maxLen at hcm1
  have HS := Lib.hid (show shaF bs = outF (blocksF ((padF bs).length / 64) s0F (padF bs)) from rfl)
  generalize padF bs = P0 at *
  obtain ⟨M, hM⟩ : ∃ M, P0.length = 64 * M := ⟨P0.length / 64, by omega⟩
  rw [hM] at hb1 hnc1 ⊢
  rw [hM, Nat.mul_div_cancel_left _ (by decide : 0 < 64)] at HS
  have hM0 : M ≤ 20000 := by omega
  have hMM := Lib.hid hM
  clear hM hp1 hp2 hp3 hG1 hB2 hB3 hbel
  go_wp2_with fail
  go_loopw [4] (fun p wr => ∃ (m : Nat) (Am : Option Addr) (cm : Nat) (h : St) (q : List UInt8), m ≤ M ∧ p = .slice Am (64 * m) cm ∧ BS D1 (.slice Am (64 * m) cm) q ∧ blocksF m h q = blocksF M s0F P0 ∧ Below w.heap.size w wr ∧ Keeps D1 wr ∧ Box wr D1 w.heap.size 26 (darr []) ∧ Box wr D1 (w.heap.size + 1) 69 (stV h)) (fun p _ => match p with | .slice _ l _ => l | _ => 0)
  case atStart => exact ⟨M, A1, c1, s0F, P0, Nat.le_refl _, rfl, hb1, rfl, hbel1, hkp1, hB2', hB3'⟩
  case round =>
    clear hb1 hbel1 hkp1 hB2' hB3'
    obtain ⟨m, Am, cm, h, q, hmM, rfl, hq, hbl, hbel, hkp, hB2, hB3⟩ := hrel
    obtain ⟨hql, hqc, hqm⟩ := hq.len
    unfold maxLen at hqm
    have HBL := Lib.hid hbl
    have HQL := Lib.hid hql
    clear hbl hql
    by_cases hm0 : 0 < m
    · obtain ⟨b, o, rfl, _⟩ := hq.all_ hkp (by rw [← HQL.out]; omega)
      have hpos : (0 : Int) < 64 * (m : Int) := by omega
      have hdr := bs_drop hq (k := 64) (by omega)
      obtain ⟨Ad, hAd⟩ : ∃ Ad, (if cm = 64 then some (⟨b, o, none⟩ : Addr) else some ⟨b, o + 64, none⟩) = Ad := ⟨_, rfl⟩
      rw [hAd] at hdr
      have htk := bs_take hq (k := 64) (by omega)
      have hsl : ∀ W, (Instr.slice 22 (.slice (some ⟨b, o, none⟩) (64 * m) cm) (some (.int .i64 64)) none none).run Tryd.prog W = .ok (.slice Ad (64 * m - 64) (cm - 64)) W := fun W => hAd ▸ run_slice_low (P := Tryd.prog) Tryd.underlying22 (by kernel_rfl) b o (64 * m) cm 64 (by omega) W
      clear hAd
      obtain ⟨q0, q1, q2, q3, q4, q5, q6, q7⟩ := cells8 hB3
      have hsh : ∀ W, (Instr.slice 22 (.slice (some ⟨b, o, none⟩) (64 * m) cm) none (some (.int .i64 64)) none).run Tryd.prog W = .ok (.slice (some ⟨b, o, none⟩) 64 cm) W := fun W => run_slice_high (P := Tryd.prog) Tryd.underlying22 (by kernel_rfl) (some ⟨b, o, none⟩) (64 * m) cm 64 (by omega) W
      go_wp2_with fail
      go_still_tail 3, (by kernel_rfl)
      change wpList _ _ _ _ _ wr.drew
      go_wp2_with fail
      refine (mix_c h _ cm (q.take 64) (by rw [List.length_take, ← HQL.out]; omega) D1 _ hkp.drew htk hT1).mono ?_
      rintro e w2 ⟨rfl, hb2⟩
      clear q0 q1 q2 q3 q4 q5 q6 q7 htk hsh
      have hB2' := hB2.drew.below hb2 (by simpa using hB2.lt)
      have hB3' := hB3.drew.below hb2 (by simpa using hB3.lt)
      have hkp' := hkp.drew.below hb2 (Nat.le_refl _)
      have hbel' := belowVia hb2 hbel.drew
      obtain ⟨m', rfl⟩ : ∃ m', m = m' + 1 := ⟨m - 1, by omega⟩
      have HB' := Lib.hid (show blocksF m' (mixF h (q.take 64)) (q.drop 64) = blocksF M s0F P0 from HBL.out)
      generalize mixF h (q.take 64) = h' at *
      clear hB2 hB3 hkp hbel hb2
      go_wp2_with (refine wpList_store_row rfl 69 _ _ rfl (w.heap.size + 1) (stV h') rfl rfl 69 _ hB3'.heap (by kernel_rfl) rfl (stV_one _) ?_)
      have e64 : 64 * (m' + 1) - 64 = 64 * m' := by omega
      rw [e64] at hdr ⊢
      go_roundw
      case rel => exact ⟨m', Ad, cm - 64, h', q.drop 64, by omega, rfl, hdr, HB'.out, belowRow hbel' (by omega) _, keepsRow hkp' hB3'.off _, hB2'.farRow (by omega) _, hB3'.setRow _⟩
      case measure => simp
    · obtain rfl : m = 0 := by omega
      have HS2 := Lib.hid (show shaF bs = outF h from HS.out.trans (by rw [← HBL.out]; rfl))
      obtain ⟨q0, q1, q2, q3, q4, q5, q6, q7⟩ := cells8 hB3
      go_wp2
      clear q0 q1 q2 q3 q4 q5 q6 q7 hq hkp hB3 hqc hqm
      go_loopw [21] (fun x wx => ∃ i : Nat, i ≤ 8 ∧ x = .int .i64 i ∧ Below w.heap.size w wx ∧ Box wx D1 w.heap.size 26 (darr ((outF h).take (4 * i)))) (fun x _ => 8 - (intOf x).toNat)
      case atStart => exact ⟨0, by omega, rfl, hbel, hB2⟩
      case round =>
        clear hbel hB2
        obtain ⟨i, hi8, rfl, hbel, hB2⟩ := hrel
        by_cases hlt : i < 8
        · have hix := index8 h i hlt
          simp only [stV] at hix
          have HOA := Lib.hid (fun k hk => out_at h i k hlt hk)
          generalize (stL h).getD i 0 = xi at hix HOA
          go_wp2
          go_loopw [25] (fun x wx => ∃ k : Nat, k ≤ 4 ∧ x = .int .i64 k ∧ Below w.heap.size w wx ∧ Box wx D1 w.heap.size 26 (darr ((outF h).take (4 * i + k)))) (fun x _ => 4 - (intOf x).toNat)
          case atStart => exact ⟨0, by omega, rfl, hbel, hB2⟩
          case round =>
            clear hbel hB2
            obtain ⟨k, hk4, rfl, hbel, hB2⟩ := hrel
            by_cases hlt2 : k < 4
            · have hl : ((outF h).take (4 * i + k)).length = 4 * i + k := by rw [List.length_take, outF_len]; omega
              have hend := darr_end ((outF h).take (4 * i + k)) (by rw [hl]; omega)
              have hset := darr_set ((outF h).take (4 * i + k)) ((outF h).getD (4 * i + k) 0) (by rw [hl]; omega)
              rw [hl] at hend hset
              rw [← outF_take h _ (by omega), HOA.out k hlt2] at hset
              obtain ⟨qk, fk⟩ := hB2.held hend
              have HSET := Lib.hid hset
              clear hl hend hset
              have hs0 : (0 : Int) ≤ 24 - 8 * (k : Int) := by omega
              go_wp2
              go_roundw
              case rel =>
                have hf := hB2.set_ (4 * i + k) (.int .u8 (xi / 2 ^ (24 - 8 * k) % 256))
                rw [HSET.out] at hf
                have hf2 := belowSet2 (b := w.heap.size) (o := 4 * i + k) (u := .int .u8 (xi / 2 ^ (24 - 8 * k) % 256)) (Nat.le_refl _) hbel
                first
                  | exact ⟨k + 1, by omega, by go_num, hf2, hf⟩
                  | ((repeat apply Exists.intro); exact ⟨⟨k + 1, by omega, by go_num, hf2, hf⟩, rfl⟩)
              case measure => simp [intOf]; omega
            · obtain rfl : k = 4 := by omega
              go_wp2
              go_roundw
              case rel =>
                first
                  | exact ⟨i + 1, by omega, by go_num, hbel, hB2⟩
                  | ((repeat apply Exists.intro); exact ⟨⟨i + 1, by omega, by go_num, hbel, hB2⟩, rfl⟩)
              case measure => simp [intOf]; omega
        · obtain rfl : i = 8 := by omega
          rw [show (outF h).take (4 * 8) = outF h from rfl] at hB2
          have hd32 := outF_len h
          generalize outF h = d at *
          have hsz : (Tryd.prog.info? 26).map (·.size) = some (darr d).size := by rw [darr_size d (by omega)]; kernel_rfl
          have HD := Lib.hid hd32
          clear hd32
          go_wp2_with (first | (refine wpList_load_row rfl 26 _ rfl w.heap.size rfl 26 _ (0, 0) _ hB2.heap Tryd.underlying26 rfl hsz ?_) | (refine wpList_store_row rfl 26 _ _ rfl w.heap.size (darr d) rfl rfl 26 _ hB2.heap hsz rfl (darr_one _) ?_))
          refine bodyPost_ret (results_cell_row rfl _ _ _ _ _ _ _ rfl (hB2.setRow _).heap Tryd.underlying26 rfl hsz) rfl ⟨?_, belowRow hbel (Nat.le_refl _) _⟩
          rw [HS2.out, darr_full _ HD.out]
          rfl
end Go.Proofs.YtohknemfcohhfaaDoor
