/-
  What is proved here: the mixing function of the hash.
-/
import Derived.Test.YtohknemfcohhfaaDoorRows
import Derived.Test.YtohknemfcohhfaaDoorBaseC
import Derived.Test.YtohknemfcohhfaaDoorSha
import Derived.Test.YtohknemfcohhfaaDoorDigA
import Derived.Test.YtohknemfcohhfaaDoorDigB
import Derived.StillTailTactics
import Derived.Deep.RegionHeld3
import Derived.Deep.RegionLaw
import Derived.Deep.DeepCutAuto
import Derived.Deep.QuietTactic
import Derived.BigQuiet
import Derived.Laws.EntriesVeiled
namespace Go.Proofs.YtohknemfcohhfaaDoor
open Go.RowKit Go.VS
theorem MB.seth {w wr : World} {D : Gh} {g : Nat} {l : List Int} {r : Array Value} {ws : List Int} (h : MB w wr D g (lV l) r ws) (hg : w.heap.size + 1 < g) (k : Nat) (x : Int) : MB w (wr.setCell ⟨w.heap.size, k, none⟩ (.int .u32 x)) D g (lV (l.set k x)) r ws := by
  refine ⟨belowSet2 (Nat.le_refl _) h.bel, h.kp.setCell (p := ⟨w.heap.size, k, none⟩) h.B2.off _, ?_, Box.far2 (by omega) h.B4, Box.far2 (by omega) h.B5⟩
  have := h.B2.set_ k (.int .u32 x)
  rwa [lV_set] at this
theorem MB.cast {w wr : World} {D : Gh} {g : Nat} {hc r : Array Value} {ws ws' : List Int} (h : MB w wr D g hc r ws) (e : ws = ws') : MB w wr D g hc r ws' := e ▸ h
theorem rq2 (x : Int) (w : World) : Calls Tryd.prog 78 #[.int .u32 x, .int .i64 2] w fun e w' => e = .returned (.int .u32 (rotI x 2)) ∧ w' = w := (rc2 x w).mono fun _ _ h => ⟨h.1, h.2.symm⟩
theorem rq6 (x : Int) (w : World) : Calls Tryd.prog 78 #[.int .u32 x, .int .i64 6] w fun e w' => e = .returned (.int .u32 (rotI x 6)) ∧ w' = w := (rc6 x w).mono fun _ _ h => ⟨h.1, h.2.symm⟩
theorem rq7 (x : Int) (w : World) : Calls Tryd.prog 78 #[.int .u32 x, .int .i64 7] w fun e w' => e = .returned (.int .u32 (rotI x 7)) ∧ w' = w := (rc7 x w).mono fun _ _ h => ⟨h.1, h.2.symm⟩
theorem rq11 (x : Int) (w : World) : Calls Tryd.prog 78 #[.int .u32 x, .int .i64 11] w fun e w' => e = .returned (.int .u32 (rotI x 11)) ∧ w' = w := (rc11 x w).mono fun _ _ h => ⟨h.1, h.2.symm⟩
theorem rq13 (x : Int) (w : World) : Calls Tryd.prog 78 #[.int .u32 x, .int .i64 13] w fun e w' => e = .returned (.int .u32 (rotI x 13)) ∧ w' = w := (rc13 x w).mono fun _ _ h => ⟨h.1, h.2.symm⟩
theorem rq17 (x : Int) (w : World) : Calls Tryd.prog 78 #[.int .u32 x, .int .i64 17] w fun e w' => e = .returned (.int .u32 (rotI x 17)) ∧ w' = w := (rc17 x w).mono fun _ _ h => ⟨h.1, h.2.symm⟩
theorem rq18 (x : Int) (w : World) : Calls Tryd.prog 78 #[.int .u32 x, .int .i64 18] w fun e w' => e = .returned (.int .u32 (rotI x 18)) ∧ w' = w := (rc18 x w).mono fun _ _ h => ⟨h.1, h.2.symm⟩
theorem rq19 (x : Int) (w : World) : Calls Tryd.prog 78 #[.int .u32 x, .int .i64 19] w fun e w' => e = .returned (.int .u32 (rotI x 19)) ∧ w' = w := (rc19 x w).mono fun _ _ h => ⟨h.1, h.2.symm⟩
theorem rq22 (x : Int) (w : World) : Calls Tryd.prog 78 #[.int .u32 x, .int .i64 22] w fun e w' => e = .returned (.int .u32 (rotI x 22)) ∧ w' = w := (rc22 x w).mono fun _ _ h => ⟨h.1, h.2.symm⟩
theorem rq25 (x : Int) (w : World) : Calls Tryd.prog 78 #[.int .u32 x, .int .i64 25] w fun e w' => e = .returned (.int .u32 (rotI x 25)) ∧ w' = w := (rc25 x w).mono fun _ _ h => ⟨h.1, h.2.symm⟩
theorem cells8 {w : World} {D : Gh} {g : Nat} {t : TypeId} {s : St} (h : Box w D g t (stV s)) : w.cell? ⟨g, 0, none⟩ = some (.int .u32 s.a) ∧ w.cell? ⟨g, 1, none⟩ = some (.int .u32 s.b) ∧ w.cell? ⟨g, 2, none⟩ = some (.int .u32 s.c) ∧ w.cell? ⟨g, 3, none⟩ = some (.int .u32 s.d) ∧ w.cell? ⟨g, 4, none⟩ = some (.int .u32 s.e) ∧ w.cell? ⟨g, 5, none⟩ = some (.int .u32 s.f) ∧ w.cell? ⟨g, 6, none⟩ = some (.int .u32 s.g) ∧ w.cell? ⟨g, 7, none⟩ = some (.int .u32 s.h) :=
  ⟨h.cell 0, h.cell 1, h.cell 2, h.cell 3, h.cell 4, h.cell 5, h.cell 6, h.cell 7⟩
theorem frozen8 {w : World} {D : Gh} {g : Nat} {t : TypeId} {cs : Array Value} (h : Box w D g t cs) : w.frozen? ⟨g, 0, none⟩ = false ∧ w.frozen? ⟨g, 1, none⟩ = false ∧ w.frozen? ⟨g, 2, none⟩ = false ∧ w.frozen? ⟨g, 3, none⟩ = false ∧ w.frozen? ⟨g, 4, none⟩ = false ∧ w.frozen? ⟨g, 5, none⟩ = false ∧ w.frozen? ⟨g, 6, none⟩ = false ∧ w.frozen? ⟨g, 7, none⟩ = false :=
  ⟨h.frozen 0, h.frozen 1, h.frozen 2, h.frozen 3, h.frozen 4, h.frozen 5, h.frozen 6, h.frozen 7⟩
set_option maxRecDepth 100000 in
set_option maxHeartbeats 4000000 in
theorem mix_c (s : St) (A : Option Addr) (c : Nat) (bs : List UInt8) (hl : bs.length = 64) (D : Gh) (w : World) (hk : Keeps D w) (hb : BS D (.slice A 64 c) bs) (hT : Tab D) :
    Calls Tryd.prog 50 #[.agg (stV s), .slice A 64 c] w fun e w' => e = .returned (.agg (stV (mixF s bs))) ∧ Below w.heap.size w w' := by
  obtain ⟨hn, hnc, hcm⟩ := hb.len
  unfold maxLen at hcm
  clear hn
  obtain ⟨b, o, rfl, _⟩ := hb.all_ hk (by omega)
  have hww := IntKind.wrap_u32'
  go_enter Tryd.func50, Tryd.ntmps50
  go_wp2
  go_loopw [24] (fun i wr => ∃ k : Nat, k ≤ 16 ∧ i = .int .i64 k ∧ MB w wr D (w.heap.size + 1 + 1) (stV s) zero8 ((List.range k).map (at4 bs))) (fun i _ => 16 - (intOf i).toNat)
  case atStart =>
    refine ⟨0, by omega, rfl, ⟨(by repeat (first | (with_reducible exact Below.refl _ _) | (with_reducible refine Below.drew ?_) | (with_reducible refine belowDrewN ?_ _) | (with_reducible refine belowAlloc ?_ _) | ((with_reducible refine belowSet2 ?_ ?_); omega) | (with_reducible assumption) | (with_reducible refine belowVia (by assumption) ?_) | (with_reducible refine belowVia (Grow.below (by assumption)) ?_))), (by repeat (with_reducible first | assumption | refine Keeps.drew ?_ | refine Keeps.drewN ?_ _ | refine Keeps.alloc ?_ _ | exact Grow.keeps (by assumption))), ?_, ?_, ?_⟩⟩
    · exact ((Box.new hk _ _).alloc _).alloc _
    · exact (Box.new2 (hk.alloc _) (by simp) 69 zero8).alloc _
    · exact (Box.new2 ((hk.alloc _).alloc _) (by simp) 92 (warr []))
  case round =>
    obtain ⟨k, hk16, rfl, hM⟩ := hrel
    by_cases hlt : k < 16
    · obtain ⟨b', o', e1, hc⟩ := hb.all_ hM.kp (by omega)
      cases e1
      have c0 := hc (4 * k) (by omega)
      have c1 := hc (4 * k + 1) (by omega)
      rw [← Nat.add_assoc] at c1
      have c2 := hc (4 * k + 2) (by omega)
      rw [← Nat.add_assoc] at c2
      have c3 := hc (4 * k + 3) (by omega)
      rw [← Nat.add_assoc] at c3
      have hsl : ∀ wx, (Instr.slice 22 (.slice (some ⟨b, o, none⟩) 64 c) (some (.int .i64 (4 * (k : Int)))) (some (.int .i64 (4 * (k : Int) + 4))) none).run Tryd.prog wx = .ok (.slice (some ⟨b, o + 4 * k, none⟩) 4 (c - 4 * k)) wx := fun wx => by
        have := run_slice_mid (P := Tryd.prog) Tryd.underlying22 (by kernel_rfl) b o 64 c (4 * k) (4 * k + 4) (by omega) (by omega) (by omega) wx
        rw [show 4 * k + 4 - 4 * k = 4 by omega] at this
        simpa using this
      have HL := Lib.hid hl
      have HC := Lib.hid hc
      clear hl hc
      obtain ⟨qk, fk⟩ := hM.heldw (first_len bs k) (by omega)
      have hw := wrapB
      have h64 : (k : Int) < 64 := by omega
      have h00 : (0 : Int) ≤ (k : Int) := by omega
      go_wp2
      go_still_tail 24, (by kernel_rfl)
      change wpList _ _ _ _ _ wr.drew
      go_wp2
      go_roundw
      case rel =>
        refine ⟨k + 1, by omega, by go_num, ?_⟩
        rw [first_succ]
        exact (hM.setw (by omega) (first_len bs k) (by omega) _).drew
      case measure => simp [intOf]; omega
    · obtain rfl : k = 16 := by omega
      rw [show ((16 : Nat) : Int) = 16 from rfl]
      go_wp2
      go_loopw [8] (fun i wx => ∃ j : Nat, j ≤ 48 ∧ i = .int .i64 ((j : Int) + 16) ∧ MB w wx D (w.heap.size + 1 + 1) (stV s) zero8 (sched j (first16 bs))) (fun i _ => 64 - (intOf i).toNat)
      case atStart => exact ⟨0, by omega, rfl, hM⟩
      case round =>
        clear hM
        obtain ⟨j, hj48, rfl, hM⟩ := hrel
        have hlen : (sched j (first16 bs)).length = j + 16 := by rw [sched_len]; simp [first16]; omega
        by_cases hlt2 : j < 48
        · have c1 := hM.word (k := j + 1) (by omega)
          have c14 := hM.word (k := j + 14) (by omega)
          have HLN := Lib.hid hlen
          clear hlen
          have h64 : (j : Int) + 16 < 64 := by omega
          have h00 : (0 : Int) ≤ (j : Int) := by omega
          have h640 : (j : Int) < 64 := by omega
          have h649 : (j : Int) + 9 < 64 := by omega
          have h009 : (0 : Int) ≤ (j : Int) + 9 := by omega
          have h016 : (0 : Int) ≤ (j : Int) + 16 := by omega
          have hj0 : IntKind.i64.wrap (j : Int) = j := by rw [IntKind.wrap_i64]; omega
          have hn9 : ((j : Int) + 9).toNat = j + 9 := by omega
          have hn16 : ((j : Int) + 16).toNat = j + 16 := by omega
          have hj9 : IntKind.i64.wrap ((j : Int) + 16 - 7) = j + 9 := by rw [IntKind.wrap_i64]; omega
          go_wp2
          go_quiet (fail)
          go_wp2_with fail
          refine (rc7 _ _).mono ?_
          rintro e w1 ⟨rfl, rfl⟩
          go_wp2_with fail
          refine (rc18 _ _).mono ?_
          rintro e w1 ⟨rfl, rfl⟩
          go_wp2_with fail
          refine (rc17 _ _).mono ?_
          rintro e w1 ⟨rfl, rfl⟩
          go_wp2_with fail
          refine (rc19 _ _).mono ?_
          rintro e w1 ⟨rfl, rfl⟩
          go_wp2
          have hM2 := hM.drewN nq
          generalize wr.drewN nq = w2 at hM2 ⊢
          have c0 := hM2.word (k := j) (by rw [HLN.out]; omega)
          have c9 := hM2.word (k := j + 9) (by rw [HLN.out]; omega)
          obtain ⟨qk, fk⟩ := hM2.heldw HLN.out (by omega)
          go_still_tail 15, (by kernel_rfl)
          change wpList _ _ _ _ _ w2.drew
          go_wp2
          go_roundw
          case rel =>
            have e2 : nextW (sched j (first16 bs)) = w32 ((sched j (first16 bs)).getD j 0 + sg0 ((sched j (first16 bs)).getD (j + 1) 0) + (sched j (first16 bs)).getD (j + 9) 0 + sg1 ((sched j (first16 bs)).getD (j + 14) 0)) := by
              unfold nextW
              rw [HLN.out]
              rfl
            have e := sched_succ j (first16 bs)
            rw [e2] at e
            have hfin := (hM2.setw (by omega) HLN.out (by omega) (w32 ((sched j (first16 bs)).getD j 0 + sg0 ((sched j (first16 bs)).getD (j + 1) 0) + (sched j (first16 bs)).getD (j + 9) 0 + sg1 ((sched j (first16 bs)).getD (j + 14) 0)))).drew
            rw [← e] at hfin
            first
              | exact ⟨j + 1, by omega, by go_num, hfin⟩
              | ((repeat apply Exists.intro); exact ⟨⟨j + 1, by omega, by go_num, hfin⟩, rfl⟩)
          case measure => simp [intOf]; omega
        · obtain rfl : j = 48 := by omega
          rw [show ((48 : Nat) : Int) + 16 = 64 from rfl]
          have hmix : mixF s bs = addS s (rounds (kT.zip (sched 48 (first16 bs))) s) := rfl
          have hlen0 : (sched 48 (first16 bs)).length = 64 := hlen
          clear hlen
          generalize sched 48 (first16 bs) = ws at *
          have HMIX := Lib.hid hmix
          have HLN := Lib.hid hlen0
          clear hmix hlen0
          obtain ⟨q0, q1, q2, q3, q4, q5, q6, q7⟩ := cells8 hM.B2
          have hgs := hM.B5.lt
          have hB13 := Box.new2 hM.kp rfl 69 (stV s)
          have hM0 := hM.alloc (.cells (stV s) 69)
          have HGS := Lib.hid (show w.heap.size + 1 + 1 < wr.heap.size from hgs)
          go_wp2
          clear q0 q1 q2 q3 q4 q5 q6 q7 hgs hM
          generalize wr.heap.size = gs at *
          go_loopw [103] (fun i wx => ∃ k : Nat, k ≤ 64 ∧ i = .int .i64 k ∧ MB w wx D (w.heap.size + 1 + 1) (stV s) zero8 ws ∧ Box wx D gs 69 (stV (rounds ((kT.zip ws).take k) s))) (fun i _ => 64 - (intOf i).toNat)
          case atStart => exact ⟨0, by omega, rfl, hM0, hB13⟩
          case round =>
            clear hM0 hB13
            obtain ⟨k, hk64, rfl, hM0, hB⟩ := hrel
            by_cases hlt3 : k < 64
            · have HST := Lib.hid (show rounds ((kT.zip ws).take (k + 1)) s = roundF (rounds ((kT.zip ws).take k) s) (kT.getD k 0) (ws.getD k 0) by
                rw [zip_take_succ _ _ _ (by simp [kT]; omega) (by rw [HLN.out]; exact hlt3), rounds_append])
              generalize rounds ((kT.zip ws).take k) s = st at hB HST
              have hkt := hT k hlt3
              generalize kT.getD k 0 = kk at HST hkt
              obtain ⟨q0, q1, q2, q3, q4, q5, q6, q7⟩ := cells8 hB
              have h64 : (k : Int) < 64 := by omega
              have h00 : (0 : Int) ≤ (k : Int) := by omega
              go_wp2
              go_quiet (fail)
              go_wp2
              clear q0 q1 q2 q3 q4 q5 q6 q7
              have hM1 := hM0.drewN nq
              have hB1 := hB.drewN nq
              clear hM0 hB
              generalize wr.drewN nq = w1 at hM1 hB1 ⊢
              obtain ⟨q0, q1, q2, q3, q4, q5, q6, q7⟩ := cells8 hB1
              have cw := hM1.word (k := k) (by rw [HLN.out]; omega)
              generalize ws.getD k 0 = wk at HST cw
              have ck := hM1.kp 0 k _ hkt
              have hs1 : IntKind.u32.signed = false := rfl
              have hs2 : IntKind.u32.max = 4294967295 := rfl
              go_quiet (first | (go_at_call_of 78 (Value.int IntKind.i64 6); exact Calls.quiet_of_same (rq6 _ _)) | (go_at_call_of 78 (Value.int IntKind.i64 11); exact Calls.quiet_of_same (rq11 _ _)) | (go_at_call_of 78 (Value.int IntKind.i64 25); exact Calls.quiet_of_same (rq25 _ _)))
              clear q0 q1 q2 q3 q4 q5 q6 q7 cw ck
              have hM2 := hM1.drewN nq
              have hB2 := hB1.drewN nq
              clear hM1 hB1
              generalize w1.drewN nq = w2 at hM2 hB2 ⊢
              obtain ⟨q0, q1, q2, q3, q4, q5, q6, q7⟩ := cells8 hB2
              obtain ⟨z0, z1, z2, z3, z4, z5, z6, z7⟩ := frozen8 hB2
              go_wp2_with fail
              refine (rc2 _ _).mono ?_
              rintro e w' ⟨rfl, rfl⟩
              go_wp2_with fail
              refine (rc13 _ _).mono ?_
              rintro e w' ⟨rfl, rfl⟩
              go_wp2_with fail
              refine (rc22 _ _).mono ?_
              rintro e w' ⟨rfl, rfl⟩
              go_wp2
              go_roundw
              case rel =>
                have hf1 := set8_keeps (Q := fun W => MB w W D (w.heap.size + 1 + 1) (stV s) zero8 ws) (g := gs) (fun W o u h => h.far (by have := HGS.out; omega) (by have := HGS.out; omega) hB2.off) hM2 (.int .u32 (w32 (t1F st kk wk + t2F st))) (.int .u32 st.a) (.int .u32 st.b) (.int .u32 st.c) (.int .u32 (w32 (st.d + t1F st kk wk))) (.int .u32 st.e) (.int .u32 st.f) (.int .u32 st.g)
                have hf2 := hB2.set8 (.int .u32 (w32 (t1F st kk wk + t2F st))) (.int .u32 st.a) (.int .u32 st.b) (.int .u32 st.c) (.int .u32 (w32 (st.d + t1F st kk wk))) (.int .u32 st.e) (.int .u32 st.f) (.int .u32 st.g)
                first
                  | exact ⟨k + 1, by omega, by go_num, hf1, by rw [HST.out]; exact hf2⟩
                  | ((repeat apply Exists.intro); exact ⟨⟨k + 1, by omega, by go_num, hf1, by rw [HST.out]; exact hf2⟩, rfl⟩)
              case measure => simp [intOf]; omega
            · obtain rfl : k = 64 := by omega
              rw [show ((64 : Nat) : Int) = 64 from rfl]
              have htk : (kT.zip ws).take 64 = kT.zip ws := List.take_of_length_le (by simp [kT]; omega)
              rw [htk] at hB
              generalize rounds (kT.zip ws) s = tt at hB HMIX
              clear htk
              go_wp2
              go_loopw [181] (fun i wx => ∃ k : Nat, k ≤ 8 ∧ i = .int .i64 k ∧ MB w wx D (w.heap.size + 1 + 1) (lV (addP (stL s) (stL tt) k)) zero8 ws ∧ Box wx D gs 69 (stV tt)) (fun i _ => 8 - (intOf i).toNat)
              case atStart => exact ⟨0, by omega, rfl, hM0, hB⟩
              case round =>
                clear hM0 hB
                obtain ⟨k, hk8, rfl, hM0, hB⟩ := hrel
                by_cases hlt4 : k < 8
                · obtain ⟨ch, fh⟩ := hM0.B2.held (lV_at _ _ _ (addP_at (stL s) (stL tt) k rfl hlt4))
                  have ct := (hB.cell k).trans (lV_at (stL tt) k ((stL tt).getD k 0) (by rw [List.getElem?_eq_getElem (show k < (stL tt).length from hlt4)]; simp [List.getD, List.getElem?_eq_getElem (show k < (stL tt).length from hlt4)]))
                  have HAD := Lib.hid (addP_set (stL s) (stL tt) k rfl hlt4)
                  generalize (stL s).getD k 0 = hx at ch HAD
                  generalize (stL tt).getD k 0 = tx at ct HAD
                  have h64 : (k : Int) < 8 := by omega
                  have h00 : (0 : Int) ≤ (k : Int) := by omega
                  go_wp2
                  go_still_tail 8, (by kernel_rfl)
                  change wpList _ _ _ _ _ wr.drew
                  go_wp2
                  go_roundw
                  case rel =>
                    have hf1 := (hM0.seth (by omega) k (w32 (hx + tx))).drew
                    rw [HAD.out] at hf1
                    have hf2 : Box (wr.setCell ⟨w.heap.size, k, none⟩ (.int .u32 (w32 (hx + tx)))).drew D gs 69 (stV tt) := (Box.far2 (by have := HGS.out; omega) hB).drew
                    first
                      | exact ⟨k + 1, by omega, by go_num, hf1, hf2⟩
                      | ((repeat apply Exists.intro); exact ⟨⟨k + 1, by omega, by go_num, hf1, hf2⟩, rfl⟩)
                  case measure => simp [intOf]; omega
                · obtain rfl : k = 8 := by omega
                  rw [show ((8 : Nat) : Int) = 8 from rfl]
                  rw [addP_end, ← HMIX.out] at hM0
                  generalize hres : mixF s bs = res at hM0
                  have HRES := Lib.hid hres
                  clear hres
                  obtain ⟨q0, q1, q2, q3, q4, q5, q6, q7⟩ := cells8 (s := res) hM0.B2
                  obtain ⟨p0, p1, p2, p3, p4, p5, p6, p7⟩ := cells8 (s := ⟨0, 0, 0, 0, 0, 0, 0, 0⟩) hM0.B4
                  obtain ⟨z0, z1, z2, z3, z4, z5, z6, z7⟩ := frozen8 hM0.B4
                  have hBr := Box.set8 (a := .int .u32 0) (b := .int .u32 0) (c := .int .u32 0) (d := .int .u32 0) (e := .int .u32 0) (f := .int .u32 0) (i := .int .u32 0) (j := .int .u32 0) hM0.B4 (.int .u32 res.a) (.int .u32 res.b) (.int .u32 res.c) (.int .u32 res.d) (.int .u32 res.e) (.int .u32 res.f) (.int .u32 res.g) (.int .u32 res.h)
                  have hBel := set8_keeps (Q := fun W => Below w.heap.size w W) (g := w.heap.size + 1) (fun W o u h => belowSet2 (by omega) h) hM0.bel (.int .u32 res.a) (.int .u32 res.b) (.int .u32 res.c) (.int .u32 res.d) (.int .u32 res.e) (.int .u32 res.f) (.int .u32 res.g) (.int .u32 res.h)
                  go_wp2
                  refine bodyPost_ret (results_cell_row rfl _ _ _ _ _ _ _ rfl hBr.heap Tryd.underlying69 rfl (by kernel_rfl)) rfl ⟨?_, hBel⟩
                  rw [HRES.out]; rfl
end Go.Proofs.YtohknemfcohhfaaDoor
