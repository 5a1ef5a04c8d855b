/-
  What is proved here: the block function of the reference
-/
import Derived.Test.YtohknemfcohhfaaDoorRows
import Derived.Test.YtohknemfcohhfaaDoorBaseC
import Derived.Test.YtohknemfcohhfaaDoorSha
import Derived.Test.YtohknemfcohhfaaDoorDigA
import Derived.Test.YtohknemfcohhfaaDoorDigB
import Derived.Test.YtohknemfcohhfaaDoorDigC
import Derived.Test.YtohknemfcohhfaaDoorDigD
import Derived.Test.YtohknemfcohhfaaDoorDigE
import Derived.Test.YtohknemfcohhfaaDoorDigF
import Derived.Test.YtohknemfcohhfaaDoorDigU
import Derived.Lib.ConvBytes
import Derived.StillTailTactics
import Derived.Lib.AppendZerosOnto
import Derived.Deep.RegionHeld3
import Derived.Deep.MidRow
import Derived.Deep.RegionLaw
import Derived.Deep.DeepCutAuto
import Derived.Deep.QuietTactic
import Derived.BigQuiet
import Derived.Laws.EntriesVeiled
namespace Go.Proofs.YtohknemfcohhfaaDoor
open Go.RowKit Go.VS
theorem MB.belowW {w wr w2 : World} {D : Gh} {g : Nat} {hc r : Array Value} {ws : List Int} (h : MB w wr D g hc r ws) (hb : Below wr.heap.size wr w2) : MB w w2 D g hc r ws :=
  ⟨belowVia hb h.bel, h.kp.below hb (Nat.le_refl _), h.B2.below hb h.B2.lt, h.B4.below hb h.B4.lt, h.B5.below hb h.B5.lt⟩
theorem kt_cell {w : World} {D : Gh} {g k : Nat} (h : Box w D g 92 (warr kT)) (hk : k < 64) : w.cell? ⟨g, k, none⟩ = some (.int .u32 (kT.getD k 0)) := (h.cell k).trans (warr_at kT k hk)
theorem bxor_ff (x : Int) : bits .xor .u32 x 4294967295 = bits .xor .u32 4294967295 x := bxor_comm _ _
/-- the still region, its operations and what follows under letters. -/
theorem still_tail_let {P : Program} {id : Nat} {Q : Exit → Act → World → Prop} {a : Act} {w : World} {l : List Oper} (n : Nat) (hm : P.follows .mixedOrders = true) (hB : Region.lexTailB .any l.toArray n = true)
    (h : ∀ (ops : Array Oper) (Q' : Act → Prop), (∀ a', wpList P ops Q (l.drop n) a' w.drew → Q' a') → wpStill P ops w.drew Q' (l.take n) a) : (Code.region id l.toArray true).wp P Q a w :=
  wp_region_still_tail n hm hB (h l.toArray _ (fun _ h => h))
set_option maxRecDepth 100000 in
set_option maxHeartbeats 4000000 in
theorem rblock_c (s : St) (A : Option Addr) (c : Nat) (bs : List UInt8) (hl : bs.length = 64) (D : Gh) (w : World) (hk : Keeps D w) (hb : BS D (.slice A 64 c) bs) :
    Calls Tryd.prog 52 #[.agg (stV s), .slice A 64 c] w fun e w' => e = .returned (.agg (stV (mixF s bs))) ∧ Below w.heap.size w w' := by
  obtain ⟨hn, hnc, hcm⟩ := hb.len
  unfold maxLen at hcm
  clear hn
  obtain ⟨b, o, rfl, _⟩ := hb.all_ hk (by omega)
  have hww := IntKind.wrap_u32'
  have hk92 : (Tryd.prog.info? 92).map (·.size) = some (warr kT).size := by kernel_rfl
  have hko : (warr kT).all (·.oneCell') = true := by kernel_rfl
  have hz92 : (Tryd.prog.info? 92).map (·.size) = some (warr []).size := by kernel_rfl
  have ho92 : (warr []).all (·.oneCell') = true := by kernel_rfl
  have hB2 : Box (((w.alloc (.cells (stV s) 69)).alloc (.cells zero8 69)).alloc (.cells (warr []) 92)) D w.heap.size 69 (stV s) := ((Box.new hk _ _).alloc _).alloc _
  have hB4 : Box (((w.alloc (.cells (stV s) 69)).alloc (.cells zero8 69)).alloc (.cells (warr []) 92)) D (w.heap.size + 1) 69 zero8 := (Box.new2 (hk.alloc _) (by simp) 69 zero8).alloc _
  have hB5 : Box (((w.alloc (.cells (stV s) 69)).alloc (.cells zero8 69)).alloc (.cells (warr []) 92)) D (w.heap.size + 1 + 1) 92 (warr []) := (Box.new2 ((hk.alloc _).alloc _) (by simp) 92 (warr []))
  have hbel5 : Below w.heap.size w (((w.alloc (.cells (stV s) 69)).alloc (.cells zero8 69)).alloc (.cells (warr []) 92)) := (by repeat (first | (with_reducible exact Below.refl _ _) | (with_reducible refine Below.drew ?_) | (with_reducible refine belowDrewN ?_ _) | (with_reducible refine belowAlloc ?_ _) | ((with_reducible refine belowSet2 ?_ ?_); omega) | (with_reducible assumption) | (with_reducible refine belowVia (by assumption) ?_) | (with_reducible refine belowVia (Grow.below (by assumption)) ?_)))
  have hMs : MB w ((((w.alloc (.cells (stV s) 69)).alloc (.cells zero8 69)).alloc (.cells (warr []) 92)).setRow (w.heap.size + 1 + 1) (warr [])) D (w.heap.size + 1 + 1) (stV s) zero8 ((List.range 0).map (at4 bs)) :=
    ⟨belowRow hbel5 (by omega) _, keepsRow (((hk.alloc _).alloc _).alloc _) hB5.off _, hB2.farRow (by omega) _, hB4.farRow (by omega) _, hB5.setRow _⟩
  clear hB2 hB4 hbel5
  go_enter Tryd.func52, Tryd.ntmps52
  go_wp2_with (refine wpList_store_row rfl 92 _ _ rfl (w.heap.size + 1 + 1) (warr []) rfl rfl 92 (warr []) hB5.heap hz92 rfl ho92 ?_)
  clear hB5
  go_loopw [6] (fun i wr => ∃ k : Nat, k ≤ 16 ∧ i = .int .i64 k ∧ MB w wr D (w.heap.size + 1 + 1) (stV s) zero8 ((List.range k).map (at4 bs))) (fun i _ => 16 - (intOf i).toNat)
  case atStart =>
    exact ⟨0, by omega, rfl, hMs⟩
  case round =>
    clear hMs
    obtain ⟨k, hk16, rfl, hM⟩ := hrel
    by_cases hlt : k < 16
    · obtain ⟨b', o', e1, hc⟩ := hb.all_ hM.kp (by omega)
      cases e1
      have c0 := hc (4 * k) (by omega)
      have c1 := hc (4 * k + 1) (by omega)
      have c2 := hc (4 * k + 2) (by omega)
      have c3 := hc (4 * k + 3) (by omega)
      have HL := Lib.hid hl
      have HC := Lib.hid hc
      clear hl hc
      obtain ⟨qk, fk⟩ := hM.heldw (first_len bs k) (by omega)
      have hw := wrapB
      have h64 : (k : Int) < 64 := by omega
      have h00 : (0 : Int) ≤ (k : Int) := by omega
      have i0 : (4 : Int) * (k : Int) < 64 := by omega
      have i1 : (4 : Int) * (k : Int) + 1 < 64 := by omega
      have i2 : (4 : Int) * (k : Int) + 2 < 64 := by omega
      have i3 : (4 : Int) * (k : Int) + 3 < 64 := by omega
      have n0 : (0 : Int) ≤ 4 * (k : Int) := by omega
      have n1 : (0 : Int) ≤ 4 * (k : Int) + 1 := by omega
      have n2 : (0 : Int) ≤ 4 * (k : Int) + 2 := by omega
      have n3 : (0 : Int) ≤ 4 * (k : Int) + 3 := by omega
      have t0 : (4 * (k : Int)).toNat = 4 * k := by omega
      have t1 : (4 * (k : Int) + 1).toNat = 4 * k + 1 := by omega
      have t2 : (4 * (k : Int) + 2).toNat = 4 * k + 2 := by omega
      have t3 : (4 * (k : Int) + 3).toNat = 4 * k + 3 := by omega
      have w0 : IntKind.i64.wrap (4 * (k : Int)) = 4 * (k : Int) := by rw [IntKind.wrap_i64]; omega
      have w1 : IntKind.i64.wrap (4 * (k : Int) + 1) = 4 * (k : Int) + 1 := by rw [IntKind.wrap_i64]; omega
      have w2 : IntKind.i64.wrap (4 * (k : Int) + 2) = 4 * (k : Int) + 2 := by rw [IntKind.wrap_i64]; omega
      have w3 : IntKind.i64.wrap (4 * (k : Int) + 3) = 4 * (k : Int) + 3 := by rw [IntKind.wrap_i64]; omega
      go_wp2
      refine still_tail_let 35 (by kernel_rfl) (by kernel_rfl) ?_
      intro ops Q' hQ'
      simp only [List.take_succ_cons, List.take_zero, List.drop_succ_cons, List.drop_zero] at hQ' ⊢
      repeat still_step
      refine wpStill_nil (hQ' _ ?_)
      clear hQ' Q'
      go_wp2
      go_roundw
      case rel =>
        refine ⟨k + 1, by omega, by go_num, ?_⟩
        rw [first_succ]
        exact (hM.setw (by omega) (first_len bs k) (by omega) _).drew
      case measure => simp [intOf]; omega
    · obtain rfl : k = 16 := by omega
      rw [show ((16 : Nat) : Int) = 16 from rfl]
      clear hl
      go_wp2
      go_loopw [7] (fun i wx => ∃ j : Nat, j ≤ 48 ∧ i = .int .i64 ((j : Int) + 16) ∧ MB w wx D (w.heap.size + 1 + 1) (stV s) zero8 (sched j (first16 bs))) (fun i _ => 64 - (intOf i).toNat)
      case atStart => exact ⟨0, by omega, rfl, hM⟩
      case round =>
        clear hM
        obtain ⟨j, hj48, rfl, hM⟩ := hrel
        have hlen : (sched j (first16 bs)).length = j + 16 := by rw [sched_len]; simp [first16]; omega
        by_cases hlt2 : j < 48
        · have c1 := hM.word (k := j + 1) (by omega)
          have HLN := Lib.hid hlen
          clear hlen
          have h64 : (j : Int) + 16 < 64 := by omega
          have h00 : (0 : Int) ≤ (j : Int) := by omega
          have h640 : (j : Int) < 64 := by omega
          have h641 : (j : Int) + 1 < 64 := by omega
          have h001 : (0 : Int) ≤ (j : Int) + 1 := by omega
          have h6414 : (j : Int) + 14 < 64 := by omega
          have h0014 : (0 : Int) ≤ (j : Int) + 14 := by omega
          have h649 : (j : Int) + 9 < 64 := by omega
          have h009 : (0 : Int) ≤ (j : Int) + 9 := by omega
          have h016 : (0 : Int) ≤ (j : Int) + 16 := by omega
          have hn1 : ((j : Int) + 1).toNat = j + 1 := by omega
          have hn14 : ((j : Int) + 14).toNat = j + 14 := by omega
          have hn9 : ((j : Int) + 9).toNat = j + 9 := by omega
          have hn16 : ((j : Int) + 16).toNat = j + 16 := by omega
          have hj0 : IntKind.i64.wrap ((j : Int) + 16 - 16) = j := by rw [IntKind.wrap_i64]; omega
          have hj0' : IntKind.i64.wrap (j : Int) = j := by rw [IntKind.wrap_i64]; omega
          have hj1 : IntKind.i64.wrap ((j : Int) + 16 - 15) = j + 1 := by rw [IntKind.wrap_i64]; omega
          have hj14 : IntKind.i64.wrap ((j : Int) + 16 - 2) = j + 14 := by rw [IntKind.wrap_i64]; omega
          have hj9 : IntKind.i64.wrap ((j : Int) + 16 - 7) = j + 9 := by rw [IntKind.wrap_i64]; omega
          go_wp2
          go_quiet (first | (go_at_call_of 79 (Value.int IntKind.i64 7); exact Calls.quiet_of (rrc7 _ _)) | (go_at_call_of 79 (Value.int IntKind.i64 18); exact Calls.quiet_of (rrc18 _ _)))
          have hM1 := hM.drewN nq
          clear c1
          generalize wr.drewN nq = w1 at hM1 ⊢
          have c14 := hM1.word (k := j + 14) (by rw [HLN.out]; omega)
          go_wp2
          go_quiet (first | (go_at_call_of 79 (Value.int IntKind.i64 17); exact Calls.quiet_of (rrc17 _ _)) | (go_at_call_of 79 (Value.int IntKind.i64 19); exact Calls.quiet_of (rrc19 _ _)))
          have hM2 := hM1.drewN nq
          clear c14 hM1
          generalize w1.drewN nq = w2 at hM2 ⊢
          have c0 := hM2.word (k := j) (by rw [HLN.out]; omega)
          have c9 := hM2.word (k := j + 9) (by rw [HLN.out]; omega)
          obtain ⟨qk, fk⟩ := hM2.heldw HLN.out (by omega)
          go_wp2
          go_still_tail 15, (by kernel_rfl)
          change wpList _ _ _ _ _ w2.drew
          go_wp2
          go_roundw
          case rel =>
            have e2 : nextW (sched j (first16 bs)) = w32 ((sched j (first16 bs)).getD j 0 + sg0 ((sched j (first16 bs)).getD (j + 1) 0) + (sched j (first16 bs)).getD (j + 9) 0 + sg1 ((sched j (first16 bs)).getD (j + 14) 0)) := by
              unfold nextW
              rw [HLN.out]
              rfl
            have e := sched_succ j (first16 bs)
            rw [e2] at e
            have hfin := (hM2.setw (by omega) HLN.out (by omega) (w32 ((sched j (first16 bs)).getD j 0 + sg0 ((sched j (first16 bs)).getD (j + 1) 0) + (sched j (first16 bs)).getD (j + 9) 0 + sg1 ((sched j (first16 bs)).getD (j + 14) 0)))).drew
            rw [← e] at hfin
            first
              | exact ⟨j + 1, by omega, by go_num, hfin⟩
              | ((repeat apply Exists.intro); exact ⟨⟨j + 1, by omega, by go_num, hfin⟩, rfl⟩)
          case measure => simp [intOf]; omega
        · obtain rfl : j = 48 := by omega
          rw [show ((48 : Nat) : Int) + 16 = 64 from rfl]
          have hmix : mixF s bs = addS s (rounds (kT.zip (sched 48 (first16 bs))) s) := rfl
          have hlen0 : (sched 48 (first16 bs)).length = 64 := hlen
          clear hlen
          generalize sched 48 (first16 bs) = ws at *
          have HMIX := Lib.hid hmix
          have HLN := Lib.hid hlen0
          clear hmix hlen0
          go_wp2_with fail
          refine (consts_c _).mono ?_
          rintro e wk ⟨rfl, hbk⟩
          have hM1 := hM.belowW hbk
          clear hbk hM
          have hszk : (Tryd.prog.info? 92).map (·.size) = some (warr kT).size := hk92
          have hBk := Box.new2 hM1.kp rfl 92 (warr kT)
          have hM2 := hM1.alloc (.cells (warr kT) 92)
          obtain ⟨q0, q1, q2, q3, q4, q5, q6, q7⟩ := cells8 hM2.B2
          have hgs := hM1.B5.lt
          have hB13 := Box.new2 hM2.kp rfl 69 (stV s)
          have hM0 := hM2.alloc (.cells (stV s) 69)
          have hBk' := hBk.alloc (.cells (stV s) 69)
          have HGS := Lib.hid (show w.heap.size + 1 + 1 < wk.heap.size from hgs)
          go_wp2_with (refine wpList_store_row rfl 92 _ _ rfl wk.heap.size (warr kT) rfl rfl 92 (warr []) (heap_alloc_new wk _) hk92 rfl hko ?_; rw [World.setRow_alloc_new])
          clear q0 q1 q2 q3 q4 q5 q6 q7 hgs hM1 hM2 hBk
          have hszk1 : (wk.alloc (.cells (warr kT) 92)).heap.size = wk.heap.size + 1 := by simp
          rw [hszk1] at hB13
          clear hszk1
          generalize wk.heap.size = gs at *
          go_loopw [12] (fun i wx => ∃ k : Nat, k ≤ 64 ∧ i = .int .i64 k ∧ MB w wx D (w.heap.size + 1 + 1) (stV s) zero8 ws ∧ Box wx D gs 92 (warr kT) ∧ Box wx D (gs + 1) 69 (stV (rounds ((kT.zip ws).take k) s))) (fun i _ => 64 - (intOf i).toNat)
          case atStart => exact ⟨0, by omega, rfl, hM0, hBk', hB13⟩
          case round =>
            clear hM0 hB13 hBk'
            obtain ⟨k, hk64, rfl, hM0, hBk, hB⟩ := hrel
            by_cases hlt3 : k < 64
            · have HST := Lib.hid (show rounds ((kT.zip ws).take (k + 1)) s = roundF (rounds ((kT.zip ws).take k) s) (kT.getD k 0) (ws.getD k 0) by
                rw [zip_take_succ _ _ _ (by simp [kT]; omega) (by rw [HLN.out]; exact hlt3), rounds_append])
              generalize rounds ((kT.zip ws).take k) s = st at hB HST
              obtain ⟨q0, q1, q2, q3, q4, q5, q6, q7⟩ := cells8 hB
              have h64 : (k : Int) < 64 := by omega
              have h00 : (0 : Int) ≤ (k : Int) := by omega
              go_wp2
              go_quiet (first | (go_at_call_of 79 (Value.int IntKind.i64 6); exact Calls.quiet_of (rrc6 _ _)) | (go_at_call_of 79 (Value.int IntKind.i64 11); exact Calls.quiet_of (rrc11 _ _)) | (go_at_call_of 79 (Value.int IntKind.i64 25); exact Calls.quiet_of (rrc25 _ _)))
              clear q0 q1 q2 q3 q4 q5 q6 q7
              have hM1 := hM0.drewN nq
              have hB1 := hB.drewN nq
              have hBk1 := hBk.drewN nq
              clear hM0 hB hBk
              generalize wr.drewN nq = w1 at hM1 hB1 hBk1 ⊢
              obtain ⟨q0, q1, q2, q3, q4, q5, q6, q7⟩ := cells8 hB1
              have hxo := bxor_ff
              go_wp2
              go_quiet (first | (go_at_call_of 79 (Value.int IntKind.i64 2); exact Calls.quiet_of (rrc2 _ _)) | (go_at_call_of 79 (Value.int IntKind.i64 13); exact Calls.quiet_of (rrc13 _ _)) | (go_at_call_of 79 (Value.int IntKind.i64 22); exact Calls.quiet_of (rrc22 _ _)))
              clear q0 q1 q2 q3 q4 q5 q6 q7
              have hM2 := hM1.drewN nq
              have hB2 := hB1.drewN nq
              have hBk2 := hBk1.drewN nq
              clear hM1 hB1 hBk1
              generalize w1.drewN nq = w2 at hM2 hB2 hBk2 ⊢
              obtain ⟨q0, q1, q2, q3, q4, q5, q6, q7⟩ := cells8 hB2
              have cw := hM2.word (k := k) (by rw [HLN.out]; omega)
              have ck := kt_cell hBk2 hlt3
              generalize ws.getD k 0 = wk at HST cw
              generalize kT.getD k 0 = kk at HST ck
              go_wp2
              go_quiet (fail)
              clear q0 q1 q2 q3 q4 q5 q6 q7 cw ck
              have hM3 := hM2.drewN nq
              have hB3 := hB2.drewN nq
              have hBk3 := hBk2.drewN nq
              clear hM2 hB2 hBk2
              generalize w2.drewN nq = w3 at hM3 hB3 hBk3 ⊢
              obtain ⟨q0, q1, q2, q3, q4, q5, q6, q7⟩ := cells8 hB3
              obtain ⟨z0, z1, z2, z3, z4, z5, z6, z7⟩ := frozen8 hB3
              go_wp2
              go_roundw
              case rel =>
                have hne : w.heap.size + 1 < gs + 1 := by have := HGS.out; omega
                have hf1 := set8_keeps (Q := fun W => MB w W D (w.heap.size + 1 + 1) (stV s) zero8 ws) (g := gs + 1) (fun W o u h => h.far (by omega) (by have := HGS.out; omega) hB3.off) hM3 (.int .u32 (w32 (t1F st kk wk + t2F st))) (.int .u32 st.a) (.int .u32 st.b) (.int .u32 st.c) (.int .u32 (w32 (st.d + t1F st kk wk))) (.int .u32 st.e) (.int .u32 st.f) (.int .u32 st.g)
                have hf3 := set8_keeps (Q := fun W => Box W D gs 92 (warr kT)) (g := gs + 1) (fun W o u h => Box.far2 (by omega) h) hBk3 (.int .u32 (w32 (t1F st kk wk + t2F st))) (.int .u32 st.a) (.int .u32 st.b) (.int .u32 st.c) (.int .u32 (w32 (st.d + t1F st kk wk))) (.int .u32 st.e) (.int .u32 st.f) (.int .u32 st.g)
                have hf2 := hB3.set8 (.int .u32 (w32 (t1F st kk wk + t2F st))) (.int .u32 st.a) (.int .u32 st.b) (.int .u32 st.c) (.int .u32 (w32 (st.d + t1F st kk wk))) (.int .u32 st.e) (.int .u32 st.f) (.int .u32 st.g)
                first
                  | exact ⟨k + 1, by omega, by go_num, hf1, hf3, by rw [HST.out]; exact hf2⟩
                  | ((repeat apply Exists.intro); exact ⟨⟨k + 1, by omega, by go_num, hf1, hf3, by rw [HST.out]; exact hf2⟩, rfl⟩)
              case measure => simp [intOf]; omega
            · obtain rfl : k = 64 := by omega
              rw [show ((64 : Nat) : Int) = 64 from rfl]
              have htk : (kT.zip ws).take 64 = kT.zip ws := List.take_of_length_le (by simp [kT]; omega)
              rw [htk] at hB
              generalize rounds (kT.zip ws) s = tt at hB HMIX
              clear htk hBk
              go_wp2
              go_loopw [19] (fun i wx => ∃ k : Nat, k ≤ 8 ∧ i = .int .i64 k ∧ MB w wx D (w.heap.size + 1 + 1) (lV (addP (stL s) (stL tt) k)) zero8 ws ∧ Box wx D (gs + 1) 69 (stV tt)) (fun i _ => 8 - (intOf i).toNat)
              case atStart => exact ⟨0, by omega, rfl, hM0, hB⟩
              case round =>
                clear hM0 hB
                obtain ⟨k, hk8, rfl, hM0, hB⟩ := hrel
                by_cases hlt4 : k < 8
                · obtain ⟨ch, fh⟩ := hM0.B2.held (lV_at _ _ _ (addP_at (stL s) (stL tt) k rfl hlt4))
                  have ct := (hB.cell k).trans (lV_at (stL tt) k ((stL tt).getD k 0) (by rw [List.getElem?_eq_getElem (show k < (stL tt).length from hlt4)]; simp [List.getD, List.getElem?_eq_getElem (show k < (stL tt).length from hlt4)]))
                  have HAD := Lib.hid (addP_set (stL s) (stL tt) k rfl hlt4)
                  generalize (stL s).getD k 0 = hx at ch HAD
                  generalize (stL tt).getD k 0 = tx at ct HAD
                  have h64 : (k : Int) < 8 := by omega
                  have h00 : (0 : Int) ≤ (k : Int) := by omega
                  go_wp2
                  go_still_tail 9, (by kernel_rfl)
                  change wpList _ _ _ _ _ wr.drew
                  go_wp2
                  go_roundw
                  case rel =>
                    have hf1 := (hM0.seth (by omega) k (w32 (hx + tx))).drew
                    rw [HAD.out] at hf1
                    have hf2 : Box (wr.setCell ⟨w.heap.size, k, none⟩ (.int .u32 (w32 (hx + tx)))).drew D (gs + 1) 69 (stV tt) := (Box.far2 (by have := HGS.out; omega) hB).drew
                    first
                      | exact ⟨k + 1, by omega, by go_num, hf1, hf2⟩
                      | ((repeat apply Exists.intro); exact ⟨⟨k + 1, by omega, by go_num, hf1, hf2⟩, rfl⟩)
                  case measure => simp [intOf]; omega
                · obtain rfl : k = 8 := by omega
                  rw [show ((8 : Nat) : Int) = 8 from rfl]
                  rw [addP_end, ← HMIX.out] at hM0
                  generalize hres : mixF s bs = res at hM0
                  have HRES := Lib.hid hres
                  clear hres
                  obtain ⟨q0, q1, q2, q3, q4, q5, q6, q7⟩ := cells8 (s := res) hM0.B2
                  obtain ⟨p0, p1, p2, p3, p4, p5, p6, p7⟩ := cells8 (s := ⟨0, 0, 0, 0, 0, 0, 0, 0⟩) hM0.B4
                  obtain ⟨z0, z1, z2, z3, z4, z5, z6, z7⟩ := frozen8 hM0.B4
                  have hBr := Box.set8 (a := .int .u32 0) (b := .int .u32 0) (c := .int .u32 0) (d := .int .u32 0) (e := .int .u32 0) (f := .int .u32 0) (i := .int .u32 0) (j := .int .u32 0) hM0.B4 (.int .u32 res.a) (.int .u32 res.b) (.int .u32 res.c) (.int .u32 res.d) (.int .u32 res.e) (.int .u32 res.f) (.int .u32 res.g) (.int .u32 res.h)
                  have hBel := set8_keeps (Q := fun W => Below w.heap.size w W) (g := w.heap.size + 1) (fun W o u h => belowSet2 (by omega) h) hM0.bel (.int .u32 res.a) (.int .u32 res.b) (.int .u32 res.c) (.int .u32 res.d) (.int .u32 res.e) (.int .u32 res.f) (.int .u32 res.g) (.int .u32 res.h)
                  go_wp2
                  refine bodyPost_ret (results_cell_row rfl _ _ _ _ _ _ _ rfl hBr.heap Tryd.underlying69 rfl (by kernel_rfl)) rfl ⟨?_, hBel⟩
                  rw [HRES.out]; rfl
end Go.Proofs.YtohknemfcohhfaaDoor
