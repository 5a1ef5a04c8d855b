/-
  What is proved here: the walk of WalRoom
-/
import Derived.Test.YtegkmkglagmdiaaRows
import Derived.Test.YtegkmkglagmdiaaBaseB
import Derived.Test.YtegkmkglagmdiaaCrc
import Derived.Test.YtegkmkglagmdiaaWalP
import Derived.Test.YtegkmkglagmdiaaWalA
import Derived.Test.YtegkmkglagmdiaaWalB
import Derived.Test.YtegkmkglagmdiaaWalC
import Derived.Test.YtegkmkglagmdiaaWalD
import Derived.Test.YtegkmkglagmdiaaWalE
import Derived.Test.YtegkmkglagmdiaaDiskF
import Derived.Test.YtegkmkglagmdiaaDiskH
import Derived.Test.YtegkmkglagmdiaaWalF
import Derived.Test.YtegkmkglagmdiaaRangeF
import Derived.Test.YtegkmkglagmdiaaWalG
import Derived.Test.YtegkmkglagmdiaaWalH
import Derived.Test.YtegkmkglagmdiaaWalI
import Derived.Test.YtegkmkglagmdiaaWalJ
import Derived.Test.YtegkmkglagmdiaaWalK
import Derived.Test.YtegkmkglagmdiaaWalL
import Derived.Test.YtegkmkglagmdiaaWalS
import Derived.Test.YtegkmkglagmdiaaWalT
import Derived.Test.YtegkmkglagmdiaaWalU
import Derived.Test.YtegkmkglagmdiaaWalV
import Derived.Test.YtegkmkglagmdiaaDiskI
import Derived.OwnWalkIn
import Derived.TacticsInMore
import Derived.LoopNIn
import Derived.LoopIn
import Derived.Scope
import Derived.StillTailTactics
import Derived.Shelf.Abstract
import Derived.RangeFuncCalls
import Derived.Laws.BitsAllLaws
import Derived.Deep.RegionHeld3
import Derived.Deep.RegionLaw
import Derived.Deep.DeepCutAuto
import Derived.Deep.QuietTactic
import Derived.BigQuiet
import Derived.Laws.EntriesVeiled
import Derived.Deep.MidRow
import Derived.Laws.CopyRow
namespace Go.Proofs.Ytegkmkglagmdiaa
open Go.RowKit Go.VS
theorem ss_ghost {D : Gh} {a : Option Addr} {n c : Nat} {xs : List (List UInt8)} (h : SS D (.slice a n c) xs) {k : Nat} (hlt : k < xs.length) :
    ∃ b o a' c', a = some ⟨b, o, none⟩ ∧ D b (o + k) = some (.slice a' xs[k].length c') ∧ BS D (.slice a' xs[k].length c') xs[k] := by
  obtain ⟨vs, hs, hl, hb⟩ := h
  obtain ⟨a', c', hv, h1, h2, h3, h4⟩ := hs
  cases hv
  obtain ⟨b, o, ha, hcc⟩ := h4 (by omega)
  have hv : vs[k]? = some vs[k] := List.getElem?_eq_getElem (by omega)
  have hbs := hb k _ _ (List.getElem?_eq_getElem hlt) hv
  obtain ⟨a', c', hv', _⟩ := hbs.form
  refine ⟨b, o, a', c', ha, ?_, hv' ▸ hbs⟩
  rw [hcc k _ hv, hv']
set_option maxRecDepth 100000 in
set_option maxHeartbeats 20000000 in
theorem room_walk (A : Option Addr) (n c : Nat) (xs : List (List UInt8)) (f m s : Int) (Ab : Option Addr) (nb cb : Nat) (b : List UInt8) (D : Gh) (w : World) (hk : Keeps D w) (hs : SS D (.slice A n c) xs) (hb : BS D (.slice Ab nb cb) b) (hn43 : n ≤ 8796093022208) :
    Calls Try.prog 10 #[.agg #[.int .i64 f, .int .i64 m, .slice A n c, .int .i64 s], .slice Ab nb cb] w fun e w' => e = .returned (.bool true) ∧ Below w.heap.size w w' := by
  obtain ⟨D1, hg1, hle1, hat1⟩ := newvar (Grow.refl hk) 47 #[.int .i64 f, .int .i64 m, .slice A n c, .int .i64 s]
  have HAT1 := Lib.hid hat1
  clear hat1
  go_enter Try.func10, Try.ntmps10
  go_wp2_with fail
  refine (sane42_c _).mono ?_
  rintro e w1 ⟨rfl, hb1⟩
  have hG1 := hg1.trans (Grow.of_below hg1.keeps hb1)
  clear hb1
  have hkc := hG1.keeps
  have q0 : w1.cell? ⟨w.heap.size, 0, none⟩ = some (.int .i64 f) := hkc _ _ _ (HAT1.out 0 _ rfl)
  have q1 : w1.cell? ⟨w.heap.size, 1, none⟩ = some (.int .i64 m) := hkc _ _ _ (HAT1.out 1 _ rfl)
  have q2 : w1.cell? ⟨w.heap.size, 2, none⟩ = some (.slice A n c) := hkc _ _ _ (HAT1.out 2 _ rfl)
  have q3 : w1.cell? ⟨w.heap.size, 3, none⟩ = some (.int .i64 s) := hkc _ _ _ (HAT1.out 3 _ rfl)
  go_wp2_with fail
  refine (few42_c none 0 0 0 0 false A n c xs D1 w1 hG1.keeps (hs.le hle1)).mono ?_
  rintro e w2 ⟨⟨r, rfl⟩, hb2⟩
  have hG2 := hG1.trans (Grow.of_below hG1.keeps hb2)
  clear hb2 hkc q0 q1 q2 q3
  cases r
  · go_wp2_with fail
    go_ret
    exact ⟨rfl, hG2.below⟩
  by_cases h70 : 70000 < nb
  · have g1 : decide (70000 < (nb : Int)) = true := by simp; omega
    go_wp2_with fail
    go_ret
    exact ⟨rfl, hG2.below⟩
  have g1 : decide (70000 < (nb : Int)) = false := by simp; omega
  have hkc := hG2.keeps
  have q0 : w2.cell? ⟨w.heap.size, 0, none⟩ = some (.int .i64 f) := hkc _ _ _ (HAT1.out 0 _ rfl)
  have q1 : w2.cell? ⟨w.heap.size, 1, none⟩ = some (.int .i64 m) := hkc _ _ _ (HAT1.out 1 _ rfl)
  have q2 : w2.cell? ⟨w.heap.size, 2, none⟩ = some (.slice A n c) := hkc _ _ _ (HAT1.out 2 _ rfl)
  have q3 : w2.cell? ⟨w.heap.size, 3, none⟩ = some (.int .i64 s) := hkc _ _ _ (HAT1.out 3 _ rfl)
  go_wp2_with fail
  refine (logcheck_c A n c xs f m s D1 w2 hG2.keeps (hs.le hle1) hn43).mono ?_
  rintro e w3 ⟨rfl, hb3⟩
  have hG3 := hG2.trans (Grow.of_below hG2.keeps hb3)
  clear hb3 hkc q0 q1 q2 q3
  rcases chkL01 f m xs s with hc | hc
  · rw [hc]
    obtain ⟨hf0, hm1, hm2, _, _, hs2, hx, ho⟩ := chkL_zero hc
    have hn4 : n ≤ 4096 := by have := hs.len.1; have := occs_ge xs; omega
    have HRM := Lib.hid (show roomF f m xs s = min (112 * (m - (occs xs : Nat))) 65536 by unfold roomF; rw [if_pos hc])
    have HC := Lib.hid hc
    have HX := Lib.hid hx
    have HO := Lib.hid ho
    clear hc hx ho hs2
    have hkc := hG3.keeps
    have q0 : w3.cell? ⟨w.heap.size, 0, none⟩ = some (.int .i64 f) := hkc _ _ _ (HAT1.out 0 _ rfl)
    have q1 : w3.cell? ⟨w.heap.size, 1, none⟩ = some (.int .i64 m) := hkc _ _ _ (HAT1.out 1 _ rfl)
    have q2 : w3.cell? ⟨w.heap.size, 2, none⟩ = some (.slice A n c) := hkc _ _ _ (HAT1.out 2 _ rfl)
    have q3 : w3.cell? ⟨w.heap.size, 3, none⟩ = some (.int .i64 s) := hkc _ _ _ (HAT1.out 3 _ rfl)
    by_cases hfit : nb ≤ 65536 ∧ (occ nb : Int) ≤ m - occs xs
    · obtain ⟨hl, hf2⟩ := hfit
      have hbn := hb.len.1
      have HBN := Lib.hid hbn
      have HC2 := Lib.hid (show chkL f m (xs ++ [b]) s = 0 from by
        obtain ⟨h1, h2, h3, h4, h5, h6, h7, h8⟩ := chkL_zero HC.out
        refine chkL_ok ⟨h1, h2, h3, h4, h5, by rw [List.length_append]; simp; omega, fun x hx => ?_, ?_⟩
        · rcases List.mem_append.1 hx with h | h
          · exact h7 x h
          · rw [List.mem_singleton.1 h, ← hbn]; exact hl
        · rw [occs_append, show occs [b] = occ nb by simp [occs, ← hbn]]; omega)
      have HRM2 := Lib.hid (show roomF f m (xs ++ [b]) s = min (112 * (m - ((occs xs + occ nb : Nat) : Int))) 65536 from by unfold roomF; rw [if_pos HC2.out, occs_append, show occs [b] = occ nb by simp [occs, ← hbn]])
      have hro : 0 < roomF f m xs s ∧ (nb : Int) ≤ roomF f m xs s ∧ roomF f m (xs ++ [b]) s ≤ roomF f m xs s := by
        rw [HRM.out, HRM2.out]
        unfold occ at hf2 ⊢
        omega
      have HF2 := Lib.hid hf2
      clear hbn hf2
      go_wp2_with fail
      refine (append_ok A n c xs f m s Ab nb cb b D1 w3 hG3.keeps (hs.le hle1) (hb.le hle1) HC.out hl HF2.out).mono ?_
      rintro e w4 ⟨A4, c4, D4, rfl, hg4, hs4⟩
      have hG4 := hG3.trans hg4
      obtain ⟨D5, hg5, hle5, hat5⟩ := newvar hG4 47 #[.int .i64 f, .int .i64 m, .slice A4 (n + 1) c4, .int .i64 s]
      have HAT5 := Lib.hid hat5
      have hl15 := hg4.le.trans hle5
      clear hat5 hkc q0 q1 q2 q3
      have hkc := hg5.keeps
      have q0 : (w4.alloc (.cells #[.int .i64 f, .int .i64 m, .slice A4 (n + 1) c4, .int .i64 s] 47)).cell? ⟨w.heap.size, 0, none⟩ = some (.int .i64 f) := hkc _ _ _ (hl15 _ _ _ (HAT1.out 0 _ rfl))
      have q1 : (w4.alloc (.cells #[.int .i64 f, .int .i64 m, .slice A4 (n + 1) c4, .int .i64 s] 47)).cell? ⟨w.heap.size, 1, none⟩ = some (.int .i64 m) := hkc _ _ _ (hl15 _ _ _ (HAT1.out 1 _ rfl))
      have q2 : (w4.alloc (.cells #[.int .i64 f, .int .i64 m, .slice A4 (n + 1) c4, .int .i64 s] 47)).cell? ⟨w.heap.size, 2, none⟩ = some (.slice A n c) := hkc _ _ _ (hl15 _ _ _ (HAT1.out 2 _ rfl))
      have q3 : (w4.alloc (.cells #[.int .i64 f, .int .i64 m, .slice A4 (n + 1) c4, .int .i64 s] 47)).cell? ⟨w.heap.size, 3, none⟩ = some (.int .i64 s) := hkc _ _ _ (hl15 _ _ _ (HAT1.out 3 _ rfl))
      go_wp2_with fail
      refine (room_c A n c xs f m s D5 _ hg5.keeps ((hs.le hle1).le hl15) hn43).mono ?_
      rintro e w6 ⟨rfl, hb6⟩
      have hG6 := hg5.trans (Grow.of_below hg5.keeps hb6)
      have hs5 := hs4.le hle5
      have hlx := hs5.len.1
      have hnx : n < (xs ++ [b]).length := by omega
      obtain ⟨bz, oz, az, cz, rfl, hcz, hbz⟩ := ss_ghost hs5 (k := n) hnx
      have hxb : (xs ++ [b])[n] = b := by
        have hln : xs.length = n := by rw [List.length_append] at hlx; simp at hlx; omega
        subst hln
        simp
      rw [hxb, ← HBN.out] at hcz hbz
      have HCZ := Lib.hid hcz
      have hs4c := hs5.len.2.1
      have HTK := Lib.hid (show (xs ++ [b]).take n = xs from by
        have hln : xs.length = n := by rw [List.length_append] at hlx; simp at hlx; omega
        subst hln
        simp)
      have hs5t := take_ss hs5 n (by omega)
      rw [HTK.out] at hs5t
      have HSM := Lib.hid (fun W (hW : Keeps D5 W) => sameR_c (some ⟨bz, oz, none⟩) A n c4 n c xs xs D5 W hW hs5t ((hs.le hle1).le hl15))
      have HCK := Lib.hid (fun W (hW : Keeps D5 W) => logcheck_c (some ⟨bz, oz, none⟩) (n + 1) c4 (xs ++ [b]) f m s D5 W hW hs5 (by omega))
      rw [HC2.out] at HCK
      have HRO2 := Lib.hid (fun W (hW : Keeps D5 W) => room_c (some ⟨bz, oz, none⟩) (n + 1) c4 (xs ++ [b]) f m s D5 W hW hs5 (by omega))
      rw [decide_eq_true rfl] at HSM
      clear hkc q0 q1 q2 q3 hb6 HRM HRM2 hxb hlx hnx
      generalize roomF f m (xs ++ [b]) s = rm2 at *
      generalize roomF f m xs s = rm at *
      obtain ⟨ho1, ho2, ho3⟩ := hro
      have g7 : decide (0 < rm) = true := by simp; omega
      have g8 : decide ((nb : Int) ≤ rm) = true := by simp; omega
      have g9 : decide (rm2 ≤ rm) = true := by simp; omega
      have hcs := hb.le (hle1.trans hl15)
      generalize hsx : str b = sx at *
      have ez1 : ∀ W, Keeps D5 W → (convert 32 9 (.slice az nb cz)).run Try.prog W = .ok (.string sx) W := fun W hW => by rw [← hsx]; exact run_string_bs (P := Try.prog) hW Try.underlying32 Try.underlying5 Try.underlying9 hbz
      have ez2 : ∀ W, Keeps D5 W → (convert 32 9 (.slice Ab nb cb)).run Try.prog W = .ok (.string sx) W := fun W hW => by rw [← hsx]; exact run_string_bs (P := Try.prog) hW Try.underlying32 Try.underlying5 Try.underlying9 hcs
      have gst : (sx.toList == sx.toList) = true := by simp
      have SH : Hid (∀ W, Keeps D5 W → (Keeps D5 W ∧ W.cell? ⟨w.heap.size, 0, none⟩ = some (.int .i64 f) ∧ W.cell? ⟨w.heap.size, 1, none⟩ = some (.int .i64 m) ∧ W.cell? ⟨w.heap.size, 2, none⟩ = some (.slice A n c) ∧ W.cell? ⟨w.heap.size, 3, none⟩ = some (.int .i64 s) ∧ W.cell? ⟨w4.heap.size, 0, none⟩ = some (.int .i64 f) ∧ W.cell? ⟨w4.heap.size, 1, none⟩ = some (.int .i64 m) ∧ W.cell? ⟨w4.heap.size, 2, none⟩ = some (.slice (some ⟨bz, oz, none⟩) (n + 1) c4) ∧ W.cell? ⟨w4.heap.size, 3, none⟩ = some (.int .i64 s) ∧ W.cell? ⟨bz, oz + n, none⟩ = some (.slice az nb cz))) := fun W hkc => ⟨hkc, hkc _ _ _ (hl15 _ _ _ (HAT1.out 0 _ rfl)), hkc _ _ _ (hl15 _ _ _ (HAT1.out 1 _ rfl)), hkc _ _ _ (hl15 _ _ _ (HAT1.out 2 _ rfl)), hkc _ _ _ (hl15 _ _ _ (HAT1.out 3 _ rfl)), hkc _ _ _ (HAT5.out 0 _ rfl), hkc _ _ _ (HAT5.out 1 _ rfl), hkc _ _ _ (HAT5.out 2 _ rfl), hkc _ _ _ (HAT5.out 3 _ rfl), hkc _ _ _ HCZ.out⟩
      have hk6 : Keeps D5 w6 := hG6.keeps
      have HGB := Lib.hid hG6.below
      clear hsx hbz hcs hs5 hs5t hcz hs4
      obtain ⟨_, q0, q1, q2, q3, p0, p1, p2, p3, pz⟩ := SH.out _ hk6
      go_wp2_with fail
      have gn : (n : Int) ≤ (c4 : Int) := by have := hs4c; omega
      have gn' : n ≤ c4 := by have := hs4c; omega
      have gi0 : (0 : Int) ≤ (n : Int) := by omega
      have gw : IntKind.i64.wrap ((n : Int) + 1) = (n : Int) + 1 := by rw [IntKind.wrap_i64]; omega
      have gbf : (f == f) = true := by simp
      have gbm : (m == m) = true := by simp
      have gbs : (s == s) = true := by simp
      have gbn : ((n : Int) + 1 == (n : Int) + 1) = true := by simp
      have gi1 : (n : Int) < (n : Int) + 1 := by omega
      go_region_held3 (fun W => Keeps D5 W ∧ W.cell? ⟨w.heap.size, 0, none⟩ = some (.int .i64 f) ∧ W.cell? ⟨w.heap.size, 1, none⟩ = some (.int .i64 m) ∧ W.cell? ⟨w.heap.size, 2, none⟩ = some (.slice A n c) ∧ W.cell? ⟨w.heap.size, 3, none⟩ = some (.int .i64 s) ∧ W.cell? ⟨w4.heap.size, 0, none⟩ = some (.int .i64 f) ∧ W.cell? ⟨w4.heap.size, 1, none⟩ = some (.int .i64 m) ∧ W.cell? ⟨w4.heap.size, 2, none⟩ = some (.slice (some ⟨bz, oz, none⟩) (n + 1) c4) ∧ W.cell? ⟨w4.heap.size, 3, none⟩ = some (.int .i64 s) ∧ W.cell? ⟨bz, oz + n, none⟩ = some (.slice az nb cz))
        (first | (refine SH.out _ ?_; (exact (by repeat (with_reducible first | assumption | refine Keeps.drew ?_ | refine Keeps.drewN ?_ _ | refine Keeps.alloc ?_ _ | exact Grow.keeps (by assumption)))); done) | go_keep)
        (first
          | (go_at_call 37; refine (HCK.out _ (by repeat (with_reducible first | assumption | refine Keeps.drew ?_ | refine Keeps.drewN ?_ _ | refine Keeps.alloc ?_ _ | exact Grow.keeps (by assumption)))).mono ?_; rintro e y1 ⟨rfl, hy1⟩; have ky1 : Keeps D5 y1 := Keeps.below (by repeat (with_reducible first | assumption | refine Keeps.drew ?_ | refine Keeps.drewN ?_ _ | refine Keeps.alloc ?_ _ | exact Grow.keeps (by assumption))) hy1 (Nat.le_refl _))
          | (go_at_call 42; refine (HSM.out _ (by repeat (with_reducible first | assumption | refine Keeps.drew ?_ | refine Keeps.drewN ?_ _ | refine Keeps.alloc ?_ _ | exact Grow.keeps (by assumption)))).mono ?_; rintro e y2 ⟨rfl, q2, rfl⟩)
          | (go_at_call 39; refine (HRO2.out _ (by repeat (with_reducible first | assumption | refine Keeps.drew ?_ | refine Keeps.drewN ?_ _ | refine Keeps.alloc ?_ _ | exact Grow.keeps (by assumption)))).mono ?_; rintro e y3 ⟨rfl, hy3⟩; have ky3 : Keeps D5 y3 := Keeps.below (by repeat (with_reducible first | assumption | refine Keeps.drew ?_ | refine Keeps.drewN ?_ _ | refine Keeps.alloc ?_ _ | exact Grow.keeps (by assumption))) hy3 (Nat.le_refl _)))
      have hG6b := HGB.out
      go_wp2_with fail
      go_ret
      exact ⟨rfl, (by repeat (first | (with_reducible exact Below.refl _ _) | (with_reducible refine Below.drew ?_) | (with_reducible refine belowDrewN ?_ _) | (with_reducible refine belowAlloc ?_ _) | ((with_reducible refine belowSet2 ?_ ?_); omega) | (with_reducible assumption) | (with_reducible refine belowVia (by assumption) ?_) | (with_reducible refine belowVia (Grow.below (by assumption)) ?_)))⟩
    · have hro : ¬ (0 < roomF f m xs s ∧ (nb : Int) ≤ roomF f m xs s) := by
        rw [HRM.out]
        rintro ⟨h1, h2⟩
        apply hfit
        unfold occ
        omega
      have HFIT := Lib.hid hfit
      have HRO := Lib.hid hro
      clear hfit hro
      go_wp2_with fail
      refine (append_lim_ A n c xs f m s Ab nb cb D1 w3 hG3.keeps (hs.le hle1) HC.out HFIT.out (by omega)).mono ?_
      rintro e w4 ⟨rfl, hb4⟩
      have hG4 := hG3.trans (Grow.of_below hG3.keeps hb4)
      obtain ⟨D5, hg5, hle5, hat5⟩ := newvar hG4 47 #[.int .i64 0, .int .i64 0, .slice none 0 0, .int .i64 0]
      have HAT5 := Lib.hid hat5
      clear hat5 hb4 hkc q0 q1 q2 q3
      have hkc := hg5.keeps
      have q0 : (w4.alloc (.cells #[.int .i64 0, .int .i64 0, .slice none 0 0, .int .i64 0] 47)).cell? ⟨w.heap.size, 0, none⟩ = some (.int .i64 f) := hkc _ _ _ (hle5 _ _ _ (HAT1.out 0 _ rfl))
      have q1 : (w4.alloc (.cells #[.int .i64 0, .int .i64 0, .slice none 0 0, .int .i64 0] 47)).cell? ⟨w.heap.size, 1, none⟩ = some (.int .i64 m) := hkc _ _ _ (hle5 _ _ _ (HAT1.out 1 _ rfl))
      have q2 : (w4.alloc (.cells #[.int .i64 0, .int .i64 0, .slice none 0 0, .int .i64 0] 47)).cell? ⟨w.heap.size, 2, none⟩ = some (.slice A n c) := hkc _ _ _ (hle5 _ _ _ (HAT1.out 2 _ rfl))
      have q3 : (w4.alloc (.cells #[.int .i64 0, .int .i64 0, .slice none 0 0, .int .i64 0] 47)).cell? ⟨w.heap.size, 3, none⟩ = some (.int .i64 s) := hkc _ _ _ (hle5 _ _ _ (HAT1.out 3 _ rfl))
      go_wp2_with fail
      refine (room_c A n c xs f m s D5 _ hg5.keeps ((hs.le hle1).le hle5) hn43).mono ?_
      rintro e w6 ⟨rfl, hb6⟩
      have hG6 := hg5.trans (Grow.of_below hg5.keeps hb6)
      clear hkc q0 q1 q2 q3 hb6 HRM
      generalize roomF f m xs s = rm at *
      have hro := HRO.out
      have hkc := hG6.keeps
      have p2 : w6.cell? ⟨w4.heap.size, 2, none⟩ = some (.slice none 0 0) := hkc _ _ _ (HAT5.out 2 _ rfl)
      by_cases hr0 : 0 < rm
      · have hnr : ¬ (nb : Int) ≤ rm := fun h => hro ⟨hr0, h⟩
        clear hro
        have g7 : decide (0 < rm) = true := by simp; omega
        have g8 : decide ((nb : Int) ≤ rm) = false := by simp; omega
        go_wp2_with fail
        go_ret
        exact ⟨rfl, hG6.below⟩
      · clear hro
        have g7 : decide (0 < rm) = false := by simp; omega
        go_wp2_with fail
        go_ret
        exact ⟨rfl, hG6.below⟩
  · rw [hc]
    go_wp2_with fail
    go_ret
    exact ⟨rfl, hG3.below⟩
end Go.Proofs.Ytegkmkglagmdiaa
