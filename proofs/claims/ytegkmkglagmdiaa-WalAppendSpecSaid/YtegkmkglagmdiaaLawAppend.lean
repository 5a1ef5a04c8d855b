/-
  What is proved here: the law WalAppendSpec answers true at every log and record
-/
import Derived.Test.YtegkmkglagmdiaaRows
import Derived.Test.YtegkmkglagmdiaaBaseB
import Derived.Test.YtegkmkglagmdiaaCrc
import Derived.Test.YtegkmkglagmdiaaWalP
import Derived.Test.YtegkmkglagmdiaaWalA
import Derived.Test.YtegkmkglagmdiaaWalB
import Derived.Test.YtegkmkglagmdiaaWalC
import Derived.Test.YtegkmkglagmdiaaWalD
import Derived.Test.YtegkmkglagmdiaaWalE
import Derived.Test.YtegkmkglagmdiaaDiskF
import Derived.Test.YtegkmkglagmdiaaDiskH
import Derived.Test.YtegkmkglagmdiaaWalF
import Derived.Test.YtegkmkglagmdiaaRangeF
import Derived.Test.YtegkmkglagmdiaaWalG
import Derived.Test.YtegkmkglagmdiaaWalH
import Derived.Test.YtegkmkglagmdiaaWalI
import Derived.Test.YtegkmkglagmdiaaWalJ
import Derived.Test.YtegkmkglagmdiaaWalK
import Derived.Test.YtegkmkglagmdiaaWalL
import Derived.Test.YtegkmkglagmdiaaWalS
import Derived.Test.YtegkmkglagmdiaaWalT
import Derived.Test.YtegkmkglagmdiaaWalU
import Derived.Test.YtegkmkglagmdiaaWalV
import Derived.Test.YtegkmkglagmdiaaWalW
import Derived.Test.YtegkmkglagmdiaaWalX
import Derived.Test.YtegkmkglagmdiaaWalY
import Derived.Test.YtegkmkglagmdiaaDiskI
import Derived.OwnWalkIn
import Derived.TacticsInMore
import Derived.LoopNIn
import Derived.LoopIn
import Derived.Scope
import Derived.StillTailTactics
import Derived.Shelf.Abstract
import Derived.RangeFuncCalls
import Derived.Laws.BitsAllLaws
import Derived.Deep.RegionHeld3
import Derived.Deep.RegionLaw
import Derived.Deep.DeepCutAuto
import Derived.Deep.QuietTactic
import Derived.BigQuiet
import Derived.Laws.EntriesVeiled
import Derived.Deep.MidRow
import Derived.Laws.CopyRow
namespace Go.Proofs.Ytegkmkglagmdiaa
open Go.RowKit Go.VS
theorem append_bad_ (A : Option Addr) (n c : Nat) (xs : List (List UInt8)) (f m s : Int) (Ab : Option Addr) (nb cb : Nat) (D : Gh) (w : World) (hk : Keeps D w) (hs : SS D (.slice A n c) xs) (hn43 : n ≤ 8796093022208) (hc : chkL f m xs s = 1) :
    Calls Try.prog 35 #[.agg #[.int .i64 f, .int .i64 m, .slice A n c, .int .i64 s], .slice Ab nb cb] w fun e w' => e = .returned (.tuple #[.agg #[.int .i64 0, .int .i64 0, .slice none 0 0, .int .i64 0], .int .i64 1]) ∧ Below w.heap.size w w' :=
  append_bad A n c xs f m s _ D w hk hs hn43 hc ⟨_, _, _, rfl⟩
theorem rappend_bad_ (A : Option Addr) (n c : Nat) (xs : List (List UInt8)) (f m s : Int) (Ab : Option Addr) (nb cb : Nat) (D : Gh) (w : World) (hk : Keeps D w) (hs : SS D (.slice A n c) xs) (hn43 : n ≤ 8796093022208) (hc : chkL f m xs s = 1) :
    Calls Try.prog 36 #[.agg #[.int .i64 f, .int .i64 m, .slice A n c, .int .i64 s], .slice Ab nb cb] w fun e w' => e = .returned (.tuple #[.agg #[.int .i64 0, .int .i64 0, .slice none 0 0, .int .i64 0], .int .i64 1]) ∧ Below w.heap.size w w' :=
  rappend_bad A n c xs f m s _ D w hk hs hn43 hc ⟨_, _, _, rfl⟩
theorem rappend_lim_ (A : Option Addr) (n c : Nat) (xs : List (List UInt8)) (f m s : Int) (Ab : Option Addr) (nb cb : Nat) (D : Gh) (w : World) (hk : Keeps D w) (hs : SS D (.slice A n c) xs) (hc : chkL f m xs s = 0)
    (hlim : ¬ (nb ≤ 65536 ∧ (occ nb : Int) ≤ m - occs xs)) (hnb : nb ≤ 1000000000000) :
    Calls Try.prog 36 #[.agg #[.int .i64 f, .int .i64 m, .slice A n c, .int .i64 s], .slice Ab nb cb] w fun e w' => e = .returned (.tuple #[.agg #[.int .i64 0, .int .i64 0, .slice none 0 0, .int .i64 0], .int .i64 2]) ∧ Below w.heap.size w w' :=
  rappend_lim A n c xs f m s Ab nb cb D w hk hs hc hlim hnb
theorem ss_nil (D : Gh) : SS D (.slice none 0 0) [] := ⟨[], Sl.nil D, rfl, fun j y u h _ => by simp at h⟩
set_option maxRecDepth 100000 in
set_option maxHeartbeats 20000000 in
theorem append_walk (A : Option Addr) (n c : Nat) (xs : List (List UInt8)) (f m s : Int) (Ab : Option Addr) (nb cb : Nat) (b : List UInt8) (D : Gh) (w : World) (hk : Keeps D w) (hs : SS D (.slice A n c) xs) (hb : BS D (.slice Ab nb cb) b) (hn43 : n ≤ 8796093022208) :
    Calls Try.prog 9 #[.agg #[.int .i64 f, .int .i64 m, .slice A n c, .int .i64 s], .slice Ab nb cb] w fun e w' => e = .returned (.bool true) ∧ Below w.heap.size w w' := by
  obtain ⟨D1, hg1, hle1, hat1⟩ := newvar (Grow.refl hk) 47 #[.int .i64 f, .int .i64 m, .slice A n c, .int .i64 s]
  have HAT1 := Lib.hid hat1
  clear hat1
  go_enter Try.func9, Try.ntmps9
  go_wp2_with fail
  refine (sane42_c _).mono ?_
  rintro e w1 ⟨rfl, hb1⟩
  have hG1 := hg1.trans (Grow.of_below hg1.keeps hb1)
  clear hb1
  have hkc := hG1.keeps
  have q0 : w1.cell? ⟨w.heap.size, 0, none⟩ = some (.int .i64 f) := hkc _ _ _ (HAT1.out 0 _ rfl)
  have q1 : w1.cell? ⟨w.heap.size, 1, none⟩ = some (.int .i64 m) := hkc _ _ _ (HAT1.out 1 _ rfl)
  have q2 : w1.cell? ⟨w.heap.size, 2, none⟩ = some (.slice A n c) := hkc _ _ _ (HAT1.out 2 _ rfl)
  have q3 : w1.cell? ⟨w.heap.size, 3, none⟩ = some (.int .i64 s) := hkc _ _ _ (HAT1.out 3 _ rfl)
  go_wp2_with fail
  refine (few42_c none 0 0 0 0 false A n c xs D1 w1 hG1.keeps (hs.le hle1)).mono ?_
  rintro e w2 ⟨⟨r, rfl⟩, hb2⟩
  have hG2 := hG1.trans (Grow.of_below hG1.keeps hb2)
  clear hb2 hkc q0 q1 q2 q3
  cases r
  · go_wp2_with fail
    go_ret
    exact ⟨rfl, hG2.below⟩
  by_cases h70 : 70000 < nb
  · have g1 : decide (70000 < (nb : Int)) = true := by simp; omega
    go_wp2_with fail
    go_ret
    exact ⟨rfl, hG2.below⟩
  have g1 : decide (70000 < (nb : Int)) = false := by simp; omega
  have hkc := hG2.keeps
  have q0 : w2.cell? ⟨w.heap.size, 0, none⟩ = some (.int .i64 f) := hkc _ _ _ (HAT1.out 0 _ rfl)
  have q1 : w2.cell? ⟨w.heap.size, 1, none⟩ = some (.int .i64 m) := hkc _ _ _ (HAT1.out 1 _ rfl)
  have q2 : w2.cell? ⟨w.heap.size, 2, none⟩ = some (.slice A n c) := hkc _ _ _ (HAT1.out 2 _ rfl)
  have q3 : w2.cell? ⟨w.heap.size, 3, none⟩ = some (.int .i64 s) := hkc _ _ _ (HAT1.out 3 _ rfl)
  rcases chkL01 f m xs s with hc | hc
  · obtain ⟨hf0, hm1, hm2, _, _, hs2, hx, ho⟩ := chkL_zero hc
    have hn4 : n ≤ 4096 := by have := hs.len.1; have := occs_ge xs; omega
    have HC := Lib.hid hc
    clear hc hx ho hs2
    by_cases hfit : nb ≤ 65536 ∧ (occ nb : Int) ≤ m - occs xs
    · obtain ⟨hl, hf2⟩ := hfit
      have HF2 := Lib.hid hf2
      clear hf2
      go_wp2_with fail
      refine (append_ok A n c xs f m s Ab nb cb b D1 w2 hG2.keeps (hs.le hle1) (hb.le hle1) HC.out hl HF2.out).mono ?_
      rintro e w3 ⟨A3, c3, D3, rfl, hg3, hs3⟩
      have hG3 := hG2.trans hg3
      have hl13 := hg3.le
      obtain ⟨D4, hg4, hle4, hat4⟩ := newvar hG3 47 #[.int .i64 f, .int .i64 m, .slice A3 (n + 1) c3, .int .i64 s]
      have HAT4 := Lib.hid hat4
      have hl14 := hl13.trans hle4
      clear hat4 hkc q0 q1 q2 q3
      have hkc := hg4.keeps
      have q0 : (w3.alloc (.cells #[.int .i64 f, .int .i64 m, .slice A3 (n + 1) c3, .int .i64 s] 47)).cell? ⟨w.heap.size, 0, none⟩ = some (.int .i64 f) := hkc _ _ _ (hl14 _ _ _ (HAT1.out 0 _ rfl))
      have q1 : (w3.alloc (.cells #[.int .i64 f, .int .i64 m, .slice A3 (n + 1) c3, .int .i64 s] 47)).cell? ⟨w.heap.size, 1, none⟩ = some (.int .i64 m) := hkc _ _ _ (hl14 _ _ _ (HAT1.out 1 _ rfl))
      have q2 : (w3.alloc (.cells #[.int .i64 f, .int .i64 m, .slice A3 (n + 1) c3, .int .i64 s] 47)).cell? ⟨w.heap.size, 2, none⟩ = some (.slice A n c) := hkc _ _ _ (hl14 _ _ _ (HAT1.out 2 _ rfl))
      have q3 : (w3.alloc (.cells #[.int .i64 f, .int .i64 m, .slice A3 (n + 1) c3, .int .i64 s] 47)).cell? ⟨w.heap.size, 3, none⟩ = some (.int .i64 s) := hkc _ _ _ (hl14 _ _ _ (HAT1.out 3 _ rfl))
      go_wp2_with fail
      refine (rappend_ok A n c xs f m s Ab nb cb b D4 _ hg4.keeps ((hs.le hle1).le hl14) ((hb.le hle1).le hl14) HC.out hl HF2.out).mono ?_
      rintro e w5 ⟨A5, c5, D5, rfl, hg5, hs5⟩
      have hG5 := hg4.trans hg5
      have hl45 := hg5.le
      obtain ⟨D6, hg6, hle6, hat6⟩ := newvar hG5 47 #[.int .i64 f, .int .i64 m, .slice A5 (n + 1) c5, .int .i64 s]
      have HAT6 := Lib.hid hat6
      have hl46 := hl45.trans hle6
      have hl16 := hl14.trans hl46
      clear hat6 hkc q0 q1 q2 q3
      have HSM := Lib.hid (fun W (hW : Keeps D6 W) => rsame_c A3 A5 (n + 1) c3 c5 (xs ++ [b]) f m s D6 W hW (((hs3.le hle4).le hl45).le hle6) (hs5.le hle6))
      have hs6 := (hs.le hle1).le hl16
      have HCK := Lib.hid (fun W (hW : Keeps D6 W) => logcheck_c A n c xs f m s D6 W hW hs6 hn43)
      have HRC := Lib.hid (fun W (hW : Keeps D6 W) => rcheck_c A n c xs f m s D6 W hW hs6 hn43)
      rw [HC.out] at HCK HRC
      have HRO := Lib.hid (fun W (hW : Keeps D6 W) => room_c A n c xs f m s D6 W hW hs6 hn43)
      have HRR := Lib.hid (fun W (hW : Keeps D6 W) => rroom_c A n c xs f m s D6 W hW hs6 hn43)
      generalize roomF f m xs s = rm at *
      have gr : (rm == rm) = true := by simp
      have SH : Hid (∀ W, Keeps D6 W → (Keeps D6 W ∧ W.cell? ⟨w.heap.size, 0, none⟩ = some (.int .i64 f) ∧ W.cell? ⟨w.heap.size, 1, none⟩ = some (.int .i64 m) ∧ W.cell? ⟨w.heap.size, 2, none⟩ = some (.slice A n c) ∧ W.cell? ⟨w.heap.size, 3, none⟩ = some (.int .i64 s) ∧ W.cell? ⟨w3.heap.size, 0, none⟩ = some (.int .i64 f) ∧ W.cell? ⟨w3.heap.size, 1, none⟩ = some (.int .i64 m) ∧ W.cell? ⟨w3.heap.size, 2, none⟩ = some (.slice A3 (n + 1) c3) ∧ W.cell? ⟨w3.heap.size, 3, none⟩ = some (.int .i64 s) ∧ W.cell? ⟨w5.heap.size, 0, none⟩ = some (.int .i64 f) ∧ W.cell? ⟨w5.heap.size, 1, none⟩ = some (.int .i64 m) ∧ W.cell? ⟨w5.heap.size, 2, none⟩ = some (.slice A5 (n + 1) c5) ∧ W.cell? ⟨w5.heap.size, 3, none⟩ = some (.int .i64 s))) := fun W hkc => ⟨hkc, hkc _ _ _ (hl16 _ _ _ (HAT1.out 0 _ rfl)), hkc _ _ _ (hl16 _ _ _ (HAT1.out 1 _ rfl)), hkc _ _ _ (hl16 _ _ _ (HAT1.out 2 _ rfl)), hkc _ _ _ (hl16 _ _ _ (HAT1.out 3 _ rfl)), hkc _ _ _ (hl46 _ _ _ (HAT4.out 0 _ rfl)), hkc _ _ _ (hl46 _ _ _ (HAT4.out 1 _ rfl)), hkc _ _ _ (hl46 _ _ _ (HAT4.out 2 _ rfl)), hkc _ _ _ (hl46 _ _ _ (HAT4.out 3 _ rfl)), hkc _ _ _ (HAT6.out 0 _ rfl), hkc _ _ _ (HAT6.out 1 _ rfl), hkc _ _ _ (HAT6.out 2 _ rfl), hkc _ _ _ (HAT6.out 3 _ rfl)⟩
      have hk6 := hg6.keeps
      have HGB := Lib.hid hg6.below
      clear hs3 hs5
      obtain ⟨_, q0, q1, q2, q3, p0, p1, p2, p3, r0, r1, r2, r3⟩ := SH.out _ hk6
      go_wp2_with fail
      go_region_held3 (fun W => Keeps D6 W ∧ W.cell? ⟨w.heap.size, 0, none⟩ = some (.int .i64 f) ∧ W.cell? ⟨w.heap.size, 1, none⟩ = some (.int .i64 m) ∧ W.cell? ⟨w.heap.size, 2, none⟩ = some (.slice A n c) ∧ W.cell? ⟨w.heap.size, 3, none⟩ = some (.int .i64 s) ∧ W.cell? ⟨w3.heap.size, 0, none⟩ = some (.int .i64 f) ∧ W.cell? ⟨w3.heap.size, 1, none⟩ = some (.int .i64 m) ∧ W.cell? ⟨w3.heap.size, 2, none⟩ = some (.slice A3 (n + 1) c3) ∧ W.cell? ⟨w3.heap.size, 3, none⟩ = some (.int .i64 s) ∧ W.cell? ⟨w5.heap.size, 0, none⟩ = some (.int .i64 f) ∧ W.cell? ⟨w5.heap.size, 1, none⟩ = some (.int .i64 m) ∧ W.cell? ⟨w5.heap.size, 2, none⟩ = some (.slice A5 (n + 1) c5) ∧ W.cell? ⟨w5.heap.size, 3, none⟩ = some (.int .i64 s))
        (first | (refine SH.out _ ?_; (exact (by repeat (with_reducible first | assumption | refine Keeps.drew ?_ | refine Keeps.drewN ?_ _ | refine Keeps.alloc ?_ _ | exact Grow.keeps (by assumption)))); done) | go_keep)
        (first
          | (go_at_call 37; refine (HCK.out _ (by repeat (with_reducible first | assumption | refine Keeps.drew ?_ | refine Keeps.drewN ?_ _ | refine Keeps.alloc ?_ _ | exact Grow.keeps (by assumption)))).mono ?_; rintro e y1 ⟨rfl, hy1⟩; have ky1 : Keeps D6 y1 := Keeps.below (by repeat (with_reducible first | assumption | refine Keeps.drew ?_ | refine Keeps.drewN ?_ _ | refine Keeps.alloc ?_ _ | exact Grow.keeps (by assumption))) hy1 (Nat.le_refl _))
          | (go_at_call 38; refine (HRC.out _ (by repeat (with_reducible first | assumption | refine Keeps.drew ?_ | refine Keeps.drewN ?_ _ | refine Keeps.alloc ?_ _ | exact Grow.keeps (by assumption)))).mono ?_; rintro e y2 ⟨rfl, hy2⟩; have ky2 : Keeps D6 y2 := Keeps.below (by repeat (with_reducible first | assumption | refine Keeps.drew ?_ | refine Keeps.drewN ?_ _ | refine Keeps.alloc ?_ _ | exact Grow.keeps (by assumption))) hy2 (Nat.le_refl _))
          | (go_at_call 39; refine (HRO.out _ (by repeat (with_reducible first | assumption | refine Keeps.drew ?_ | refine Keeps.drewN ?_ _ | refine Keeps.alloc ?_ _ | exact Grow.keeps (by assumption)))).mono ?_; rintro e y3 ⟨rfl, hy3⟩; have ky3 : Keeps D6 y3 := Keeps.below (by repeat (with_reducible first | assumption | refine Keeps.drew ?_ | refine Keeps.drewN ?_ _ | refine Keeps.alloc ?_ _ | exact Grow.keeps (by assumption))) hy3 (Nat.le_refl _))
          | (go_at_call 40; refine (HRR.out _ (by repeat (with_reducible first | assumption | refine Keeps.drew ?_ | refine Keeps.drewN ?_ _ | refine Keeps.alloc ?_ _ | exact Grow.keeps (by assumption)))).mono ?_; rintro e y4 ⟨rfl, hy4⟩; have ky4 : Keeps D6 y4 := Keeps.below (by repeat (with_reducible first | assumption | refine Keeps.drew ?_ | refine Keeps.drewN ?_ _ | refine Keeps.alloc ?_ _ | exact Grow.keeps (by assumption))) hy4 (Nat.le_refl _))
          | (go_at_call 41; refine (HSM.out _ (by repeat (with_reducible first | assumption | refine Keeps.drew ?_ | refine Keeps.drewN ?_ _ | refine Keeps.alloc ?_ _ | exact Grow.keeps (by assumption)))).mono ?_; rintro e y5 ⟨rfl, hy5⟩; have ky5 : Keeps D6 y5 := Keeps.below (by repeat (with_reducible first | assumption | refine Keeps.drew ?_ | refine Keeps.drewN ?_ _ | refine Keeps.alloc ?_ _ | exact Grow.keeps (by assumption))) hy5 (Nat.le_refl _)))
      have hG6b := HGB.out
      go_wp2_with fail
      go_ret
      exact ⟨rfl, (by repeat (first | (with_reducible exact Below.refl _ _) | (with_reducible refine Below.drew ?_) | (with_reducible refine belowDrewN ?_ _) | (with_reducible refine belowAlloc ?_ _) | ((with_reducible refine belowSet2 ?_ ?_); omega) | (with_reducible assumption) | (with_reducible refine belowVia (by assumption) ?_) | (with_reducible refine belowVia (Grow.below (by assumption)) ?_)))⟩
    · have HFIT := Lib.hid hfit
      clear hfit
      go_wp2_with fail
      refine (append_lim_ A n c xs f m s Ab nb cb D1 w2 hG2.keeps (hs.le hle1) HC.out HFIT.out (by omega)).mono ?_
      rintro e w3 ⟨rfl, hb3⟩
      have hG3 := hG2.trans (Grow.of_below hG2.keeps hb3)
      have hl13 : Gh.le D1 D1 := Gh.le.refl _
      clear hb3
      obtain ⟨D4, hg4, hle4, hat4⟩ := newvar hG3 47 #[.int .i64 0, .int .i64 0, .slice none 0 0, .int .i64 0]
      have HAT4 := Lib.hid hat4
      have hl14 := hl13.trans hle4
      clear hat4 hkc q0 q1 q2 q3
      have hkc := hg4.keeps
      have q0 : (w3.alloc (.cells #[.int .i64 0, .int .i64 0, .slice none 0 0, .int .i64 0] 47)).cell? ⟨w.heap.size, 0, none⟩ = some (.int .i64 f) := hkc _ _ _ (hl14 _ _ _ (HAT1.out 0 _ rfl))
      have q1 : (w3.alloc (.cells #[.int .i64 0, .int .i64 0, .slice none 0 0, .int .i64 0] 47)).cell? ⟨w.heap.size, 1, none⟩ = some (.int .i64 m) := hkc _ _ _ (hl14 _ _ _ (HAT1.out 1 _ rfl))
      have q2 : (w3.alloc (.cells #[.int .i64 0, .int .i64 0, .slice none 0 0, .int .i64 0] 47)).cell? ⟨w.heap.size, 2, none⟩ = some (.slice A n c) := hkc _ _ _ (hl14 _ _ _ (HAT1.out 2 _ rfl))
      have q3 : (w3.alloc (.cells #[.int .i64 0, .int .i64 0, .slice none 0 0, .int .i64 0] 47)).cell? ⟨w.heap.size, 3, none⟩ = some (.int .i64 s) := hkc _ _ _ (hl14 _ _ _ (HAT1.out 3 _ rfl))
      go_wp2_with fail
      refine (rappend_lim_ A n c xs f m s Ab nb cb D4 _ hg4.keeps ((hs.le hle1).le hl14) HC.out HFIT.out (by omega)).mono ?_
      rintro e w5 ⟨rfl, hb5⟩
      have hG5 := hg4.trans (Grow.of_below hg4.keeps hb5)
      have hl45 : Gh.le D4 D4 := Gh.le.refl _
      clear hb5
      obtain ⟨D6, hg6, hle6, hat6⟩ := newvar hG5 47 #[.int .i64 0, .int .i64 0, .slice none 0 0, .int .i64 0]
      have HAT6 := Lib.hid hat6
      have hl46 := hl45.trans hle6
      have hl16 := hl14.trans hl46
      clear hat6 hkc q0 q1 q2 q3
      have HSM := Lib.hid (fun W (hW : Keeps D6 W) => rsame_c none none 0 0 0 [] 0 0 0 D6 W hW (ss_nil D6) (ss_nil D6))
      have hs6 := (hs.le hle1).le hl16
      have HCK := Lib.hid (fun W (hW : Keeps D6 W) => logcheck_c A n c xs f m s D6 W hW hs6 hn43)
      have HRC := Lib.hid (fun W (hW : Keeps D6 W) => rcheck_c A n c xs f m s D6 W hW hs6 hn43)
      rw [HC.out] at HCK HRC
      have HRO := Lib.hid (fun W (hW : Keeps D6 W) => room_c A n c xs f m s D6 W hW hs6 hn43)
      have HRR := Lib.hid (fun W (hW : Keeps D6 W) => rroom_c A n c xs f m s D6 W hW hs6 hn43)
      generalize roomF f m xs s = rm at *
      have gr : (rm == rm) = true := by simp
      have SH : Hid (∀ W, Keeps D6 W → (Keeps D6 W ∧ W.cell? ⟨w.heap.size, 0, none⟩ = some (.int .i64 f) ∧ W.cell? ⟨w.heap.size, 1, none⟩ = some (.int .i64 m) ∧ W.cell? ⟨w.heap.size, 2, none⟩ = some (.slice A n c) ∧ W.cell? ⟨w.heap.size, 3, none⟩ = some (.int .i64 s) ∧ W.cell? ⟨w3.heap.size, 0, none⟩ = some (.int .i64 0) ∧ W.cell? ⟨w3.heap.size, 1, none⟩ = some (.int .i64 0) ∧ W.cell? ⟨w3.heap.size, 2, none⟩ = some (.slice none 0 0) ∧ W.cell? ⟨w3.heap.size, 3, none⟩ = some (.int .i64 0) ∧ W.cell? ⟨w5.heap.size, 0, none⟩ = some (.int .i64 0) ∧ W.cell? ⟨w5.heap.size, 1, none⟩ = some (.int .i64 0) ∧ W.cell? ⟨w5.heap.size, 2, none⟩ = some (.slice none 0 0) ∧ W.cell? ⟨w5.heap.size, 3, none⟩ = some (.int .i64 0))) := fun W hkc => ⟨hkc, hkc _ _ _ (hl16 _ _ _ (HAT1.out 0 _ rfl)), hkc _ _ _ (hl16 _ _ _ (HAT1.out 1 _ rfl)), hkc _ _ _ (hl16 _ _ _ (HAT1.out 2 _ rfl)), hkc _ _ _ (hl16 _ _ _ (HAT1.out 3 _ rfl)), hkc _ _ _ (hl46 _ _ _ (HAT4.out 0 _ rfl)), hkc _ _ _ (hl46 _ _ _ (HAT4.out 1 _ rfl)), hkc _ _ _ (hl46 _ _ _ (HAT4.out 2 _ rfl)), hkc _ _ _ (hl46 _ _ _ (HAT4.out 3 _ rfl)), hkc _ _ _ (HAT6.out 0 _ rfl), hkc _ _ _ (HAT6.out 1 _ rfl), hkc _ _ _ (HAT6.out 2 _ rfl), hkc _ _ _ (HAT6.out 3 _ rfl)⟩
      have hk6 := hg6.keeps
      have HGB := Lib.hid hg6.below
      skip
      obtain ⟨_, q0, q1, q2, q3, p0, p1, p2, p3, r0, r1, r2, r3⟩ := SH.out _ hk6
      go_wp2_with fail
      go_region_held3 (fun W => Keeps D6 W ∧ W.cell? ⟨w.heap.size, 0, none⟩ = some (.int .i64 f) ∧ W.cell? ⟨w.heap.size, 1, none⟩ = some (.int .i64 m) ∧ W.cell? ⟨w.heap.size, 2, none⟩ = some (.slice A n c) ∧ W.cell? ⟨w.heap.size, 3, none⟩ = some (.int .i64 s) ∧ W.cell? ⟨w3.heap.size, 0, none⟩ = some (.int .i64 0) ∧ W.cell? ⟨w3.heap.size, 1, none⟩ = some (.int .i64 0) ∧ W.cell? ⟨w3.heap.size, 2, none⟩ = some (.slice none 0 0) ∧ W.cell? ⟨w3.heap.size, 3, none⟩ = some (.int .i64 0) ∧ W.cell? ⟨w5.heap.size, 0, none⟩ = some (.int .i64 0) ∧ W.cell? ⟨w5.heap.size, 1, none⟩ = some (.int .i64 0) ∧ W.cell? ⟨w5.heap.size, 2, none⟩ = some (.slice none 0 0) ∧ W.cell? ⟨w5.heap.size, 3, none⟩ = some (.int .i64 0))
        (first | (refine SH.out _ ?_; (exact (by repeat (with_reducible first | assumption | refine Keeps.drew ?_ | refine Keeps.drewN ?_ _ | refine Keeps.alloc ?_ _ | exact Grow.keeps (by assumption)))); done) | go_keep)
        (first
          | (go_at_call 37; refine (HCK.out _ (by repeat (with_reducible first | assumption | refine Keeps.drew ?_ | refine Keeps.drewN ?_ _ | refine Keeps.alloc ?_ _ | exact Grow.keeps (by assumption)))).mono ?_; rintro e y1 ⟨rfl, hy1⟩; have ky1 : Keeps D6 y1 := Keeps.below (by repeat (with_reducible first | assumption | refine Keeps.drew ?_ | refine Keeps.drewN ?_ _ | refine Keeps.alloc ?_ _ | exact Grow.keeps (by assumption))) hy1 (Nat.le_refl _))
          | (go_at_call 38; refine (HRC.out _ (by repeat (with_reducible first | assumption | refine Keeps.drew ?_ | refine Keeps.drewN ?_ _ | refine Keeps.alloc ?_ _ | exact Grow.keeps (by assumption)))).mono ?_; rintro e y2 ⟨rfl, hy2⟩; have ky2 : Keeps D6 y2 := Keeps.below (by repeat (with_reducible first | assumption | refine Keeps.drew ?_ | refine Keeps.drewN ?_ _ | refine Keeps.alloc ?_ _ | exact Grow.keeps (by assumption))) hy2 (Nat.le_refl _))
          | (go_at_call 39; refine (HRO.out _ (by repeat (with_reducible first | assumption | refine Keeps.drew ?_ | refine Keeps.drewN ?_ _ | refine Keeps.alloc ?_ _ | exact Grow.keeps (by assumption)))).mono ?_; rintro e y3 ⟨rfl, hy3⟩; have ky3 : Keeps D6 y3 := Keeps.below (by repeat (with_reducible first | assumption | refine Keeps.drew ?_ | refine Keeps.drewN ?_ _ | refine Keeps.alloc ?_ _ | exact Grow.keeps (by assumption))) hy3 (Nat.le_refl _))
          | (go_at_call 40; refine (HRR.out _ (by repeat (with_reducible first | assumption | refine Keeps.drew ?_ | refine Keeps.drewN ?_ _ | refine Keeps.alloc ?_ _ | exact Grow.keeps (by assumption)))).mono ?_; rintro e y4 ⟨rfl, hy4⟩; have ky4 : Keeps D6 y4 := Keeps.below (by repeat (with_reducible first | assumption | refine Keeps.drew ?_ | refine Keeps.drewN ?_ _ | refine Keeps.alloc ?_ _ | exact Grow.keeps (by assumption))) hy4 (Nat.le_refl _))
          | (go_at_call 41; refine (HSM.out _ (by repeat (with_reducible first | assumption | refine Keeps.drew ?_ | refine Keeps.drewN ?_ _ | refine Keeps.alloc ?_ _ | exact Grow.keeps (by assumption)))).mono ?_; rintro e y5 ⟨rfl, hy5⟩; have ky5 : Keeps D6 y5 := Keeps.below (by repeat (with_reducible first | assumption | refine Keeps.drew ?_ | refine Keeps.drewN ?_ _ | refine Keeps.alloc ?_ _ | exact Grow.keeps (by assumption))) hy5 (Nat.le_refl _)))
      have hG6b := HGB.out
      go_wp2_with fail
      go_ret
      exact ⟨rfl, (by repeat (first | (with_reducible exact Below.refl _ _) | (with_reducible refine Below.drew ?_) | (with_reducible refine belowDrewN ?_ _) | (with_reducible refine belowAlloc ?_ _) | ((with_reducible refine belowSet2 ?_ ?_); omega) | (with_reducible assumption) | (with_reducible refine belowVia (by assumption) ?_) | (with_reducible refine belowVia (Grow.below (by assumption)) ?_)))⟩
  · have HC := Lib.hid hc
    go_wp2_with fail
    refine (append_bad_ A n c xs f m s Ab nb cb D1 w2 hG2.keeps (hs.le hle1) hn43 hc).mono ?_
    rintro e w3 ⟨rfl, hb3⟩
    have hG3 := hG2.trans (Grow.of_below hG2.keeps hb3)
    have hl13 : Gh.le D1 D1 := Gh.le.refl _
    clear hb3
    obtain ⟨D4, hg4, hle4, hat4⟩ := newvar hG3 47 #[.int .i64 0, .int .i64 0, .slice none 0 0, .int .i64 0]
    have HAT4 := Lib.hid hat4
    have hl14 := hl13.trans hle4
    clear hat4 hkc q0 q1 q2 q3
    have hkc := hg4.keeps
    have q0 : (w3.alloc (.cells #[.int .i64 0, .int .i64 0, .slice none 0 0, .int .i64 0] 47)).cell? ⟨w.heap.size, 0, none⟩ = some (.int .i64 f) := hkc _ _ _ (hl14 _ _ _ (HAT1.out 0 _ rfl))
    have q1 : (w3.alloc (.cells #[.int .i64 0, .int .i64 0, .slice none 0 0, .int .i64 0] 47)).cell? ⟨w.heap.size, 1, none⟩ = some (.int .i64 m) := hkc _ _ _ (hl14 _ _ _ (HAT1.out 1 _ rfl))
    have q2 : (w3.alloc (.cells #[.int .i64 0, .int .i64 0, .slice none 0 0, .int .i64 0] 47)).cell? ⟨w.heap.size, 2, none⟩ = some (.slice A n c) := hkc _ _ _ (hl14 _ _ _ (HAT1.out 2 _ rfl))
    have q3 : (w3.alloc (.cells #[.int .i64 0, .int .i64 0, .slice none 0 0, .int .i64 0] 47)).cell? ⟨w.heap.size, 3, none⟩ = some (.int .i64 s) := hkc _ _ _ (hl14 _ _ _ (HAT1.out 3 _ rfl))
    go_wp2_with fail
    refine (rappend_bad_ A n c xs f m s Ab nb cb D4 _ hg4.keeps ((hs.le hle1).le hl14) hn43 HC.out).mono ?_
    rintro e w5 ⟨rfl, hb5⟩
    have hG5 := hg4.trans (Grow.of_below hg4.keeps hb5)
    have hl45 : Gh.le D4 D4 := Gh.le.refl _
    clear hb5
    obtain ⟨D6, hg6, hle6, hat6⟩ := newvar hG5 47 #[.int .i64 0, .int .i64 0, .slice none 0 0, .int .i64 0]
    have HAT6 := Lib.hid hat6
    have hl46 := hl45.trans hle6
    have hl16 := hl14.trans hl46
    clear hat6 hkc q0 q1 q2 q3
    have HSM := Lib.hid (fun W (hW : Keeps D6 W) => rsame_c none none 0 0 0 [] 0 0 0 D6 W hW (ss_nil D6) (ss_nil D6))
    have hs6 := (hs.le hle1).le hl16
    have HCK := Lib.hid (fun W (hW : Keeps D6 W) => logcheck_c A n c xs f m s D6 W hW hs6 hn43)
    have HRC := Lib.hid (fun W (hW : Keeps D6 W) => rcheck_c A n c xs f m s D6 W hW hs6 hn43)
    rw [HC.out] at HCK HRC
    have HRO := Lib.hid (fun W (hW : Keeps D6 W) => room_c A n c xs f m s D6 W hW hs6 hn43)
    have HRR := Lib.hid (fun W (hW : Keeps D6 W) => rroom_c A n c xs f m s D6 W hW hs6 hn43)
    generalize roomF f m xs s = rm at *
    have gr : (rm == rm) = true := by simp
    have SH : Hid (∀ W, Keeps D6 W → (Keeps D6 W ∧ W.cell? ⟨w.heap.size, 0, none⟩ = some (.int .i64 f) ∧ W.cell? ⟨w.heap.size, 1, none⟩ = some (.int .i64 m) ∧ W.cell? ⟨w.heap.size, 2, none⟩ = some (.slice A n c) ∧ W.cell? ⟨w.heap.size, 3, none⟩ = some (.int .i64 s) ∧ W.cell? ⟨w3.heap.size, 0, none⟩ = some (.int .i64 0) ∧ W.cell? ⟨w3.heap.size, 1, none⟩ = some (.int .i64 0) ∧ W.cell? ⟨w3.heap.size, 2, none⟩ = some (.slice none 0 0) ∧ W.cell? ⟨w3.heap.size, 3, none⟩ = some (.int .i64 0) ∧ W.cell? ⟨w5.heap.size, 0, none⟩ = some (.int .i64 0) ∧ W.cell? ⟨w5.heap.size, 1, none⟩ = some (.int .i64 0) ∧ W.cell? ⟨w5.heap.size, 2, none⟩ = some (.slice none 0 0) ∧ W.cell? ⟨w5.heap.size, 3, none⟩ = some (.int .i64 0))) := fun W hkc => ⟨hkc, hkc _ _ _ (hl16 _ _ _ (HAT1.out 0 _ rfl)), hkc _ _ _ (hl16 _ _ _ (HAT1.out 1 _ rfl)), hkc _ _ _ (hl16 _ _ _ (HAT1.out 2 _ rfl)), hkc _ _ _ (hl16 _ _ _ (HAT1.out 3 _ rfl)), hkc _ _ _ (hl46 _ _ _ (HAT4.out 0 _ rfl)), hkc _ _ _ (hl46 _ _ _ (HAT4.out 1 _ rfl)), hkc _ _ _ (hl46 _ _ _ (HAT4.out 2 _ rfl)), hkc _ _ _ (hl46 _ _ _ (HAT4.out 3 _ rfl)), hkc _ _ _ (HAT6.out 0 _ rfl), hkc _ _ _ (HAT6.out 1 _ rfl), hkc _ _ _ (HAT6.out 2 _ rfl), hkc _ _ _ (HAT6.out 3 _ rfl)⟩
    have hk6 := hg6.keeps
    have HGB := Lib.hid hg6.below
    skip
    obtain ⟨_, q0, q1, q2, q3, p0, p1, p2, p3, r0, r1, r2, r3⟩ := SH.out _ hk6
    go_wp2_with fail
    go_region_held3 (fun W => Keeps D6 W ∧ W.cell? ⟨w.heap.size, 0, none⟩ = some (.int .i64 f) ∧ W.cell? ⟨w.heap.size, 1, none⟩ = some (.int .i64 m) ∧ W.cell? ⟨w.heap.size, 2, none⟩ = some (.slice A n c) ∧ W.cell? ⟨w.heap.size, 3, none⟩ = some (.int .i64 s) ∧ W.cell? ⟨w3.heap.size, 0, none⟩ = some (.int .i64 0) ∧ W.cell? ⟨w3.heap.size, 1, none⟩ = some (.int .i64 0) ∧ W.cell? ⟨w3.heap.size, 2, none⟩ = some (.slice none 0 0) ∧ W.cell? ⟨w3.heap.size, 3, none⟩ = some (.int .i64 0) ∧ W.cell? ⟨w5.heap.size, 0, none⟩ = some (.int .i64 0) ∧ W.cell? ⟨w5.heap.size, 1, none⟩ = some (.int .i64 0) ∧ W.cell? ⟨w5.heap.size, 2, none⟩ = some (.slice none 0 0) ∧ W.cell? ⟨w5.heap.size, 3, none⟩ = some (.int .i64 0))
      (first | (refine SH.out _ ?_; (exact (by repeat (with_reducible first | assumption | refine Keeps.drew ?_ | refine Keeps.drewN ?_ _ | refine Keeps.alloc ?_ _ | exact Grow.keeps (by assumption)))); done) | go_keep)
      (first
        | (go_at_call 37; refine (HCK.out _ (by repeat (with_reducible first | assumption | refine Keeps.drew ?_ | refine Keeps.drewN ?_ _ | refine Keeps.alloc ?_ _ | exact Grow.keeps (by assumption)))).mono ?_; rintro e y1 ⟨rfl, hy1⟩; have ky1 : Keeps D6 y1 := Keeps.below (by repeat (with_reducible first | assumption | refine Keeps.drew ?_ | refine Keeps.drewN ?_ _ | refine Keeps.alloc ?_ _ | exact Grow.keeps (by assumption))) hy1 (Nat.le_refl _))
        | (go_at_call 38; refine (HRC.out _ (by repeat (with_reducible first | assumption | refine Keeps.drew ?_ | refine Keeps.drewN ?_ _ | refine Keeps.alloc ?_ _ | exact Grow.keeps (by assumption)))).mono ?_; rintro e y2 ⟨rfl, hy2⟩; have ky2 : Keeps D6 y2 := Keeps.below (by repeat (with_reducible first | assumption | refine Keeps.drew ?_ | refine Keeps.drewN ?_ _ | refine Keeps.alloc ?_ _ | exact Grow.keeps (by assumption))) hy2 (Nat.le_refl _))
        | (go_at_call 39; refine (HRO.out _ (by repeat (with_reducible first | assumption | refine Keeps.drew ?_ | refine Keeps.drewN ?_ _ | refine Keeps.alloc ?_ _ | exact Grow.keeps (by assumption)))).mono ?_; rintro e y3 ⟨rfl, hy3⟩; have ky3 : Keeps D6 y3 := Keeps.below (by repeat (with_reducible first | assumption | refine Keeps.drew ?_ | refine Keeps.drewN ?_ _ | refine Keeps.alloc ?_ _ | exact Grow.keeps (by assumption))) hy3 (Nat.le_refl _))
        | (go_at_call 40; refine (HRR.out _ (by repeat (with_reducible first | assumption | refine Keeps.drew ?_ | refine Keeps.drewN ?_ _ | refine Keeps.alloc ?_ _ | exact Grow.keeps (by assumption)))).mono ?_; rintro e y4 ⟨rfl, hy4⟩; have ky4 : Keeps D6 y4 := Keeps.below (by repeat (with_reducible first | assumption | refine Keeps.drew ?_ | refine Keeps.drewN ?_ _ | refine Keeps.alloc ?_ _ | exact Grow.keeps (by assumption))) hy4 (Nat.le_refl _))
        | (go_at_call 41; refine (HSM.out _ (by repeat (with_reducible first | assumption | refine Keeps.drew ?_ | refine Keeps.drewN ?_ _ | refine Keeps.alloc ?_ _ | exact Grow.keeps (by assumption)))).mono ?_; rintro e y5 ⟨rfl, hy5⟩; have ky5 : Keeps D6 y5 := Keeps.below (by repeat (with_reducible first | assumption | refine Keeps.drew ?_ | refine Keeps.drewN ?_ _ | refine Keeps.alloc ?_ _ | exact Grow.keeps (by assumption))) hy5 (Nat.le_refl _)))
    have hG6b := HGB.out
    go_wp2_with fail
    go_ret
    exact ⟨rfl, (by repeat (first | (with_reducible exact Below.refl _ _) | (with_reducible refine Below.drew ?_) | (with_reducible refine belowDrewN ?_ _) | (with_reducible refine belowAlloc ?_ _) | ((with_reducible refine belowSet2 ?_ ?_); omega) | (with_reducible assumption) | (with_reducible refine belowVia (by assumption) ?_) | (with_reducible refine belowVia (Grow.below (by assumption)) ?_)))⟩
end Go.Proofs.Ytegkmkglagmdiaa
