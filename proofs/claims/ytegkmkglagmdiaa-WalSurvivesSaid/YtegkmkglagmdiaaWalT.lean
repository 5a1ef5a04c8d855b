/-
  What is proved here: Sync, walked
-/
import Derived.Test.YtegkmkglagmdiaaRows
import Derived.Test.YtegkmkglagmdiaaBaseB
import Derived.Test.YtegkmkglagmdiaaCrc
import Derived.Test.YtegkmkglagmdiaaWalP
import Derived.Test.YtegkmkglagmdiaaWalA
import Derived.Test.YtegkmkglagmdiaaWalB
import Derived.Test.YtegkmkglagmdiaaWalC
import Derived.Test.YtegkmkglagmdiaaWalD
import Derived.Test.YtegkmkglagmdiaaWalE
import Derived.Test.YtegkmkglagmdiaaDiskF
import Derived.Test.YtegkmkglagmdiaaDiskH
import Derived.Test.YtegkmkglagmdiaaWalF
import Derived.Test.YtegkmkglagmdiaaRangeF
import Derived.Test.YtegkmkglagmdiaaWalG
import Derived.Test.YtegkmkglagmdiaaWalH
import Derived.Test.YtegkmkglagmdiaaWalI
import Derived.Test.YtegkmkglagmdiaaWalJ
import Derived.Test.YtegkmkglagmdiaaWalK
import Derived.Test.YtegkmkglagmdiaaWalL
import Derived.Test.YtegkmkglagmdiaaWalS
import Derived.OwnWalkIn
import Derived.TacticsInMore
import Derived.LoopNIn
import Derived.LoopIn
import Derived.Scope
import Derived.Shelf.Abstract
import Derived.RangeFuncCalls
import Derived.Laws.BitsAllLaws
import Derived.Deep.RegionHeld3
import Derived.Deep.RegionLaw
import Derived.Deep.DeepCutAuto
import Derived.Deep.QuietTactic
import Derived.BigQuiet
import Derived.Laws.EntriesVeiled
import Derived.Deep.MidRow
import Derived.Laws.CopyRow
namespace Go.Proofs.Ytegkmkglagmdiaa
open Go.RowKit Go.VS
/-- what stays true while Sync writes. -/
structure SInv (w : World) (D : Gh) (f m s n1 c1 : Nat) (A1 : Option Addr) (wr : World) (D1 : Gh) (d : Dsk) (xA : Option Addr) (xn xc : Nat) : Prop where
  grow : Grow w D wr D1
  log : Box wr D1 w.heap.size 47 #[.int .i64 (f : Int), .int .i64 (m : Int), .slice A1 n1 c1, .int .i64 (s : Int)]
  dsk : Box wr D1 (w.heap.size + 1) 26 #[.slice xA xn xc, .int .i64 d.left, .int .i64 d.tear, .bool d.stopped]
  rl : Box wr D1 (w.heap.size + 1 + 1) 47 #[.int .i64 0, .int .i64 0, .slice none 0 0, .int .i64 0]
  rd : Box wr D1 (w.heap.size + 1 + 1 + 1) 26 #[.slice none 0 0, .int .i64 0, .int .i64 0, .bool false]
  ss : SS D1 (.slice xA xn xc) d.secs
  left : d.left ≤ 9223372036854775807
theorem SInv.on {w : World} {D : Gh} {f m s n1 c1 : Nat} {A1 : Option Addr} {wr wx : World} {D1 D2 : Gh} {d : Dsk} {xA : Option Addr} {xn xc : Nat} (h : SInv w D f m s n1 c1 A1 wr D1 d xA xn xc) (hg : Grow wr D1 wx D2) : SInv w D f m s n1 c1 A1 wx D2 d xA xn xc :=
  ⟨h.grow.trans hg, h.log.grow hg, h.dsk.grow hg, h.rl.grow hg, h.rd.grow hg, h.ss.le hg.le, h.left⟩
theorem SInv.put {w : World} {D : Gh} {f m s n1 c1 : Nat} {A1 : Option Addr} {wr : World} {D1 : Gh} {d : Dsk} {xA : Option Addr} {xn xc : Nat} (h : SInv w D f m s n1 c1 A1 wr D1 d xA xn xc) (d2 : Dsk) (yA : Option Addr) (yn yc : Nat) (hs : SS D1 (.slice yA yn yc) d2.secs) (hl : d2.left ≤ 9223372036854775807) :
    SInv w D f m s n1 c1 A1 ((((wr.setCell ⟨w.heap.size + 1, 0, none⟩ (.slice yA yn yc)).setCell ⟨w.heap.size + 1, 1, none⟩ (.int .i64 d2.left)).setCell ⟨w.heap.size + 1, 2, none⟩ (.int .i64 d2.tear)).setCell ⟨w.heap.size + 1, 3, none⟩ (.bool d2.stopped)) D1 d2 yA yn yc :=
  ⟨h.grow.set4 (g := w.heap.size + 1) (by omega) h.dsk.off _ _ _ _, (((h.log.far (by simp) _).far (by simp) _).far (by simp) _).far (by simp) _, h.dsk.set4 _ _ _ _, (((h.rl.far (by first | (simp; done) | (simp; omega)) _).far (by first | (simp; done) | (simp; omega)) _).far (by first | (simp; done) | (simp; omega)) _).far (by first | (simp; done) | (simp; omega)) _, (((h.rd.far (by first | (simp; done) | (simp; omega)) _).far (by first | (simp; done) | (simp; omega)) _).far (by first | (simp; done) | (simp; omega)) _).far (by first | (simp; done) | (simp; omega)) _, hs, hl⟩
theorem fin2 {w W : World} {D D1 : Gh} {a0 a1 a2 a3 b0 b1 b2 b3 : Value} (hG : Grow w D W D1) (r4 : Box W D1 (w.heap.size + 1 + 1) 47 #[a0, a1, a2, a3]) (r5 : Box W D1 (w.heap.size + 1 + 1 + 1) 26 #[b0, b1, b2, b3]) (x0 x1 x2 x3 y0 y1 y2 y3 : Value) :
    Grow w D ((((((((W.setCell ⟨w.heap.size + 1 + 1, 0, none⟩ (x0)).setCell ⟨w.heap.size + 1 + 1, 1, none⟩ (x1)).setCell ⟨w.heap.size + 1 + 1, 2, none⟩ (x2)).setCell ⟨w.heap.size + 1 + 1, 3, none⟩ (x3)).setCell ⟨w.heap.size + 1 + 1 + 1, 0, none⟩ (y0)).setCell ⟨w.heap.size + 1 + 1 + 1, 1, none⟩ (y1)).setCell ⟨w.heap.size + 1 + 1 + 1, 2, none⟩ (y2)).setCell ⟨w.heap.size + 1 + 1 + 1, 3, none⟩ (y3)) D1 ∧ Box ((((((((W.setCell ⟨w.heap.size + 1 + 1, 0, none⟩ (x0)).setCell ⟨w.heap.size + 1 + 1, 1, none⟩ (x1)).setCell ⟨w.heap.size + 1 + 1, 2, none⟩ (x2)).setCell ⟨w.heap.size + 1 + 1, 3, none⟩ (x3)).setCell ⟨w.heap.size + 1 + 1 + 1, 0, none⟩ (y0)).setCell ⟨w.heap.size + 1 + 1 + 1, 1, none⟩ (y1)).setCell ⟨w.heap.size + 1 + 1 + 1, 2, none⟩ (y2)).setCell ⟨w.heap.size + 1 + 1 + 1, 3, none⟩ (y3)) D1 (w.heap.size + 1 + 1) 47 #[x0, x1, x2, x3] ∧ Box ((((((((W.setCell ⟨w.heap.size + 1 + 1, 0, none⟩ (x0)).setCell ⟨w.heap.size + 1 + 1, 1, none⟩ (x1)).setCell ⟨w.heap.size + 1 + 1, 2, none⟩ (x2)).setCell ⟨w.heap.size + 1 + 1, 3, none⟩ (x3)).setCell ⟨w.heap.size + 1 + 1 + 1, 0, none⟩ (y0)).setCell ⟨w.heap.size + 1 + 1 + 1, 1, none⟩ (y1)).setCell ⟨w.heap.size + 1 + 1 + 1, 2, none⟩ (y2)).setCell ⟨w.heap.size + 1 + 1 + 1, 3, none⟩ (y3)) D1 (w.heap.size + 1 + 1 + 1) 26 #[y0, y1, y2, y3] :=
  ⟨(hG.set4 (g := w.heap.size + 1 + 1) (by omega) r4.off _ _ _ _).set4 (g := w.heap.size + 1 + 1 + 1) (by omega) r5.off _ _ _ _,
   ((((r4.set4 x0 x1 x2 x3).far (by simp) _).far (by simp) _).far (by simp) _).far (by simp) _,
   ((((r5.far (by simp) _).far (by simp) _).far (by simp) _).far (by simp) _).set4 _ _ _ _⟩
set_option maxRecDepth 100000 in
set_option maxHeartbeats 20000000 in
theorem sync_c (A1 : Option Addr) (n1 c1 : Nat) (rs : List (List UInt8)) (f m s : Nat) (A : Option Addr) (n c : Nat) (xs : List (List UInt8)) (l t : Int) (D : Gh) (w : World) (hk : Keeps D w)
    (hr : SS D (.slice A1 n1 c1) rs) (hs : SS D (.slice A n c) xs) (hl : chkL (f : Nat) (m : Nat) rs (s : Nat) = 0) (hok : chk ⟨xs, l, t, false⟩ = 0) (hfm : f + m ≤ n)
    (hb : scan 0 0 none ((xs.drop f).take m) = rs.take s) (hg : gmax ((xs.drop f).take m) ≠ 4294967295) (hlw : l ≤ 9223372036854775807) (X : Dsk × Int)
    (hX : X = syncW ⟨xs, l, t, false⟩ (f + occs (rs.take s)) (recsS (gmax ((xs.drop f).take m) + 1) (occs (rs.take s)) (rs.drop s))) :
    Calls Try.prog 44 #[.agg #[.int .i64 (f : Int), .int .i64 (m : Int), .slice A1 n1 c1, .int .i64 (s : Int)], .agg #[.slice A n c, .int .i64 l, .int .i64 t, .bool false]] w fun e w' => ∃ xA xn xc D', Grow w D w' D' ∧ SS D' (.slice xA xn xc) X.1.secs ∧
      ((X.2 = 0 → e = .returned (.tuple #[.agg #[.int .i64 (f : Int), .int .i64 (m : Int), .slice A1 n1 c1, .int .i64 (n1 : Int)], .agg #[.slice xA xn xc, .int .i64 X.1.left, .int .i64 X.1.tear, .bool X.1.stopped], .int .i64 0])) ∧
       (X.2 = 410 → e = .returned (.tuple #[log0, .agg #[.slice xA xn xc, .int .i64 X.1.left, .int .i64 X.1.tear, .bool X.1.stopped], .int .i64 410]))) := by
  obtain ⟨hxn, hnc, hcm⟩ := hs.len
  unfold maxLen at hcm
  obtain ⟨hrn, hnc1, hcm1⟩ := hr.len
  unfold maxLen at hcm1
  obtain ⟨hn1, hn2, hlen, _⟩ := chk_len hok
  simp only at hn1 hn2 hlen
  rw [← hxn] at hn1 hn2
  obtain ⟨_, hm1, _, _, _, hs2, hx65, ho⟩ := chkL_zero hl
  have hxo := occs_ge rs
  have hsn : s ≤ n1 := by omega
  have hn14 : n1 ≤ 4096 := by omega
  obtain ⟨b, o, rfl⟩ : ∃ b o, A = some ⟨b, o, none⟩ := by
    obtain ⟨b, o, _, _, e, _⟩ := hs.at_ hk (k := 0) (by omega)
    exact ⟨b, o, e⟩
  have hsub := SS.slice hs f m hfm
  have htk := take_ss hr s hsn
  have hdr := low_ss hr s hsn
  have h128 : ∀ x ∈ (xs.drop f).take m, x.length = 128 := fun x h => hlen x (List.mem_of_mem_drop (List.mem_of_mem_take h))
  have H128 := Lib.hid h128
  have HX := Lib.hid hX
  have HXN := Lib.hid hxn
  have HRN := Lib.hid hrn
  have HX65 := Lib.hid hx65
  have hgl := gmax_lt ((xs.drop f).take m)
  have hbyt : occs (rs.take s) ≤ occs rs := occs_le rs s
  have hosum : occs rs = occs (rs.take s) + occs (rs.drop s) := by rw [← occs_append, List.take_append_drop]
  have HC1 := Lib.hid (fun W (hW : Keeps D W) => logcheck_c A1 n1 c1 rs f m s D W hW hr (by omega))
  rw [hl] at HC1
  have HC2 := Lib.hid (fun W (hW : Keeps D W) => check_c (some ⟨b, o, none⟩) n c xs l t false D W hW hs)
  rw [hok] at HC2
  have HC3 := Lib.hid (fun W (hW : Keeps D W) => greatest_c _ m _ _ D W hW hsub h128)
  have HC4 := Lib.hid (fun W (hW : Keeps D W) => begin_c A1 s c1 (rs.take s) _ m _ _ D W hW htk hsub h128 (by omega))
  rw [hb, decide_eq_true rfl] at HC4
  have HC5 := Lib.hid (fun W (hW : Keeps D W) => allocc_c A1 s c1 (rs.take s) D W hW htk (fun x hx' => by have := hx65 x (List.mem_of_mem_take hx'); omega) (by omega))
  generalize hG : gmax ((xs.drop f).take m) = G at *
  generalize hK0 : occs (rs.take s) = k0 at *
  have HK0 := Lib.hid hK0
  clear hG hK0 hb hX hxn hrn hlen hok hl h128 hx65
  have hk1 := hk.alloc (.cells #[.int .i64 (f : Int), .int .i64 (m : Int), .slice A1 n1 c1, .int .i64 (s : Int)] 47)
  have h0 := Box.new hk 47 #[.int .i64 (f : Int), .int .i64 (m : Int), .slice A1 n1 c1, .int .i64 (s : Int)]
  have h1 := Box.new hk1 26 #[.slice (some ⟨b, o, none⟩) n c, .int .i64 l, .int .i64 t, .bool false]
  have hk2 := hk1.alloc (.cells #[.slice (some ⟨b, o, none⟩) n c, .int .i64 l, .int .i64 t, .bool false] 26)
  have h2 := Box.new hk2 47 #[.int .i64 0, .int .i64 0, .slice none 0 0, .int .i64 0]
  have hk3 := hk2.alloc (.cells #[.int .i64 0, .int .i64 0, .slice none 0 0, .int .i64 0] 47)
  have h3 := Box.new hk3 26 #[.slice none 0 0, .int .i64 0, .int .i64 0, .bool false]
  have hk4 := hk3.alloc (.cells #[.slice none 0 0, .int .i64 0, .int .i64 0, .bool false] 26)
  have hb4 : Below w.heap.size w ((((w.alloc (.cells #[.int .i64 (f : Int), .int .i64 (m : Int), .slice A1 n1 c1, .int .i64 (s : Int)] 47)).alloc (.cells #[.slice (some ⟨b, o, none⟩) n c, .int .i64 l, .int .i64 t, .bool false] 26)).alloc (.cells #[.int .i64 0, .int .i64 0, .slice none 0 0, .int .i64 0] 47)).alloc (.cells #[.slice none 0 0, .int .i64 0, .int .i64 0, .bool false] 26)) := (by repeat (first | (with_reducible exact Below.refl _ _) | (with_reducible refine Below.drew ?_) | (with_reducible refine belowDrewN ?_ _) | (with_reducible refine belowAlloc ?_ _) | ((with_reducible refine belowSet2 ?_ ?_); omega) | (with_reducible assumption) | (with_reducible refine belowVia (by assumption) ?_) | (with_reducible refine belowVia (Grow.below (by assumption)) ?_)))
  simp only [World.size_alloc] at h1 h2 h3
  have h0' := ((h0.alloc (.cells #[.slice (some ⟨b, o, none⟩) n c, .int .i64 l, .int .i64 t, .bool false] 26)).alloc (.cells #[.int .i64 0, .int .i64 0, .slice none 0 0, .int .i64 0] 47)).alloc (.cells #[.slice none 0 0, .int .i64 0, .int .i64 0, .bool false] 26)
  have h1' := (h1.alloc (.cells #[.int .i64 0, .int .i64 0, .slice none 0 0, .int .i64 0] 47)).alloc (.cells #[.slice none 0 0, .int .i64 0, .int .i64 0, .bool false] 26)
  have h2' := h2.alloc (.cells #[.slice none 0 0, .int .i64 0, .int .i64 0, .bool false] 26)
  go_enter Try.func44, Try.ntmps44
  go_wp2_with fail
  refine (HC1.out _ hk4).mono ?_
  rintro e w1 ⟨rfl, hb1⟩
  have b0 := h0'.below hb1 (by first | (simp; done) | (simp; omega))
  have b1 := h1'.below hb1 (by first | (simp; done) | (simp; omega))
  have b2 := h2'.below hb1 (by first | (simp; done) | (simp; omega))
  have b3 := h3.below hb1 (by first | (simp; done) | (simp; omega))
  have hbw : Below w.heap.size w w1 := belowVia hb1 hb4
  have hkw := hk.below hbw (Nat.le_refl _)
  clear h0 h1 h2 h3 h0' h1' h2' hk1 hk2 hk3 hk4 hb4 hb1
  have q0 : w1.cell? ⟨w.heap.size + 1, 0, none⟩ = some (.slice (some ⟨b, o, none⟩) n c) := b1.cell 0
  have q1 : w1.cell? ⟨w.heap.size + 1, 1, none⟩ = some (.int .i64 l) := b1.cell 1
  have q2 : w1.cell? ⟨w.heap.size + 1, 2, none⟩ = some (.int .i64 t) := b1.cell 2
  have q3 : w1.cell? ⟨w.heap.size + 1, 3, none⟩ = some (.bool false) := b1.cell 3
  go_wp2_with fail
  refine (HC2.out _ hkw).mono ?_
  rintro e w2 ⟨rfl, hb2⟩
  have b0' := b0.below hb2 b0.lt
  have b1' := b1.below hb2 b1.lt
  have b2' := b2.below hb2 b2.lt
  have b3' := b3.below hb2 b3.lt
  have hbw2 : Below w.heap.size w w2 := hbw.trans (hb2.mono hbw.size)
  have hkw2 := hk.below hbw2 (Nat.le_refl _)
  clear b0 b1 b2 b3 hbw hkw q0 q1 q2 q3 hb2
  have q0 : w2.cell? ⟨w.heap.size + 1, 0, none⟩ = some (.slice (some ⟨b, o, none⟩) n c) := b1'.cell 0
  have q3 : w2.cell? ⟨w.heap.size + 1, 3, none⟩ = some (.bool false) := b1'.cell 3
  have l0 : w2.cell? ⟨w.heap.size, 0, none⟩ = some (.int .i64 (f : Int)) := b0'.cell 0
  have l1 : w2.cell? ⟨w.heap.size, 1, none⟩ = some (.int .i64 (m : Int)) := b0'.cell 1
  have e1 : IntKind.i64.wrap ((f : Int) + (m : Int)) = (f : Int) + (m : Int) := by rw [IntKind.wrap_i64]; omega
  have g1 : decide ((n : Int) < (f : Int) + (m : Int)) = false := by simp; omega
  have g1' : decide (n < f + m) = false := by simp; omega
  go_wp2_with fail
  refine (HC3.out _ hkw2).mono ?_
  rintro e w3 ⟨rfl, hb3⟩
  have b0 := b0'.below hb3 b0'.lt
  have b1 := b1'.below hb3 b1'.lt
  have b2 := b2'.below hb3 b2'.lt
  have b3 := b3'.below hb3 b3'.lt
  have hbw3 : Below w.heap.size w w3 := hbw2.trans (hb3.mono hbw2.size)
  have hkw3 := hk.below hbw3 (Nat.le_refl _)
  clear b0' b1' b2' b3' hbw2 hkw2 q0 q3 l0 l1 hb3 g1 g1' e1
  have l2 : w3.cell? ⟨w.heap.size, 2, none⟩ = some (.slice A1 n1 c1) := b0.cell 2
  have l3 : w3.cell? ⟨w.heap.size, 3, none⟩ = some (.int .i64 (s : Int)) := b0.cell 3
  have g2 : (s : Int) ≤ (c1 : Int) := by omega
  have g2' : s ≤ c1 := by omega
  go_wp2_with fail
  refine (HC4.out _ hkw3).mono ?_
  rintro e w4 ⟨rfl, hb4⟩
  have b0' := b0.below hb4 b0.lt
  have b1' := b1.below hb4 b1.lt
  have b2' := b2.below hb4 b2.lt
  have b3' := b3.below hb4 b3.lt
  have hbw4 : Below w.heap.size w w4 := hbw3.trans (hb4.mono hbw3.size)
  have hkw4 := hk.below hbw4 (Nat.le_refl _)
  clear b0 b1 b2 b3 hbw3 hkw3 l2 l3 hb4
  have l2 : w4.cell? ⟨w.heap.size, 2, none⟩ = some (.slice A1 n1 c1) := b0'.cell 2
  have l3 : w4.cell? ⟨w.heap.size, 3, none⟩ = some (.int .i64 (s : Int)) := b0'.cell 3
  have g3 : ((G : Int) == 4294967295) = false := by simp; omega
  go_wp2_with fail
  refine (HC5.out _ hkw4).mono ?_
  rintro e w5 ⟨rfl, rfl⟩
  have g4 : (s : Int) ≤ (n1 : Int) := by omega
  generalize hSLV : (if c1 = s then A1 else A1.map fun x => x.add s) = A2 at *
  have g5 : (if c1 = s then A1 else Option.map (fun x => x.add s) A1) = A2 := hSLV
  go_wp2_with fail
  have hn13 : n1 - s ≤ 4096 := by omega
  have HR65 := Lib.hid (fun x (h : x ∈ rs.drop s) => HX65.out x (List.mem_of_mem_drop h))
  have HRL := Lib.hid (show (rs.drop s).length = n1 - s from by rw [List.length_drop, HRN.out])
  have hI : SInv w D f m s n1 c1 A1 w4 D ⟨xs, l, t, false⟩ (some ⟨b, o, none⟩) n c := ⟨Grow.of_below hk hbw4, b0', b1', b2', b3', hs, hlw⟩
  generalize hR : rs.drop s = R at *
  clear hR b0' b1' b2' b3' hbw4 hkw4 l2 l3 HC1 HC2 HC3 HC4 HC5 htk hr HX65 hSLV g5 H128
  obtain ⟨N, hN⟩ : ∃ N, N = G + 1 := ⟨_, rfl⟩
  have eN : IntKind.u32.wrap ((G : Int) + 1) = (N : Int) := by rw [IntKind.wrap_u32]; omega
  have hN2 : N < 4294967296 := by omega
  have HXX := Lib.hid (show X = syncW ⟨xs, l, t, false⟩ (f + k0) (recsS N k0 R) from by rw [hN]; exact HX.out)
  have hoR : k0 + occs R ≤ m := by omega
  clear hN hosum HX hs2 hxo hbyt ho
  generalize hnr : n1 - s = nr at *
  generalize hd0 : (⟨xs, l, t, false⟩ : Dsk) = d0 at *
  clear hnr hd0
  go_loopw [11, 83] (fun kk jj wr => ∃ (j : Nat) (D1 : Gh) (d : Dsk) (xA : Option Addr) (xn xc : Nat), jj = .int .i64 (j : Int) ∧ kk = .int .i64 ((k0 + occs (R.take j) : Nat) : Int) ∧ j ≤ nr ∧ SInv w D f m s n1 c1 A1 wr D1 d xA xn xc ∧ Hid (syncW d0 (f + k0) ((recsS N k0 R).take (occs (R.take j))) = (d, 0))) (fun _ jj _ => nr - (intOf jj).toNat)
  case atStart => exact ⟨0, D, d0, some ⟨b, o, none⟩, n, c, rfl, by simp [occs], Nat.zero_le _, hI, Lib.hid (by simp [occs, syncW])⟩
  case round =>
    obtain ⟨j, D1, d, xA, xn, xc, rfl, rfl, hj, hI, HSY⟩ := hrel
    generalize wr = wo at *
    by_cases hlt : j < nr
    · have hjR : j < R.length := by rw [HRL.out]; exact hlt
      have hkI := hI.grow.keeps
      obtain ⟨b2, o2, a2, c2, rfl, hcu, hbs⟩ := (hdr.le hI.grow.le).at_ hkI (k := j) hjR
      have hRj : R[j]? = some (R[j]'hjR) := List.getElem?_eq_getElem _
      have h65 := HR65.out _ (List.getElem_mem hjR)
      have HT := Lib.hid (occs_take R j _ hRj)
      have hole := occs_le R (j + 1)
      rw [HT.out] at hole
      have HRJ := Lib.hid hRj
      generalize R[j]'hjR = bb at *
      have HAT := Lib.hid (fun i hi => recsS_at N R k0 j i bb HRJ.out hi)
      have HCUT := Lib.hid (fun W (hW : Keeps D1 W) => cut_c a2 bb.length c2 bb N h65 D1 W hW hbs)
      have hmn := occ_le_piece h65
      generalize hqj : occs (R.take j) = qj at *
      clear hRj hbs h65
      generalize hml : occ bb.length = many at *
      generalize hlb : bb.length = lb at *
      clear hqj hml hlb
      have g1 : (j : Int) < (nr : Int) := by omega
      have g0 : (0 : Int) ≤ (j : Int) := by omega
      go_wp2_with fail
      refine (HCUT.out _ hkI).mono ?_
      rintro e wc ⟨Ac, cc, D2, pv, rfl, hgc, hsl, hpv⟩
      have hIc := hI.on hgc
      have hDc := hI.grow.le
      clear hI hcu HCUT hkI
      go_wp2_with fail
      go_loopw [11, 92] (fun kk ii wr => ∃ (i : Nat) (D3 : Gh) (d3 : Dsk) (yA : Option Addr) (yn yc : Nat), ii = .int .i64 (i : Int) ∧ kk = .int .i64 ((k0 + (qj + i) : Nat) : Int) ∧ i ≤ many ∧ D2.le D3 ∧ SInv w D f m s n1 c1 A1 wr D3 d3 yA yn yc ∧ Hid (syncW d0 (f + k0) ((recsS N k0 R).take (qj + i)) = (d3, 0))) (fun _ ii _ => many - (intOf ii).toNat)
      case atStart => exact ⟨0, D2, d, xA, xn, xc, rfl, rfl, Nat.zero_le _, Gh.le.refl _, hIc, HSY⟩
      case round =>
        obtain ⟨i, D3, ⟨ys, l3, t3, p3⟩, yA, yn, yc, rfl, rfl, hi, hD3, hI, HSZ⟩ := hrel
        by_cases hil : i < many
        · have hk3 := hI.grow.keeps
          obtain ⟨_, _, _, hcm3, hcells⟩ := (hsl.le hD3).cells hk3
          obtain ⟨bc, oc, rfl, hcc⟩ := hcells (by omega)
          obtain ⟨e0, e1, e2⟩ := cutV_at N many pv many i hil
          obtain ⟨Ai, mi, ci, hpi, hbi⟩ := hpv i hil
          rw [hpi] at e2
          have c0 : wr.cell? ⟨bc, oc + i * 3, none⟩ = some (.int .u32 (N : Int)) := by have h := hcc _ _ e0; rw [show oc + (3 * i + 0) = oc + i * 3 by omega] at h; exact h
          have c1' : wr.cell? ⟨bc, oc + i * 3 + 1, none⟩ = some (.int .i64 (flagP many true i : Nat)) := by have h := hcc _ _ e1; rw [show oc + (3 * i + 1) = oc + i * 3 + 1 by omega] at h; exact h
          have c2' : wr.cell? ⟨bc, oc + i * 3 + 2, none⟩ = some (.slice Ai mi ci) := by have h := hcc _ _ e2; rw [show oc + (3 * i + 2) = oc + i * 3 + 2 by omega] at h; exact h
          have hml := pieceS_len bb i
          have hbl := hbi.len
          have hmi : mi ≤ 112 := by omega
          have HENC := Lib.hid (fun W (hW : Keeps D3 W) => encode_c N hN2 (flagP many true i) (flagP_le many i) Ai mi ci (pieceS bb i) hmi (k0 + (qj + i)) (by omega) D3 W hW (hbi.le hD3))
          have hkp64 : k0 + (qj + i) < 4096 := by omega
          have HY := Lib.hid (show (recsS N k0 R)[qj + i]? = some (encS N (k0 + (qj + i)) (flagP many true i) (pieceS bb i)) from by rw [← Nat.add_assoc k0]; exact HAT.out i hil)
          have HPOS := Lib.hid (show ((f + k0 + (qj + i) : Nat) : Int) = (f : Int) + ((k0 + (qj + i) : Nat) : Int) from by omega)
          have HK1 := Lib.hid (show k0 + (qj + (i + 1)) = k0 + (qj + i) + 1 from by omega)
          have HNX := Lib.hid (syncW_next HSZ.out HY.out)
          rw [HPOS.out] at HNX
          generalize k0 + (qj + i) = kp at *
          generalize hfl : flagP many true i = fl at *
          generalize encS N kp fl (pieceS bb i) = ye at *
          clear hfl e0 e1 e2 hpi hbi hml hbl hcells hcc
          have g3 : (i : Int) < (many : Int) := by omega
          have g4 : (0 : Int) ≤ (i : Int) := by omega
          go_wp2_with fail
          have hI4 := hI.on ((Grow.refl hk3).alloc (.cells #[.int .u32 (N : Int), .int .i64 (fl : Int), .slice Ai mi ci] 84))
          have hBs := Box.new hk3 84 #[.int .u32 (N : Int), .int .i64 (fl : Int), .slice Ai mi ci]
          generalize hgs : wr.heap.size = gs at *
          clear hgs
          generalize wr.alloc (.cells #[.int .u32 (N : Int), .int .i64 (fl : Int), .slice Ai mi ci] 84) = W4 at *
          have HWR := Lib.hid (fun (W : World) (D' : Gh) (A8 : Option Addr) (c8 : Nat) (hW : Keeps D' W) (hle : D3.le D') (h8 : BS D' (.slice A8 128 c8) ye) => write_c yA yn yc ys l3 t3 ((f : Int) + (kp : Int)) p3 A8 128 c8 ye D' W hW (hI.ss.le hle) h8 hI.left)
          have hl9 := writeF_left (d := ⟨ys, l3, t3, p3⟩) (a := (f : Int) + (kp : Int)) (b := ye) (by omega : (0 : Int) ≤ 9223372036854775807) hI.left
          generalize writeF ⟨ys, l3, t3, p3⟩ ((f : Int) + (kp : Int)) ye = r at *
          obtain ⟨⟨ys9, l9, t9, p9⟩, code⟩ := r
          dsimp only at HWR hl9
          have ef : IntKind.i64.wrap ((f : Int) + (kp : Int)) = (f : Int) + (kp : Int) := by rw [IntKind.wrap_i64]; omega
          have bD : Box W4 D3 (w.heap.size + 1) 26 #[.slice yA yn yc, .int .i64 l3, .int .i64 t3, .bool p3] := hI4.dsk
          have bL := hI4.log
          have hk4 := hI4.grow.keeps
          have hltD := bD.lt
          have hltL := bL.lt
          have q0 : W4.cell? ⟨w.heap.size + 1, 0, none⟩ = some (.slice yA yn yc) := bD.cell 0
          have q1 : W4.cell? ⟨w.heap.size + 1, 1, none⟩ = some (.int .i64 l3) := bD.cell 1
          have q2 : W4.cell? ⟨w.heap.size + 1, 2, none⟩ = some (.int .i64 t3) := bD.cell 2
          have q3 : W4.cell? ⟨w.heap.size + 1, 3, none⟩ = some (.bool p3) := bD.cell 3
          have lf : W4.cell? ⟨w.heap.size, 0, none⟩ = some (.int .i64 (f : Int)) := bL.cell 0
          have s0 : W4.cell? ⟨gs, 0, none⟩ = some (.int .u32 (N : Int)) := hBs.cell 0
          have s1 : W4.cell? ⟨gs, 1, none⟩ = some (.int .i64 (fl : Int)) := hBs.cell 1
          have s2 : W4.cell? ⟨gs, 2, none⟩ = some (.slice Ai mi ci) := hBs.cell 2
          have SHD : Hid (∀ W D', Box W D' (w.heap.size + 1) 26 #[.slice yA yn yc, .int .i64 l3, .int .i64 t3, .bool p3] → (W.cell? ⟨w.heap.size + 1, 0, none⟩ = some (.slice yA yn yc) ∧ W.cell? ⟨w.heap.size + 1, 1, none⟩ = some (.int .i64 l3) ∧ W.cell? ⟨w.heap.size + 1, 2, none⟩ = some (.int .i64 t3) ∧ W.cell? ⟨w.heap.size + 1, 3, none⟩ = some (.bool p3))) := fun W D' h => h.cells4
          have SHL : Hid (∀ W D', Box W D' w.heap.size 47 #[.int .i64 (f : Int), .int .i64 (m : Int), .slice A1 n1 c1, .int .i64 (s : Int)] → W.cell? ⟨w.heap.size, 0, none⟩ = some (.int .i64 (f : Int))) := fun W D' h => h.cell 0
          have SHF : Hid (∀ W D', Box W D' (w.heap.size + 1) 26 #[.slice yA yn yc, .int .i64 l3, .int .i64 t3, .bool p3] → ∀ i, W.frozen? ⟨w.heap.size + 1, i, none⟩ = false) := fun W D' h => h.frozen
          clear c0 c1' c2' hBs hI hk3
          go_cut [6] (fun x wx => ∃ (D5 : Gh) (zA : Option Addr) (zn zc : Nat), x = .int .i64 code ∧ D3.le D5 ∧ SInv w D f m s n1 c1 A1 wx D5 ⟨ys9, l9, t9, p9⟩ zA zn zc)
          case first =>
            go_region_law (first
              | (go_simp; go_at_call 61; refine (HENC.out _ (by repeat (with_reducible first | assumption | refine Keeps.drew ?_ | refine Keeps.drewN ?_ _ | refine Keeps.alloc ?_ _ | exact Grow.keeps (by assumption)))).mono ?_; rintro e w8 ⟨A8, c8, D8, rfl, hg8, hb8⟩; have bx8 : Box w8 D8 (w.heap.size + 1) 26 #[.slice yA yn yc, .int .i64 l3, .int .i64 t3, .bool p3] := Box.grow (by (repeat (with_reducible first | assumption | refine Box.drew ?_ | refine Box.alloc ?_ _)); done) hg8; have bl8 : Box w8 D8 w.heap.size 47 #[.int .i64 (f : Int), .int .i64 (m : Int), .slice A1 n1 c1, .int .i64 (s : Int)] := Box.grow (by (repeat (with_reducible first | assumption | refine Box.drew ?_ | refine Box.alloc ?_ _)); done) hg8; obtain ⟨r0, r1, r2, r3⟩ := SHD.out _ _ bx8; have lf8 := SHL.out _ _ bl8)
              | (go_simp; go_at_call 19; refine (HWR.out _ D8 A8 c8 (by repeat (with_reducible first | assumption | refine Keeps.drew ?_ | refine Keeps.drewN ?_ _ | refine Keeps.alloc ?_ _ | exact Grow.keeps (by assumption))) hg8.le hb8).mono ?_; rintro e w9 ⟨a9, n9, c9, D9, rfl, hg9, hs9⟩; have bx9 : Box w9 D9 (w.heap.size + 1) 26 #[.slice yA yn yc, .int .i64 l3, .int .i64 t3, .bool p3] := Box.grow (by (repeat (with_reducible first | assumption | refine Box.drew ?_ | refine Box.alloc ?_ _)); done) hg9; have f9 := SHF.out _ _ bx9; obtain ⟨u0, u1, u2, u3⟩ := SHD.out _ _ bx9))
            all_goals
              go_wp2_with fail
              go_meet
              have hgg := ((Grow.refl hk4).drew.trans hg8).trans hg9
              exact ⟨D9, a9, n9, c9, rfl, hgg.le, SInv.put (hI4.on hgg) ⟨ys9, l9, t9, p9⟩ a9 n9 c9 hs9 hl9⟩
          case rest =>
            obtain ⟨D5, zA, zn, zc, rfl, hle5, hI5⟩ := hcut
            clear q0 q1 q2 q3 lf s0 s1 s2 hI4 bD bL hk4 hltD hltL SHD SHL SHF HENC HWR HY HPOS hl9
            generalize wc = W6 at *
            by_cases hc4 : code = 410
            · subst hc4
              have HXE := Lib.hid (show X = (⟨ys9, l9, t9, p9⟩, 410) from by rw [HXX.out]; exact HNX.out.2 (show (410 : Int) ≠ 0 by decide))
              have r4 : Box W6 D5 (w.heap.size + 1 + 1) 47 #[.int .i64 0, .int .i64 0, .slice none 0 0, .int .i64 0] := hI5.rl
              have r5 : Box W6 D5 (w.heap.size + 1 + 1 + 1) 26 #[.slice none 0 0, .int .i64 0, .int .i64 0, .bool false] := hI5.rd
              have r3 : Box W6 D5 (w.heap.size + 1) 26 #[.slice zA zn zc, .int .i64 l9, .int .i64 t9, .bool p9] := hI5.dsk
              have hG5 := hI5.grow
              have hs5 : SS D5 (.slice zA zn zc) ys9 := hI5.ss
              have q0 : W6.cell? ⟨w.heap.size + 1, 0, none⟩ = some (.slice zA zn zc) := r3.cell 0
              have q1 : W6.cell? ⟨w.heap.size + 1, 1, none⟩ = some (.int .i64 l9) := r3.cell 1
              have q2 : W6.cell? ⟨w.heap.size + 1, 2, none⟩ = some (.int .i64 t9) := r3.cell 2
              have q3 : W6.cell? ⟨w.heap.size + 1, 3, none⟩ = some (.bool p9) := r3.cell 3
              have u0 : W6.cell? ⟨w.heap.size + 1 + 1, 0, none⟩ = some (.int .i64 0) := r4.cell 0
              have u1 : W6.cell? ⟨w.heap.size + 1 + 1, 1, none⟩ = some (.int .i64 0) := r4.cell 1
              have u2 : W6.cell? ⟨w.heap.size + 1 + 1, 2, none⟩ = some (.slice none 0 0) := r4.cell 2
              have u3 : W6.cell? ⟨w.heap.size + 1 + 1, 3, none⟩ = some (.int .i64 0) := r4.cell 3
              have v0 : W6.cell? ⟨w.heap.size + 1 + 1 + 1, 0, none⟩ = some (.slice none 0 0) := r5.cell 0
              have v1 : W6.cell? ⟨w.heap.size + 1 + 1 + 1, 1, none⟩ = some (.int .i64 0) := r5.cell 1
              have v2 : W6.cell? ⟨w.heap.size + 1 + 1 + 1, 2, none⟩ = some (.int .i64 0) := r5.cell 2
              have v3 : W6.cell? ⟨w.heap.size + 1 + 1 + 1, 3, none⟩ = some (.bool false) := r5.cell 3
              have f4 := r4.frozen
              have f5 := r5.frozen
              go_wp2_with fail
              go_region_law (fail)
              all_goals
                obtain ⟨hGF, bF4, bF5⟩ := fin2 hG5 r4 r5 (.int .i64 0) (.int .i64 0) (.slice none 0 0) (.int .i64 0) (.slice zA zn zc) (.int .i64 l9) (.int .i64 t9) (.bool p9)
                replace hGF := hGF.drew
                replace bF4 := bF4.drew
                replace bF5 := bF5.drew
                clear q0 q1 q2 q3 u0 u1 u2 u3 v0 v1 v2 v3 f4 f5 r3 r4 r5
                generalize ((((((((W6.setCell ⟨w.heap.size + 1 + 1, 0, none⟩ (.int .i64 0)).setCell ⟨w.heap.size + 1 + 1, 1, none⟩ (.int .i64 0)).setCell ⟨w.heap.size + 1 + 1, 2, none⟩ (.slice none 0 0)).setCell ⟨w.heap.size + 1 + 1, 3, none⟩ (.int .i64 0)).setCell ⟨w.heap.size + 1 + 1 + 1, 0, none⟩ (.slice zA zn zc)).setCell ⟨w.heap.size + 1 + 1 + 1, 1, none⟩ (.int .i64 l9)).setCell ⟨w.heap.size + 1 + 1 + 1, 2, none⟩ (.int .i64 t9)).setCell ⟨w.heap.size + 1 + 1 + 1, 3, none⟩ (.bool p9)).drew = WF at *
                have ca0 : WF.cell? ⟨w.heap.size + 1 + 1, 0, none⟩ = some (.int .i64 0) := bF4.cell 0
                have ca1 : WF.cell? ⟨w.heap.size + 1 + 1, 1, none⟩ = some (.int .i64 0) := bF4.cell 1
                have ca2 : WF.cell? ⟨w.heap.size + 1 + 1, 2, none⟩ = some (.slice none 0 0) := bF4.cell 2
                have ca3 : WF.cell? ⟨w.heap.size + 1 + 1, 3, none⟩ = some (.int .i64 0) := bF4.cell 3
                have da0 : WF.cell? ⟨w.heap.size + 1 + 1 + 1, 0, none⟩ = some (.slice zA zn zc) := bF5.cell 0
                have da1 : WF.cell? ⟨w.heap.size + 1 + 1 + 1, 1, none⟩ = some (.int .i64 l9) := bF5.cell 1
                have da2 : WF.cell? ⟨w.heap.size + 1 + 1 + 1, 2, none⟩ = some (.int .i64 t9) := bF5.cell 2
                have da3 : WF.cell? ⟨w.heap.size + 1 + 1 + 1, 3, none⟩ = some (.bool p9) := bF5.cell 3
                go_wp2_with fail
                exact bodyPost_ret (v := .tuple #[log0, .agg #[.slice zA zn zc, .int .i64 l9, .int .i64 t9, .bool p9], .int .i64 410]) (by simp [results, Try.results44, go_sem, ca0, ca1, ca2, ca3, da0, da1, da2, da3, log0]) rfl ⟨zA, zn, zc, D5, hGF, by rw [HXE.out]; exact hs5, fun h => by rw [HXE.out] at h; exact absurd h (show ¬ (410 : Int) = 0 by decide), fun _ => by rw [HXE.out]⟩
            · by_cases hc0 : code = 0
              · subst hc0
                have HSN := Lib.hid (HNX.out.1 rfl)
                have e1 : IntKind.i64.wrap ((kp : Int) + 1) = (kp : Int) + 1 := by rw [IntKind.wrap_i64]; omega
                clear hc4
                go_wp2
                go_roundw
                case rel => exact ⟨i + 1, D5, ⟨ys9, l9, t9, p9⟩, zA, zn, zc, rfl, by rw [HK1.out]; rfl, by omega, hD3.trans hle5, hI5, HSN.out⟩
                case measure => simp [intOf]; omega
              · have HXE := Lib.hid (show X = (⟨ys9, l9, t9, p9⟩, code) from by rw [HXX.out]; exact HNX.out.2 hc0)
                have HC0 := Lib.hid (And.intro hc0 hc4)
                have g410 : (code == 410) = false := by simp; exact hc4
                have g0' : (code != 0) = true := by simp; exact hc0
                have r4 : Box W6 D5 (w.heap.size + 1 + 1) 47 #[.int .i64 0, .int .i64 0, .slice none 0 0, .int .i64 0] := hI5.rl
                have r5 : Box W6 D5 (w.heap.size + 1 + 1 + 1) 26 #[.slice none 0 0, .int .i64 0, .int .i64 0, .bool false] := hI5.rd
                have hG5 := hI5.grow
                have hs5 : SS D5 (.slice zA zn zc) ys9 := hI5.ss
                have u0 : W6.cell? ⟨w.heap.size + 1 + 1, 0, none⟩ = some (.int .i64 0) := r4.cell 0
                have u1 : W6.cell? ⟨w.heap.size + 1 + 1, 1, none⟩ = some (.int .i64 0) := r4.cell 1
                have u2 : W6.cell? ⟨w.heap.size + 1 + 1, 2, none⟩ = some (.slice none 0 0) := r4.cell 2
                have u3 : W6.cell? ⟨w.heap.size + 1 + 1, 3, none⟩ = some (.int .i64 0) := r4.cell 3
                have v0 : W6.cell? ⟨w.heap.size + 1 + 1 + 1, 0, none⟩ = some (.slice none 0 0) := r5.cell 0
                have v1 : W6.cell? ⟨w.heap.size + 1 + 1 + 1, 1, none⟩ = some (.int .i64 0) := r5.cell 1
                have v2 : W6.cell? ⟨w.heap.size + 1 + 1 + 1, 2, none⟩ = some (.int .i64 0) := r5.cell 2
                have v3 : W6.cell? ⟨w.heap.size + 1 + 1 + 1, 3, none⟩ = some (.bool false) := r5.cell 3
                have f4 := r4.frozen
                have f5 := r5.frozen
                clear hc0 hc4
                go_wp2_with fail
                obtain ⟨hGF, bF4, bF5⟩ := fin2 hG5 r4 r5 (.int .i64 0) (.int .i64 0) (.slice none 0 0) (.int .i64 0) (.slice none 0 0) (.int .i64 0) (.int .i64 0) (.bool false)
                clear u0 u1 u2 u3 v0 v1 v2 v3 f4 f5 r4 r5
                generalize ((((((((W6.setCell ⟨w.heap.size + 1 + 1, 0, none⟩ (.int .i64 0)).setCell ⟨w.heap.size + 1 + 1, 1, none⟩ (.int .i64 0)).setCell ⟨w.heap.size + 1 + 1, 2, none⟩ (.slice none 0 0)).setCell ⟨w.heap.size + 1 + 1, 3, none⟩ (.int .i64 0)).setCell ⟨w.heap.size + 1 + 1 + 1, 0, none⟩ (.slice none 0 0)).setCell ⟨w.heap.size + 1 + 1 + 1, 1, none⟩ (.int .i64 0)).setCell ⟨w.heap.size + 1 + 1 + 1, 2, none⟩ (.int .i64 0)).setCell ⟨w.heap.size + 1 + 1 + 1, 3, none⟩ (.bool false)) = WF at *
                have ca0 : WF.cell? ⟨w.heap.size + 1 + 1, 0, none⟩ = some (.int .i64 0) := bF4.cell 0
                have ca1 : WF.cell? ⟨w.heap.size + 1 + 1, 1, none⟩ = some (.int .i64 0) := bF4.cell 1
                have ca2 : WF.cell? ⟨w.heap.size + 1 + 1, 2, none⟩ = some (.slice none 0 0) := bF4.cell 2
                have ca3 : WF.cell? ⟨w.heap.size + 1 + 1, 3, none⟩ = some (.int .i64 0) := bF4.cell 3
                have da0 : WF.cell? ⟨w.heap.size + 1 + 1 + 1, 0, none⟩ = some (.slice none 0 0) := bF5.cell 0
                have da1 : WF.cell? ⟨w.heap.size + 1 + 1 + 1, 1, none⟩ = some (.int .i64 0) := bF5.cell 1
                have da2 : WF.cell? ⟨w.heap.size + 1 + 1 + 1, 2, none⟩ = some (.int .i64 0) := bF5.cell 2
                have da3 : WF.cell? ⟨w.heap.size + 1 + 1 + 1, 3, none⟩ = some (.bool false) := bF5.cell 3
                exact bodyPost_ret (v := .tuple #[log0, .agg #[.slice none 0 0, .int .i64 0, .int .i64 0, .bool false], .int .i64 code]) (by simp [results, Try.results44, go_sem, ca0, ca1, ca2, ca3, da0, da1, da2, da3, log0]) rfl ⟨zA, zn, zc, D5, hGF, by rw [HXE.out]; exact hs5, fun h => absurd (by rw [HXE.out] at h; exact h) HC0.out.1, fun h => absurd (by rw [HXE.out] at h; exact h) HC0.out.2⟩
        · obtain rfl : i = many := by omega
          have HSE := Lib.hid (show syncW d0 (f + k0) ((recsS N k0 R).take (occs (R.take (j + 1)))) = (⟨ys, l3, t3, p3⟩, 0) from by rw [HT.out]; exact HSZ.out)
          have HK2 := Lib.hid (show ((k0 + (qj + i) : Nat) : Int) = ((k0 + occs (R.take (j + 1)) : Nat) : Int) from by rw [HT.out])
          rw [HK2.out]
          generalize hkq : k0 + occs (R.take (j + 1)) = kq at *
          have HKQ := Lib.hid hkq
          clear hkq
          go_wp2
          go_roundw
          case rel => exact ⟨j + 1, D3, ⟨ys, l3, t3, p3⟩, yA, yn, yc, by go_num, by rw [HKQ.out], by omega, hI, HSE⟩
          case measure => simp [intOf]; omega
    · obtain rfl : j = nr := by omega
      have HXE := Lib.hid (show X = (d, 0) from by
        rw [HXX.out, ← HSY.out]
        congr 1
        rw [List.take_of_length_le]
        rw [recsS_len, List.take_of_length_le (by rw [HRL.out]; exact Nat.le_refl _)]
        exact Nat.le_refl _)
      obtain ⟨yd, ld, td, pd⟩ := d
      have r4 : Box wo D1 (w.heap.size + 1 + 1) 47 #[.int .i64 0, .int .i64 0, .slice none 0 0, .int .i64 0] := hI.rl
      have r5 : Box wo D1 (w.heap.size + 1 + 1 + 1) 26 #[.slice none 0 0, .int .i64 0, .int .i64 0, .bool false] := hI.rd
      have r3 : Box wo D1 (w.heap.size + 1) 26 #[.slice xA xn xc, .int .i64 ld, .int .i64 td, .bool pd] := hI.dsk
      have r2 := hI.log
      have hs5 : SS D1 (.slice xA xn xc) yd := hI.ss
      have l2 : wo.cell? ⟨w.heap.size, 2, none⟩ = some (.slice A1 n1 c1) := r2.cell 2
      have l3 : wo.cell? ⟨w.heap.size, 3, none⟩ = some (.int .i64 (s : Int)) := r2.cell 3
      have fl3 : wo.frozen? ⟨w.heap.size, 3, none⟩ = false := r2.frozen 3
      have hG5 := Grow.setNew hI.grow (p := ⟨w.heap.size, 3, none⟩) (Nat.le_refl _) r2.off (.int .i64 (n1 : Int))
      replace r4 := r4.far (p := ⟨w.heap.size, 3, none⟩) (by first | (simp; done) | (simp; omega)) (.int .i64 (n1 : Int))
      replace r5 := r5.far (p := ⟨w.heap.size, 3, none⟩) (by first | (simp; done) | (simp; omega)) (.int .i64 (n1 : Int))
      replace r3 := r3.far (p := ⟨w.heap.size, 3, none⟩) (by first | (simp; done) | (simp; omega)) (.int .i64 (n1 : Int))
      have r2' : Box (wo.setCell ⟨w.heap.size, 3, none⟩ (.int .i64 (n1 : Int))) D1 w.heap.size 47 #[.int .i64 (f : Int), .int .i64 (m : Int), .slice A1 n1 c1, .int .i64 (n1 : Int)] := r2.set_ 3 _
      clear hI HSY
      go_wp2_with fail
      clear l2 l3 fl3 r2
      generalize wo.setCell ⟨w.heap.size, 3, none⟩ (.int .i64 (n1 : Int)) = W6 at *
      have m0 : W6.cell? ⟨w.heap.size, 0, none⟩ = some (.int .i64 (f : Int)) := r2'.cell 0
      have m1 : W6.cell? ⟨w.heap.size, 1, none⟩ = some (.int .i64 (m : Int)) := r2'.cell 1
      have m2 : W6.cell? ⟨w.heap.size, 2, none⟩ = some (.slice A1 n1 c1) := r2'.cell 2
      have m3 : W6.cell? ⟨w.heap.size, 3, none⟩ = some (.int .i64 (n1 : Int)) := r2'.cell 3
      have q0 : W6.cell? ⟨w.heap.size + 1, 0, none⟩ = some (.slice xA xn xc) := r3.cell 0
      have q1 : W6.cell? ⟨w.heap.size + 1, 1, none⟩ = some (.int .i64 ld) := r3.cell 1
      have q2 : W6.cell? ⟨w.heap.size + 1, 2, none⟩ = some (.int .i64 td) := r3.cell 2
      have q3 : W6.cell? ⟨w.heap.size + 1, 3, none⟩ = some (.bool pd) := r3.cell 3
      have u0 : W6.cell? ⟨w.heap.size + 1 + 1, 0, none⟩ = some (.int .i64 0) := r4.cell 0
      have u1 : W6.cell? ⟨w.heap.size + 1 + 1, 1, none⟩ = some (.int .i64 0) := r4.cell 1
      have u2 : W6.cell? ⟨w.heap.size + 1 + 1, 2, none⟩ = some (.slice none 0 0) := r4.cell 2
      have u3 : W6.cell? ⟨w.heap.size + 1 + 1, 3, none⟩ = some (.int .i64 0) := r4.cell 3
      have v0 : W6.cell? ⟨w.heap.size + 1 + 1 + 1, 0, none⟩ = some (.slice none 0 0) := r5.cell 0
      have v1 : W6.cell? ⟨w.heap.size + 1 + 1 + 1, 1, none⟩ = some (.int .i64 0) := r5.cell 1
      have v2 : W6.cell? ⟨w.heap.size + 1 + 1 + 1, 2, none⟩ = some (.int .i64 0) := r5.cell 2
      have v3 : W6.cell? ⟨w.heap.size + 1 + 1 + 1, 3, none⟩ = some (.bool false) := r5.cell 3
      have f4 := r4.frozen
      have f5 := r5.frozen
      go_region_law (fail)
      all_goals
        obtain ⟨hGF, bF4, bF5⟩ := fin2 hG5 r4 r5 (.int .i64 (f : Int)) (.int .i64 (m : Int)) (.slice A1 n1 c1) (.int .i64 (n1 : Int)) (.slice xA xn xc) (.int .i64 ld) (.int .i64 td) (.bool pd)
        replace hGF := hGF.drew
        replace bF4 := bF4.drew
        replace bF5 := bF5.drew
        clear q0 q1 q2 q3 m0 m1 m2 m3 u0 u1 u2 u3 v0 v1 v2 v3 f4 f5 r2' r3 r4 r5
        generalize ((((((((W6.setCell ⟨w.heap.size + 1 + 1, 0, none⟩ (.int .i64 (f : Int))).setCell ⟨w.heap.size + 1 + 1, 1, none⟩ (.int .i64 (m : Int))).setCell ⟨w.heap.size + 1 + 1, 2, none⟩ (.slice A1 n1 c1)).setCell ⟨w.heap.size + 1 + 1, 3, none⟩ (.int .i64 (n1 : Int))).setCell ⟨w.heap.size + 1 + 1 + 1, 0, none⟩ (.slice xA xn xc)).setCell ⟨w.heap.size + 1 + 1 + 1, 1, none⟩ (.int .i64 ld)).setCell ⟨w.heap.size + 1 + 1 + 1, 2, none⟩ (.int .i64 td)).setCell ⟨w.heap.size + 1 + 1 + 1, 3, none⟩ (.bool pd)).drew = WF at *
        have ca0 : WF.cell? ⟨w.heap.size + 1 + 1, 0, none⟩ = some (.int .i64 (f : Int)) := bF4.cell 0
        have ca1 : WF.cell? ⟨w.heap.size + 1 + 1, 1, none⟩ = some (.int .i64 (m : Int)) := bF4.cell 1
        have ca2 : WF.cell? ⟨w.heap.size + 1 + 1, 2, none⟩ = some (.slice A1 n1 c1) := bF4.cell 2
        have ca3 : WF.cell? ⟨w.heap.size + 1 + 1, 3, none⟩ = some (.int .i64 (n1 : Int)) := bF4.cell 3
        have da0 : WF.cell? ⟨w.heap.size + 1 + 1 + 1, 0, none⟩ = some (.slice xA xn xc) := bF5.cell 0
        have da1 : WF.cell? ⟨w.heap.size + 1 + 1 + 1, 1, none⟩ = some (.int .i64 ld) := bF5.cell 1
        have da2 : WF.cell? ⟨w.heap.size + 1 + 1 + 1, 2, none⟩ = some (.int .i64 td) := bF5.cell 2
        have da3 : WF.cell? ⟨w.heap.size + 1 + 1 + 1, 3, none⟩ = some (.bool pd) := bF5.cell 3
        go_wp2_with fail
        exact bodyPost_ret (v := .tuple #[.agg #[.int .i64 (f : Int), .int .i64 (m : Int), .slice A1 n1 c1, .int .i64 (n1 : Int)], .agg #[.slice xA xn xc, .int .i64 ld, .int .i64 td, .bool pd], .int .i64 0]) (by simp [results, Try.results44, go_sem, ca0, ca1, ca2, ca3, da0, da1, da2, da3]) rfl ⟨xA, xn, xc, D1, hGF, by rw [HXE.out]; exact hs5, fun _ => by rw [HXE.out], fun h => by rw [HXE.out] at h; exact absurd h (show ¬ (0 : Int) = 410 by decide)⟩
end Go.Proofs.Ytegkmkglagmdiaa
