/-
  What is proved here: the law WalDamage answers true at every list of records and every change
-/
import Derived.Test.YtegkmkglagmdiaaRows
import Derived.Test.YtegkmkglagmdiaaBaseB
import Derived.Test.YtegkmkglagmdiaaCrc
import Derived.Test.YtegkmkglagmdiaaWalP
import Derived.Test.YtegkmkglagmdiaaWalA
import Derived.Test.YtegkmkglagmdiaaWalB
import Derived.Test.YtegkmkglagmdiaaWalC
import Derived.Test.YtegkmkglagmdiaaWalD
import Derived.Test.YtegkmkglagmdiaaWalE
import Derived.Test.YtegkmkglagmdiaaDiskF
import Derived.Test.YtegkmkglagmdiaaDiskH
import Derived.Test.YtegkmkglagmdiaaWalF
import Derived.Test.YtegkmkglagmdiaaRangeF
import Derived.Test.YtegkmkglagmdiaaWalG
import Derived.Test.YtegkmkglagmdiaaWalH
import Derived.Test.YtegkmkglagmdiaaWalI
import Derived.Test.YtegkmkglagmdiaaWalJ
import Derived.Test.YtegkmkglagmdiaaWalK
import Derived.Test.YtegkmkglagmdiaaWalL
import Derived.Test.YtegkmkglagmdiaaWalS
import Derived.Test.YtegkmkglagmdiaaWalT
import Derived.Test.YtegkmkglagmdiaaWalU
import Derived.Test.YtegkmkglagmdiaaWalV
import Derived.Test.YtegkmkglagmdiaaWalQ
import Derived.Test.YtegkmkglagmdiaaWalR
import Derived.Test.YtegkmkglagmdiaaWalZ
import Derived.Test.YtegkmkglagmdiaaWalZB
import Derived.Test.YtegkmkglagmdiaaDiskI
import Derived.OwnWalkIn
import Derived.TacticsInMore
import Derived.LoopNIn
import Derived.LoopIn
import Derived.Scope
import Derived.Deep.CutBlock
import Derived.Deep.DeepCutAuto
import Derived.StillTailTactics
import Derived.Shelf.Abstract
import Derived.RangeFuncCalls
import Derived.Laws.BitsAllLaws
import Derived.Deep.RegionHeld3
import Derived.Deep.RegionLaw
import Derived.Deep.DeepCutAuto
import Derived.Deep.QuietTactic
import Derived.BigQuiet
import Derived.Laws.EntriesVeiled
import Derived.Deep.MidRow
import Derived.Laws.CopyRow
namespace Go.Proofs.Ytegkmkglagmdiaa
open Go.RowKit Go.VS
theorem info3 : (Try.prog.info? 3).map (fun i => (i.zero, i.size, i.bytes)) = some (some (.int .i64 0), 1, 8) := by kernel_rfl
def endsV (xs : List (List UInt8)) (j : Nat) : List Value := (List.range j).map fun i => .int .i64 ((occs (xs.take (i + 1)) : Nat) : Int)
theorem endsV_succ (xs : List (List UInt8)) (j : Nat) : endsV xs (j + 1) = endsV xs j ++ [.int .i64 ((occs (xs.take (j + 1)) : Nat) : Int)] := by unfold endsV; rw [List.range_succ, List.map_append]; rfl
theorem endsV_len (xs : List (List UInt8)) (j : Nat) : (endsV xs j).length = j := by simp [endsV]
theorem endsV_at (xs : List (List UInt8)) {i j : Nat} (h : i < j) : (endsV xs j)[i]? = some (.int .i64 ((occs (xs.take (i + 1)) : Nat) : Int)) := by
  unfold endsV; rw [List.getElem?_map, List.getElem?_range h]; rfl
theorem rem_nat (sec : Int) (o : Nat) (ho : 0 < o) (ho2 : o ≤ 1000) : ∃ k : Nat, wrap64 ((IntKind.u64.wrap sec).tmod (o : Int)) = (k : Int) ∧ k < o := by
  have h0 : 0 ≤ IntKind.u64.wrap sec := by rw [IntKind.wrap_u64]; omega
  rw [Int.tmod_eq_emod_of_nonneg h0]
  have h1 := Int.emod_nonneg (IntKind.u64.wrap sec) (show (o : Int) ≠ 0 by omega)
  have h2 := Int.emod_lt_of_pos (IntKind.u64.wrap sec) (show (0 : Int) < o by omega)
  refine ⟨(IntKind.u64.wrap sec % (o : Int)).toNat, ?_, by omega⟩
  unfold wrap64
  omega
theorem rem_at (a : Int) : ∃ m : Nat, (IntKind.u64.wrap a).tmod 128 = (m : Int) ∧ m < 128 := by
  have h0 : 0 ≤ IntKind.u64.wrap a := by rw [IntKind.wrap_u64]; omega
  rw [Int.tmod_eq_emod_of_nonneg h0]
  exact ⟨(IntKind.u64.wrap a % 128).toNat, by omega, by omega⟩
theorem dxor (a b : Nat) (ha : a < 256) (hb : b < 256) : bits .xor .u8 (a : Int) (b : Int) = ((a ^^^ b : Nat) : Int) := by
  have hx : a ^^^ b < 2 ^ 8 := Nat.xor_lt_two_pow (by omega) (by omega)
  show IntKind.u8.wrap ((BitVec.ofInt 8 (a : Int) ^^^ BitVec.ofInt 8 (b : Int)).toNat : Int) = _
  rw [BitVec.toNat_xor, BitVec.ofInt_natCast, BitVec.toNat_ofNat, BitVec.ofInt_natCast, BitVec.toNat_ofNat, Nat.mod_eq_of_lt (by omega), Nat.mod_eq_of_lt (by omega), IntKind.wrap_u8]
  omega
/-- what stays true while records are appended. -/
structure DInv (w : World) (D D5 : Gh) (gb : Nat) (xs : List (List UInt8)) (wr : World) (D7 : Gh) (A7 : Option Addr) (c7 : Nat) (E : Value) (j : Nat) : Prop where
  grow : Grow w D wr D7
  le : D5.le D7
  box : Box wr D7 gb 47 #[.int .i64 0, .int .i64 40, .slice A7 j c7, .int .i64 0]
  ss : SS D7 (.slice A7 j c7) (xs.take j)
  own : wr.ownsRow w.heap.size 3 1 E j (endsV xs j)
  off : ∀ g, E.ownBlock = some g → D7.off g
  lens : Hid (occs (xs.take j) ≤ 40 ∧ ∀ x ∈ xs.take j, x.length ≤ 65536)
theorem DInv.fin {w : World} {D D5 : Gh} {gb : Nat} {xs : List (List UInt8)} {wr : World} {D7 : Gh} {A7 : Option Addr} {c7 : Nat} {E : Value} {j : Nat} (h : DInv w D D5 gb xs wr D7 A7 c7 E j) (hgb : w.heap.size ≤ gb) :
    ∃ D9 AE cE, E = .slice AE j cE ∧ Grow w D wr D9 ∧ D5.le D9 ∧ SS D9 (.slice A7 j c7) (xs.take j) ∧ (∀ o u, (#[.int .i64 0, .int .i64 40, .slice A7 j c7, .int .i64 0] : Array Value)[o]? = some u → D9 gb o = some u) ∧ Sl D9 (.slice AE j cE) (endsV xs j) ∧ Hid (occs (xs.take j) ≤ 40 ∧ ∀ x ∈ xs.take j, x.length ≤ 65536) := by
  obtain ⟨D8, g8, l8, sl8, o8⟩ := h.grow.pub h.own (Nat.le_refl _) h.off
  have hb8 := h.box.le (o8 gb h.box.off (h.box.ne_own h.own (by decide)))
  obtain ⟨D9, g9, l9, k9, _⟩ := pubW g8 hb8 hgb
  obtain ⟨AE, cE, hE, _⟩ := id sl8
  rw [endsV_len] at hE
  subst hE
  exact ⟨D9, AE, cE, rfl, g9, (h.le.trans l8).trans l9, (h.ss.le l8).le l9, k9, sl8.le l9, h.lens⟩
theorem DInv.form {w : World} {D D5 : Gh} {gb : Nat} {xs : List (List UInt8)} {wr : World} {D7 : Gh} {A7 : Option Addr} {c7 : Nat} {E : Value} {j : Nat} (h : DInv w D D5 gb xs wr D7 A7 c7 E j) :
    ∃ AE cE, E = .slice AE j cE ∧ ∀ i, i < j → ∃ b, AE = some ⟨b, 0, none⟩ ∧ wr.cell? ⟨b, i, none⟩ = some (.int .i64 ((occs (xs.take (i + 1)) : Nat) : Int)) := by
  rcases h.own.2 with ⟨rfl, h0⟩ | ⟨g, cap, cur, rfl, hg, hh, hnc, hcm, hsz, htk⟩
  · exact ⟨none, 0, by rw [h0], fun i hi => by omega⟩
  · refine ⟨some ⟨g, 0, none⟩, cap, rfl, fun i hi => ⟨g, rfl, ?_⟩⟩
    have := h.own.cells (g := g) rfl i _ (endsV_at xs hi)
    simpa [Addr.add_lit] using this
theorem own_ends {wr : World} {base j cE : Nat} {AE : Option Addr} {xs : List (List UInt8)} (h : wr.ownsRow base 3 1 (.slice AE j cE) j (endsV xs j)) :
    ∀ i, i < j → ∃ b, AE = some ⟨b, 0, none⟩ ∧ wr.cell? ⟨b, i, none⟩ = some (.int .i64 ((occs (xs.take (i + 1)) : Nat) : Int)) := by
  rcases h.2 with ⟨e, h0⟩ | ⟨g, cap, cur, e, hg, hh, hnc, hcm, hsz, htk⟩
  · exact fun i hi => by omega
  · cases e
    refine fun i hi => ⟨g, rfl, ?_⟩
    have := h.cells (g := g) rfl i _ (endsV_at xs hi)
    simpa [Addr.add_lit] using this
theorem DInv.on {w : World} {D D5 : Gh} {gb : Nat} {xs : List (List UInt8)} {wr wx : World} {D7 D8 : Gh} {A7 : Option Addr} {c7 : Nat} {E : Value} {j : Nat} (h : DInv w D D5 gb xs wr D7 A7 c7 E j) (hg : Grow wr D7 wx D8) : DInv w D D5 gb xs wx D8 A7 c7 E j :=
  ⟨h.grow.trans hg, h.le.trans hg.le, h.box.grow hg, h.ss.le hg.le, own_below h.own hg.below, fun g e => hg.off (h.own.lt g e).2 (h.off g e), h.lens⟩
set_option maxRecDepth 100000 in
set_option maxHeartbeats 20000000 in
theorem damage_walk (A : Option Addr) (n c : Nat) (xs : List (List UInt8)) (sec at_ : Int) (y : UInt8) (D : Gh) (w : World) (hk : Keeps D w) (hs : SS D (.slice A n c) xs) :
    Calls Try.prog 11 #[.slice A n c, .int .i64 sec, .int .i64 at_, .int .u8 (y.toNat : Int)] w fun e w' => e = .returned (.bool true) ∧ Below w.heap.size w w' := by
  have HN := Lib.hid hs.len
  obtain ⟨i3, hi3, hz30, hz31, hz32⟩ := info_parts info3
  have hnm : n ≤ 9223372036854775807 := by have := HN.out; unfold maxLen at this; omega
  go_enter Try.func11, Try.ntmps11
  go_wp2_with fail
  refine (sane42_c _).mono ?_
  rintro e w1 ⟨rfl, hb1⟩
  have hG1 := (Grow.refl hk).trans (Grow.of_below hk hb1)
  clear hb1
  go_wp2_with fail
  refine (new_ok 40 D w1 hG1.keeps (by omega) (by omega)).mono ?_
  rintro e w2 ⟨Ad, cd, D2, rfl, hg2, hs2⟩
  replace hs2 : SS D2 (.slice Ad 40 cd) z40 := hs2
  have hG2 := hG1.trans hg2
  obtain ⟨D3, hg3, hle3, hat3⟩ := newvar hG2 26 #[.slice Ad 40 cd, .int .i64 (-1), .int .i64 0, .bool false]
  have HAT3 := Lib.hid hat3
  clear hat3
  have hl03 := hg2.le.trans hle3
  have hkc := hg3.keeps
  have q0 : (w2.alloc (.cells #[.slice Ad 40 cd, .int .i64 (-1), .int .i64 0, .bool false] 26)).cell? ⟨w2.heap.size, 0, none⟩ = some (.slice Ad 40 cd) := hkc _ _ _ (HAT3.out 0 _ rfl)
  have q1 : (w2.alloc (.cells #[.slice Ad 40 cd, .int .i64 (-1), .int .i64 0, .bool false] 26)).cell? ⟨w2.heap.size, 1, none⟩ = some (.int .i64 (-1)) := hkc _ _ _ (HAT3.out 1 _ rfl)
  have q2 : (w2.alloc (.cells #[.slice Ad 40 cd, .int .i64 (-1), .int .i64 0, .bool false] 26)).cell? ⟨w2.heap.size, 2, none⟩ = some (.int .i64 0) := hkc _ _ _ (HAT3.out 2 _ rfl)
  have q3 : (w2.alloc (.cells #[.slice Ad 40 cd, .int .i64 (-1), .int .i64 0, .bool false] 26)).cell? ⟨w2.heap.size, 3, none⟩ = some (.bool false) := hkc _ _ _ (HAT3.out 3 _ rfl)
  go_wp2_with fail
  refine (few42_c Ad 40 cd (-1) 0 false A n c xs D3 _ hg3.keeps (hs.le hl03)).mono ?_
  rintro e w4 ⟨⟨r, rfl⟩, hb4⟩
  have hG4 := hg3.trans (Grow.of_below hg3.keeps hb4)
  clear hb4 hkc q0 q1 q2 q3
  cases r
  · go_wp2_with fail
    go_ret
    exact ⟨rfl, hG4.below⟩
  by_cases hn0 : n = 0
  · have g1 : ((n : Int) == 0) = true := by simp; omega
    clear hn0
    go_wp2_with fail
    go_ret
    exact ⟨rfl, hG4.below⟩
  have g1 : ((n : Int) == 0) = false := by simp; omega
  by_cases hy0 : y = 0
  · have g2 : ((y.toNat : Int) == 0) = true := by rw [hy0]; rfl
    clear hy0 hn0
    go_wp2_with fail
    go_ret
    exact ⟨rfl, hG4.below⟩
  have g2 : ((y.toNat : Int) == 0) = false := by
    have : y.toNat ≠ 0 := fun e => hy0 (UInt8.toNat_inj.1 e)
    simp; omega
  have HY0 := Lib.hid hy0
  clear hy0 hn0
  have hkc := hG4.keeps
  have q0 : w4.cell? ⟨w2.heap.size, 0, none⟩ = some (.slice Ad 40 cd) := hkc _ _ _ (HAT3.out 0 _ rfl)
  have q1 : w4.cell? ⟨w2.heap.size, 1, none⟩ = some (.int .i64 (-1)) := hkc _ _ _ (HAT3.out 1 _ rfl)
  have q2 : w4.cell? ⟨w2.heap.size, 2, none⟩ = some (.int .i64 0) := hkc _ _ _ (HAT3.out 2 _ rfl)
  have q3 : w4.cell? ⟨w2.heap.size, 3, none⟩ = some (.bool false) := hkc _ _ _ (HAT3.out 3 _ rfl)
  go_wp2_with fail
  refine (open_ok Ad 40 cd z40 (-1) 0 0 40 D3 _ hG4.keeps (hs2.le hle3) z40_chk (by omega) (by omega)).mono ?_
  rintro e w5 ⟨A5, c5, D5, rfl, hg5, hs5⟩
  rw [z40_open] at hs5 ⊢
  have hG5 := hG4.trans hg5
  replace hs5 : SS D5 (.slice A5 0 c5) [] := hs5
  have hbx := Box.new hG5.keeps 47 #[.int .i64 0, .int .i64 40, .slice A5 0 c5, .int .i64 0]
  have hG6 := hG5.alloc (.cells #[.int .i64 0, .int .i64 40, .slice A5 0 c5, .int .i64 0] 47)
  have hl05 := hl03.trans hg5.le
  clear hkc q0 q1 q2 q3
  show _
  go_upto_block 0 with (fail)
  generalize hgb : w5.heap.size = gb at *
  have hgb2 : w.heap.size ≤ gb := by rw [← hgb]; exact hG5.below.size
  clear hgb
  change Box (w5.alloc (.cells #[.int .i64 0, .int .i64 40, .slice A5 0 c5, .int .i64 0] 47)) D5 gb 47 #[.int .i64 0, .int .i64 40, .slice A5 0 c5, .int .i64 0] at hbx
  generalize w5.alloc (.cells #[.int .i64 0, .int .i64 40, .slice A5 0 c5, .int .i64 0] 47) = W6 at *
  have hI : DInv w D D5 gb xs W6 D5 A5 c5 (.slice none 0 0) 0 := ⟨hG6, Gh.le.refl _, hbx, hs5, ⟨by simp [endsV], .inl ⟨rfl, rfl⟩⟩, (fun g e => by cases e), Lib.hid ⟨by simp [occs], fun x h => by simp at h⟩⟩
  have hk6 := hG6.keeps
  go_cut [13] (fun E wx => ∃ (j : Nat) (D9 : Gh) (A7 : Option Addr) (c7 : Nat) (AE : Option Addr) (cE : Nat), E = .slice AE j cE ∧ j ≤ n ∧ Grow w D wx D9 ∧ D5.le D9 ∧ SS D9 (.slice A7 j c7) (xs.take j) ∧ Hid (∀ o u, (#[.int .i64 0, .int .i64 40, .slice A7 j c7, .int .i64 0] : Array Value)[o]? = some u → D9 gb o = some u) ∧ Sl D9 (.slice AE j cE) (endsV xs j) ∧ Hid (occs (xs.take j) ≤ 40 ∧ ∀ x ∈ xs.take j, x.length ≤ 65536))
  case first =>
    clear hbx hG6 hs5 hG5 hG4 hk6
    go_wp2_with fail
    go_loopw [13, 61] (fun E ii wr => ∃ (i : Nat) (D7 : Gh) (A7 : Option Addr) (c7 : Nat), ii = .int .i64 (i : Int) ∧ i ≤ n ∧ DInv w D D5 gb xs wr D7 A7 c7 E i) (fun _ ii _ => n - (intOf ii).toNat)
    case atStart => exact ⟨0, D5, A5, c5, rfl, Nat.zero_le _, hI⟩
    case round =>
      clear hI
      obtain ⟨i, D7, A7, c7, rfl, hi, hI⟩ := hrel
      by_cases hlt : i < n
      · obtain ⟨AE, cE, rfl, hEc⟩ := hI.form
        have hk7 := hI.grow.keeps
        have hnx : i < xs.length := by rw [← HN.out.1]; exact hlt
        obtain ⟨b, o, a', c', rfl, hcu, hbs⟩ := (hs.le hI.grow.le).at_ hk7 (k := i) hnx
        have hxi : xs[i]? = some xs[i] := List.getElem?_eq_getElem _
        have HT := Lib.hid (occs_take xs i _ hxi)
        have HTK := Lib.hid (show xs.take (i + 1) = xs.take i ++ [xs[i]] from by rw [List.take_add_one, hxi]; rfl)
        clear hxi
        generalize xs[i] = x at *
        have HLX := Lib.hid hbs.len.1
        generalize hlx : x.length = lx at *
        have HLX2 := Lib.hid hlx
        clear hlx
        have HC := Lib.hid (show chkL 0 40 (xs.take i) 0 = 0 from chkL_ok ⟨by omega, by omega, by omega, by omega, by omega, by omega, hI.lens.out.2, by have := hI.lens.out.1; omega⟩)
        have g1 : (i : Int) < (n : Int) := by omega
        have g0 : (0 : Int) ≤ (i : Int) := by omega
        obtain ⟨q0, q1, q2, q3⟩ := hI.box.cells4
        have hgbl := hI.box.lt
        by_cases hfit : lx ≤ 65536 ∧ (occ lx : Int) ≤ 40 - occs (xs.take i)
        · have HFIT := Lib.hid hfit
          have hl65 := hfit.1
          have hoc1 := occ_le_piece hl65
          clear hfit
          go_wp2_with fail
          refine (append_ok A7 i c7 (xs.take i) 0 40 0 a' lx c' x D7 _ hk7 hI.ss hbs HC.out HFIT.out.1 HFIT.out.2).mono ?_
          rintro e w8 ⟨A8, c8, D8, rfl, hg8, hs8⟩
          rw [← HTK.out] at hs8
          have hI8 := hI.on hg8
          have hI9 := hI8.on ((Grow.refl hI8.grow.keeps).alloc (.cells #[.int .i64 0, .int .i64 40, .slice A8 (i + 1) c8, .int .i64 0] 47))
          have hbN := Box.new hI8.grow.keeps 47 #[.int .i64 0, .int .i64 40, .slice A8 (i + 1) c8, .int .i64 0]
          clear q0 q1 q2 q3 hI hI8 hcu hk7 hgbl hEc
          generalize hgN : w8.heap.size = gN at *
          change Box (w8.alloc (.cells #[.int .i64 0, .int .i64 40, .slice A8 (i + 1) c8, .int .i64 0] 47)) D8 gN 47 #[.int .i64 0, .int .i64 40, .slice A8 (i + 1) c8, .int .i64 0] at hbN
          show _
          go_upto_region 15 with (fail)
          generalize w8.alloc (.cells #[.int .i64 0, .int .i64 40, .slice A8 (i + 1) c8, .int .i64 0] 47) = W9 at *
          have hne : Value.ownBlock (.slice AE i cE) ≠ some gb := hI9.box.ne_own hI9.own (by decide)
          obtain ⟨n0, n1, n2, n3⟩ := hbN.cells4
          obtain ⟨p0, p1, p2, p3⟩ := hI9.box.cells4
          have fr := hI9.box.frozen
          have b10 := hI9.box.set4 (.int .i64 0) (.int .i64 40) (.slice A8 (i + 1) c8) (.int .i64 0)
          have hg10 := Grow.set4 hI9.grow hgb2 hI9.box.off (.int .i64 0) (.int .i64 40) (.slice A8 (i + 1) c8) (.int .i64 0)
          have own10 := own_far2 (o := 3) (u := .int .i64 0) hne (own_far2 (o := 2) (u := .slice A8 (i + 1) c8) hne (own_far2 (o := 1) (u := .int .i64 40) hne (own_far2 (o := 0) (u := .int .i64 0) hne hI9.own)))
          have hle10 := hI9.le
          have hoff10 := hI9.off
          have HL9 := Lib.hid (And.intro hI9.lens.out.1 hI9.lens.out.2)
          go_upto_region 16 with (fail)
          clear n0 n1 n2 n3 p0 p1 p2 p3 fr hI9 hbN
          generalize (((W9.setCell ⟨gb, 0, none⟩ (.int .i64 0)).setCell ⟨gb, 1, none⟩ (.int .i64 40)).setCell ⟨gb, 2, none⟩ (.slice A8 (i + 1) c8)).setCell ⟨gb, 3, none⟩ (.int .i64 0) = W10 at *
          have hEc := own_ends own10
          go_cut [18] (fun v wx => v = .int .i64 ((occ lx : Nat) : Int) ∧ wx = W10)
          case first =>
            have HO := Lib.hid (show ((occ lx : Nat) : Int) = max 1 (((lx : Int) + 111) / 112) by unfold occ; omega)
            clear hEc
            generalize occ lx = ox at *
            go_wp2
            all_goals
              go_meet
              exact ⟨congrArg (Value.int .i64) (by have := HO.out; omega), rfl⟩
          case rest =>
            obtain ⟨rfl, hwx⟩ := hcut
            subst hwx
            have hi40 : i ≤ 40 := by have := HL9.out.1; have := occs_ge (xs.take i); rw [List.length_take] at this; omega
            have ho40 := HL9.out.1
            go_upto_if 81 with (fail)
            go_cut [18] (fun v wx => v = .int .i64 ((occs (xs.take (i + 1)) : Nat) : Int) ∧ wx = wc)
            case first =>
              by_cases hi0 : 0 < i
              · obtain ⟨p, hp⟩ : ∃ p, p = i - 1 := ⟨_, rfl⟩
                obtain ⟨bE, rfl, hcE⟩ := hEc p (by omega)
                have HP := Lib.hid (show p + 1 = i by omega)
                rw [HP.out] at hcE
                have HV := Lib.hid (show ((occs (xs.take (i + 1)) : Nat) : Int) = ((occ lx : Nat) : Int) + ((occs (xs.take i) : Nat) : Int) from by rw [HT.out]; omega)
                generalize occs (xs.take i) = oi at *
                generalize occ lx = ox at *
                have ew : IntKind.i64.wrap ((i : Int) - 1) = (p : Int) := by rw [IntKind.wrap_i64]; omega
                have gi : (0 : Int) < (i : Int) := by omega
                have gp1 : (p : Int) < (i : Int) := by omega
                have gp0 : (0 : Int) ≤ (p : Int) := by omega
                clear hp hEc
                go_wp2_with fail
                go_meet
                exact ⟨congrArg (Value.int .i64) (by have := HV.out; omega), rfl⟩
              · have HV := Lib.hid (show ((occs (xs.take (i + 1)) : Nat) : Int) = ((occ lx : Nat) : Int) from by
                  obtain rfl : i = 0 := by omega
                  rw [HT.out]; simp [occs])
                generalize occ lx = ox at *
                have gi : ¬ (0 : Int) < (i : Int) := by omega
                clear hEc
                go_wp2_with fail
                go_meet
                exact ⟨congrArg (Value.int .i64) (by have := HV.out; omega), rfl⟩
            case rest =>
              obtain ⟨rfl, hwx⟩ := hcut
              subst hwx
              have HV := Lib.hid (show occs (xs.take (i + 1)) = occs (xs.take i) + occ lx from HT.out)
              have HES := Lib.hid (endsV_succ xs i)
              have HLN := Lib.hid (show occs (xs.take (i + 1)) ≤ 40 ∧ ∀ z ∈ xs.take (i + 1), z.length ≤ 65536 from ⟨by rw [HV.out]; have := HFIT.out.2; omega, fun z hz => by
                rw [HTK.out] at hz
                rcases List.mem_append.1 hz with h | h
                · exact HL9.out.2 z h
                · rw [List.mem_singleton.1 h, HLX2.out]; exact HFIT.out.1⟩)
              have hsz11 := hg10.below.size
              generalize hov : occs (xs.take (i + 1)) = ov at *
              have HOV := Lib.hid hov
              clear hov hEc
              go_wp2_with (at_builtin; refine wpList_append_one (o := ⟨some 93, _, _, _, _, _⟩) rfl _ _ 23 rfl w.heap.size 3 i3 _ 8 Try.underlying23 hi3 hz30 hz31 hz32 rfl _ i (endsV xs i) rfl (own10.alloc _) wc.heap.size _ rfl (heap_alloc_new _ _) rfl ?d1 ?d2 ?d3 ?_)
              case d1 => unfold maxLen; omega
              case d2 => omega
              case d3 => rw [World.size_alloc]; omega
              intro A11 c11 W11 hown hgr hat
              rw [← HES.out] at hown
              have hg11 : Grow w D W11 D8 := Grow.row (hg10.alloc _) hgr (fun g e => (own10.lt g e).1) hoff10
              have b11 := (b10.alloc (.cells #[.int .i64 (ov : Int)] 3)).grown hgr (Ne.symm hne)
              have off11 := off_append (hg10.keeps.alloc (.cells #[.int .i64 (ov : Int)] 3)) hoff10 (by first | exact hat | (rw [World.size_alloc]; exact hat))
              clear own10 b10 hg10 hoff10 hne hgr hat
              go_wp2_with fail
              go_roundw
              case rel => exact ⟨i + 1, D8, A8, c8, by go_num, by omega, ⟨hg11, hle10, b11, hs8, hown, off11, Lib.hid ⟨by rw [HOV.out]; exact HLN.out.1, HLN.out.2⟩⟩⟩
              case measure => simp [intOf]; omega
        · have HFIT := Lib.hid hfit
          clear hfit
          go_wp2_with fail
          refine (append_no A7 i c7 (xs.take i) 0 40 0 a' lx c' D7 _ hk7 hI.ss HC.out HFIT.out).mono ?_
          rintro e w8 ⟨rfl, hb8⟩
          have hI8 := hI.on (Grow.of_below hk7 hb8)
          have hI9 := hI8.on ((Grow.refl hI8.grow.keeps).alloc (.cells #[.int .i64 0, .int .i64 0, .slice none 0 0, .int .i64 0] 47))
          clear q0 q1 q2 q3 hI hI8 hcu hk7 hgbl hEc hb8
          go_wp2_with fail
          go_meet
          obtain ⟨D9, A9, c9, hE9, hG9, hl9, hs9, hk9, hsl9, hln9⟩ := hI9.fin hgb2
          exact ⟨i, D9, A7, c7, A9, c9, hE9, by omega, hG9, hl9, hs9, Lib.hid hk9, hsl9, hln9⟩
      · obtain rfl : i = n := by omega
        go_wp2_with fail
        go_meet
        obtain ⟨D9, A9, c9, hE9, hG9, hl9, hs9, hk9, hsl9, hln9⟩ := hI.fin hgb2
        exact ⟨i, D9, A7, c7, A9, c9, hE9, Nat.le_refl _, hG9, hl9, hs9, Lib.hid hk9, hsl9, hln9⟩
  case rest =>
    obtain ⟨j, D9, A7, c7, AE, cE, rfl, hjn, hG9, hl9, hs9, HK9, hsl9, HL9⟩ := hcut
    clear hI hbx hG6 hk6 hs5 hG5
    generalize wc = W9 at *
    have hl39 := hg5.le.trans hl9
    have hkc := hG9.keeps
    have HR := Lib.hid (And.intro hs9.len.1 (occs_ge (xs.take j)))
    have hr40 := HL9.out.1
    have hj40 : j ≤ 40 := by have h1 := HR.out.1; have h2 := HR.out.2; omega
    have hsd := (hs2.le hle3).le hl39
    have HCH := Lib.hid (show chkL 0 40 (xs.take j) 0 = 0 from chkL_ok ⟨by omega, by omega, by omega, by omega, by omega, by omega, HL9.out.2, by omega⟩)
    have HEV := Lib.hid (fun i (h : i < j) => endsV_at xs h)
    have HTT := Lib.hid (fun i (h : i ≤ j) => show (xs.take j).take i = xs.take i from by rw [List.take_take, Nat.min_eq_left h])
    have HEL := Lib.hid (endsV_len xs j)
    have q0 : W9.cell? ⟨w2.heap.size, 0, none⟩ = some (.slice Ad 40 cd) := hkc _ _ _ (hl39 _ _ _ (HAT3.out 0 _ rfl))
    have q1 : W9.cell? ⟨w2.heap.size, 1, none⟩ = some (.int .i64 (-1)) := hkc _ _ _ (hl39 _ _ _ (HAT3.out 1 _ rfl))
    have q2 : W9.cell? ⟨w2.heap.size, 2, none⟩ = some (.int .i64 0) := hkc _ _ _ (hl39 _ _ _ (HAT3.out 2 _ rfl))
    have q3 : W9.cell? ⟨w2.heap.size, 3, none⟩ = some (.bool false) := hkc _ _ _ (hl39 _ _ _ (HAT3.out 3 _ rfl))
    have p0 : W9.cell? ⟨gb, 0, none⟩ = some (.int .i64 0) := hkc _ _ _ (HK9.out 0 _ rfl)
    have p1 : W9.cell? ⟨gb, 1, none⟩ = some (.int .i64 40) := hkc _ _ _ (HK9.out 1 _ rfl)
    have p2 : W9.cell? ⟨gb, 2, none⟩ = some (.slice A7 j c7) := hkc _ _ _ (HK9.out 2 _ rfl)
    have p3 : W9.cell? ⟨gb, 3, none⟩ = some (.int .i64 0) := hkc _ _ _ (HK9.out 3 _ rfl)
    go_wp2_with fail
    refine (sync_c A7 j c7 (xs.take j) 0 40 0 Ad 40 cd z40 (-1) 0 D9 W9 hG9.keeps hs9 hsd HCH.out z40_chk (by omega) z40_open (by rw [z40_max]; decide) (by omega) (⟨damS (xs.take j), -1, 0, false⟩, 0) (by rw [z40_max]; exact (damS_sync _ hr40).symm)).mono ?_
    rintro e w10 ⟨xA, xn, xc, D10, hg10, hs10, hX, _⟩
    obtain rfl := hX rfl
    replace hs10 : SS D10 (.slice xA xn xc) (damS (xs.take j)) := hs10
    clear hX
    have hG10 := hG9.trans hg10
    have hxn : xn = 40 := hs10.len.1.trans (damS_len _ hr40)
    subst hxn
    have hG11 := (hG10.alloc (.cells #[.int .i64 0, .int .i64 40, .slice A7 j c7, .int .i64 (j : Int)] 47)).alloc (.cells #[.slice xA 40 xc, .int .i64 (-1), .int .i64 0, .bool false] 26)
    have hb20 := Box.new (hG10.keeps.alloc (.cells #[.int .i64 0, .int .i64 40, .slice A7 j c7, .int .i64 (j : Int)] 47)) 26 #[.slice xA 40 xc, .int .i64 (-1), .int .i64 0, .bool false]
    rw [World.size_alloc] at hb20
    have hl910 := hg10.le
    clear hkc q0 q1 q2 q3 p0 p1 p2 p3
    by_cases hj0 : j = 0
    · have gj : ((j : Int) == 0) = true := by simp; omega
      clear hj0
      go_wp2_with fail
      go_ret
      exact ⟨rfl, hG11.below⟩
    have gj : ((j : Int) == 0) = false := by simp; omega
    go_upto_region 24 with (fail)
    generalize hg20 : w10.heap.size + 1 = g20 at *
    have hg20w : w.heap.size ≤ g20 := by have := hG10.below.size; omega
    clear hg20
    generalize (w10.alloc (.cells #[.int .i64 0, .int .i64 40, .slice A7 j c7, .int .i64 (j : Int)] 47)).alloc (.cells #[.slice xA 40 xc, .int .i64 (-1), .int .i64 0, .bool false] 26) = W11 at *
    obtain ⟨hz1, _, hcE, hcells⟩ := (hsl9.le hl910).cells hG11.keeps
    clear hz1
    obtain ⟨bE, oE, rfl, hcc⟩ := hcells (by omega)
    obtain ⟨p, hp⟩ : ∃ p, p = j - 1 := ⟨_, rfl⟩
    have hpe := hcc p _ (HEV.out p (by omega))
    rw [show p + 1 = j by omega] at hpe
    have HOR := Lib.hid (occs_ge (xs.take j))
    have ho0 : 1 ≤ occs (xs.take j) := by have := HR.out.1; have := HR.out.2; omega
    generalize hor : occs (xs.take j) = orr at *
    have HORR := Lib.hid hor
    clear hor hcells hcc
    have ew : IntKind.i64.wrap ((j : Int) - 1) = (p : Int) := by rw [IntKind.wrap_i64]; omega
    have gp1 : (p : Int) < (j : Int) := by omega
    have gp0 : (0 : Int) ≤ (p : Int) := by omega
    have go0 : (0 : Int) < (orr : Int) := by omega
    clear hp
    go_cut [22] (fun v wx => ∃ k : Nat, v = .int .i64 (k : Int) ∧ k < orr ∧ wx = W11)
    case first =>
      have HRN := Lib.hid (rem_nat sec orr (by omega) (by omega))
      go_wp2_with fail
      go_meet
      obtain ⟨k, h1, h2⟩ := HRN.out
      exact ⟨k, congrArg (Value.int .i64) h1, h2, rfl⟩
    case rest =>
      obtain ⟨k, rfl, hko, hwx⟩ := hcut
      subst hwx
      have hl911 := hl910
      have hkc := hG11.keeps
      obtain ⟨c0, c1, c2, c3⟩ := hb20.cells4
      have p2 : wc.cell? ⟨gb, 2, none⟩ = some (.slice A7 j c7) := hkc _ _ _ (hl910 _ _ _ (HK9.out 2 _ rfl))
      have gk : ¬ (40 : Int) ≤ (k : Int) := by omega
      obtain ⟨i5, hi5, hz50, hz51, hz52⟩ := info_parts info5
      have hDL := hs10.len.1
      have HDL := Lib.hid (show 40 = (damS (xs.take j)).length from hDL)
      clear hDL
      obtain ⟨bx, ox, a', c', rfl, hcu, hbs⟩ := hs10.at_ hkc (k := k) (by rw [← HDL.out]; omega)
      have HSK := Lib.hid (show (damS (xs.take j))[k]? = some ((damS (xs.take j))[k]'(by rw [← HDL.out]; omega)) from List.getElem?_eq_getElem _)
      have h128 : ((damS (xs.take j))[k]'(by rw [← HDL.out]; omega)).length = 128 := (chk_len (damS_chk _ (by rw [HORR.out]; omega))).2.2.1 _ (List.getElem_mem _)
      generalize (damS (xs.take j))[k]'(by rw [← HDL.out]; omega) = sk at *
      rw [h128] at hcu hbs
      have H128 := Lib.hid h128
      clear h128
      have gk1 : (k : Int) < (40 : Int) := by omega
      have gk0 : (0 : Int) ≤ (k : Int) := by omega
      have hown0 : (wc.alloc (.cells #[] 5)).ownsRow wc.heap.size 5 1 (.slice (some ⟨wc.heap.size, 0, none⟩) 0 0) 0 [] := own_empty (Nat.le_refl _) (heap_alloc_new _ _)
      have hk27 := hkc.alloc (.cells #[] 5)
      have hbxl := World.block_lt_of_cell? _ _ hcu
      have hg20l := hb20.lt
      go_wp2_with (at_builtin; refine wpList_append_sl (o := ⟨some 141, _, _, _, _, _⟩) _ rfl _ _ 32 rfl wc.heap.size 5 i5 _ 1 Try.underlying32 hi5 hz50 hz51 hz52 rfl _ 0 [] rfl hown0 D10 hk27 a' 128 c' _ rfl hbs (bv_one _) ?c1 ?c2 ?c3 ?_)
      case c1 => unfold maxLen; omega
      intro A27 c27 W27 hown27 hgr27 hat27
      have hg27 : Grow w D W27 D10 := Grow.row (hG11.alloc (.cells #[] 5)) hgr27 (fun g e => by have h : wc.heap.size = g := Option.some.inj e; have := hG11.below.size; omega) (fun g e => by have h : wc.heap.size = g := Option.some.inj e; subst h; exact hkc.offNew (Nat.le_refl _))
      have hb27 := (hb20.alloc (.cells #[] 5)).grown hgr27 (fun e => by have h : g20 = wc.heap.size := Option.some.inj e; omega)
      have hoff27 : ∀ g, Value.ownBlock (.slice A27 128 c27) = some g → D10.off g := fun g e => hkc.offNew (hown27.lt g e).1
      have hszw := hG11.below.size
      rcases id hown27.2 with ⟨e27, h27⟩ | ⟨g27, cap27, cur27, e27, hgg27, _⟩
      · omega
      obtain ⟨rfl, rfl⟩ : A27 = some ⟨g27, 0, none⟩ ∧ c27 = cap27 := by cases e27; exact ⟨rfl, rfl⟩
      clear e27 hgr27 hat27 hown0 hk27 c0 c1 c2 c3 hcu hbs p2
      obtain ⟨m, hm, hm128⟩ := rem_at at_
      have hmm : m < sk.length := by rw [H128.out]; exact hm128
      obtain ⟨uu, hu, hcm27, hfm27⟩ := own_cell hown27 hm128
      have hu2 : uu = .int .u8 (sk[m].toNat : Int) := by
        rw [List.getElem?_map, List.getElem?_eq_getElem hmm] at hu
        exact (Option.some.inj hu).symm
      subst hu2
      have HGD := Lib.hid (show sk.getD m 0 = sk[m] from by simp [List.getD_eq_getElem?_getD, hmm])
      have hx8 := (sk[m]).toNat_lt
      have hy8 := y.toNat_lt
      have e1 := dxor sk[m].toNat y.toNat hx8 hy8
      have HBV := Lib.hid (show bv (sk[m] ^^^ y) = Value.int .u8 ((sk[m].toNat ^^^ y.toNat : Nat) : Int) from by simp [bv])
      have own28 := own_set hown27 m (.int .u8 ((sk[m].toNat ^^^ y.toNat : Nat) : Int))
      rw [show (sk.map bv).set m (.int .u8 ((sk[m].toNat ^^^ y.toNat : Nat) : Int)) = (sk.set m (sk[m] ^^^ y)).map bv from by rw [List.map_set, HBV.out]] at own28
      have gm1 : (m : Int) < 128 := by omega
      have gm0 : (0 : Int) ≤ (m : Int) := by omega
      generalize hz : sk[m] ^^^ y = z at *
      have HZ := Lib.hid hz
      clear hz hu
      generalize sk[m] = xm at *
      go_upto_region 29 with (fail)
      have hne27 : g20 ≠ g27 := by omega
      have hg28 := Grow.setNew hg27 (p := ⟨g27, m, none⟩) (Nat.le_trans hszw hgg27) (hoff27 g27 rfl) (.int .u8 ((xm.toNat ^^^ y.toNat : Nat) : Int))
      have hb28 := hb27.far2 (o := m) (u := .int .u8 ((xm.toNat ^^^ y.toNat : Nat) : Int)) hne27
      generalize W27.setCell ⟨g27, m, none⟩ (.int .u8 ((xm.toNat ^^^ y.toNat : Nat) : Int)) = W28 at *
      clear hown27 hg27 hb27 hcm27 hfm27 hm e1 hx8 hy8
      obtain ⟨D28, hg28', hle28, hsl28, hof28⟩ := hg28.pub own28 hszw hoff27
      replace hb28 := hb28.le (hof28 g20 hb28.off (fun e => hne27 (Option.some.inj e).symm))
      have hbs28 : BS D28 (.slice (some ⟨g27, 0, none⟩) 128 c27) (sk.set m z) := hsl28
      clear hg28 hof28 hsl28 own28 hb20 hoff27
      have HL128 := Lib.hid (show (sk.set m z).length = 128 by rw [List.length_set]; exact H128.out)
      have HKD := Lib.hid (damS_chk _ (show occs (xs.take j) ≤ 40 by rw [HORR.out]; exact hr40))
      have HWF := Lib.hid (show writeF ⟨damS (xs.take j), -1, 0, false⟩ (k : Int) (sk.set m z) = (⟨(damS (xs.take j)).set k (sk.set m z), -1, 0, false⟩, 0) from by
        have h := writeF_full HKD.out HL128.out (show k < (damS (xs.take j)).length by rw [← HDL.out]; omega) (show (-1 : Int) ≠ 0 by omega)
        rw [h]; rfl)
      have HCK2 := Lib.hid (chk_set (l' := -1) (s' := false) HKD.out k HL128.out (by omega) (by simp))
      have HSC := Lib.hid (damS_scan (xs.take j) (by rw [HORR.out]; exact hr40) k (by rw [HORR.out]; exact hko) sk HSK.out m hm128 y HY0.out)
      rw [HGD.out, HZ.out] at HSC
      have HSL := Lib.hid (show ((damS (xs.take j)).set k (sk.set m z)).length = 40 by rw [List.length_set, ← HDL.out])
      obtain ⟨c0, c1, c2, c3⟩ := hb28.cells4
      have hg20l2 := hb28.lt
      go_wp2_with fail
      refine (write_c (some ⟨bx, ox, none⟩) 40 xc (damS (xs.take j)) (-1) 0 (k : Int) false (some ⟨g27, 0, none⟩) 128 c27 (sk.set m z) D28 _ hg28'.keeps (hs10.le hle28) hbs28 (by omega)).mono ?_
      rw [HWF.out]
      generalize (damS (xs.take j)).set k (sk.set m z) = S2 at *
      dsimp only
      rintro e w29 ⟨xa, xn2, xc2, D29, rfl, hg29, hs29⟩
      obtain rfl : xn2 = 40 := hs29.len.1.trans HSL.out
      have hb29 := hb28.grow hg29
      clear c0 c1 c2 c3 hb28 hg20l2 hbs28
      obtain ⟨c0, c1, c2, c3⟩ := hb29.cells4
      have fr := hb29.frozen
      have hg30 := Grow.set4 (hg28'.trans hg29) hg20w hb29.off (.slice xa 40 xc2) (.int .i64 (-1)) (.int .i64 0) (.bool false)
      have hb30 := hb29.set4 (.slice xa 40 xc2) (.int .i64 (-1)) (.int .i64 0) (.bool false)
      go_upto_region 30 with (fail)
      clear c0 c1 c2 c3 fr hb29
      generalize (((w29.setCell ⟨g20, 0, none⟩ (.slice xa 40 xc2)).setCell ⟨g20, 1, none⟩ (.int .i64 (-1))).setCell ⟨g20, 2, none⟩ (.int .i64 0)).setCell ⟨g20, 3, none⟩ (.bool false) = W30 at *
      obtain ⟨c0, c1, c2, c3⟩ := hb30.cells4
      obtain ⟨ii, hi1, hi2, hi3, hsc⟩ := HSC.out
      have HI := Lib.hid (And.intro hi1 (And.intro hi2 hi3))
      have HSC2 := Lib.hid (show scan 0 0 none ((S2.drop 0).take 40) = (xs.take j).take ii from by rw [List.drop_zero, List.take_of_length_le (by rw [HSL.out]; exact Nat.le_refl _)]; exact hsc)
      have HIL := Lib.hid (show ((xs.take j).take ii).length = ii from by rw [List.length_take]; exact Nat.min_eq_left hi1)
      have hij : ii ≤ j := by have := HI.out.1; have := HR.out.1; omega
      clear hi1 hi2 hi3 hsc HSC
      go_wp2_with fail
      refine (open_ok xa 40 xc2 S2 (-1) 0 0 40 D29 W30 hg30.keeps hs29 HCK2.out (by omega) (by omega)).mono ?_
      rw [HSC2.out, HIL.out]
      rintro e w31 ⟨A31, c31, D31, rfl, hg31, hs31⟩
      have hG31 := hg30.trans hg31
      obtain ⟨D32, hg32, hle32, hat32⟩ := newvar hG31 47 #[.int .i64 0, .int .i64 40, .slice A31 ii c31, .int .i64 (ii : Int)]
      have HAT32 := Lib.hid hat32
      clear hat32 c0 c1 c2 c3 hb30
      have hl932 := hl910.trans (hle28.trans (hg29.le.trans (hg31.le.trans hle32)))
      show _
      go_upto_block 2 with (fail)
      generalize hg24 : w31.heap.size = g24 at *
      clear hg24
      generalize w31.alloc (.cells #[.int .i64 0, .int .i64 40, .slice A31 ii c31, .int .i64 (ii : Int)] 47) = W32 at *
      have hk32 := hg32.keeps
      obtain ⟨hz2, _, _, hcells⟩ := (hsl9.le hl932).cells hk32
      clear hz2
      obtain ⟨b', o', e', hcc⟩ := hcells (by omega)
      obtain ⟨rfl, rfl⟩ : b' = bE ∧ o' = oE := by injection e' with e'; injection e' with h1 h2; exact ⟨h1.symm, h2.symm⟩
      have HCC := Lib.hid (fun i (h : i < j) => hcc i _ (HEV.out i h))
      clear hcc hcells e' hpe
      have HKI := Lib.hid (show (∀ q, q < ii → occs (xs.take (q + 1)) ≤ k) ∧ (ii < j → k < occs (xs.take (ii + 1))) from ⟨fun q hq => by
          have h := HI.out.2.1
          rw [HTT.out ii hij] at h
          have h2 := occs_le (xs.take ii) (q + 1)
          rw [List.take_take, Nat.min_eq_left (by omega)] at h2
          omega, fun h => by
          have h1 := HI.out.2.2 (by have := HR.out.1; omega)
          rw [HTT.out (ii + 1) (by omega)] at h1
          exact h1⟩)
      go_cut [26] (fun q wx => q = .int .i64 (ii : Int) ∧ wx = W32)
      case first =>
        go_wp2_with fail
        go_loop [26] (fun v => ∃ q : Nat, q ≤ ii ∧ v = .int .i64 (q : Int)) (fun v => ii - (intOf v).toNat)
        case atStart => exact ⟨0, Nat.zero_le _, rfl⟩
        case round =>
          obtain ⟨q, hq, rfl⟩ := hrel
          by_cases hqj : q < j
          · have hce := HCC.out q hqj
            have gq1 : (q : Int) < (j : Int) := by omega
            have gq0 : (0 : Int) ≤ (q : Int) := by omega
            by_cases hqi : q < ii
            · have hle := HKI.out.1 q hqi
              generalize occs (xs.take (q + 1)) = oq at *
              have ge : (oq : Int) ≤ (k : Int) := by omega
              go_wp2_with fail
              go_round
              case rel => exact ⟨q + 1, by omega, by go_num⟩
              case measure => simp [intOf]; omega
            · obtain rfl : q = ii := by omega
              have hlt := HKI.out.2 hqj
              generalize occs (xs.take (q + 1)) = oq at *
              have ge : ¬ (oq : Int) ≤ (k : Int) := by omega
              go_wp2_with fail
              go_meet
              exact ⟨rfl, rfl⟩
          · obtain rfl : q = ii := by omega
            have gq1 : ¬ (q : Int) < (j : Int) := by omega
            go_wp2_with fail
            go_meet
            exact ⟨rfl, rfl⟩
      case rest =>
        obtain ⟨rfl, hwx⟩ := hcut
        subst hwx
        have hs7 := hs9.le hl932
        have hj7 := hs9.len.2.1
        obtain ⟨b7, o7, _, _, rfl, _⟩ := hs7.at_ hk32 (k := 0) (by have := HR.out.1; omega)
        have hs7t := take_ss hs7 ii hij
        have HSM := Lib.hid (fun W (hW : Keeps D32 W) => sameR_c A31 (some ⟨b7, o7, none⟩) ii c31 ii c7 _ _ D32 W hW (hs31.le hle32) hs7t)
        rw [decide_eq_true rfl] at HSM
        have gi1 : (ii : Int) ≤ (c7 : Int) := by omega
        have gi2 : ii ≤ c7 := by omega
        have gi0 : (0 : Int) ≤ (ii : Int) := by omega
        have SH : Hid (∀ W, Keeps D32 W → (Keeps D32 W ∧ W.cell? ⟨g24, 2, none⟩ = some (.slice A31 ii c31) ∧ W.cell? ⟨gb, 2, none⟩ = some (.slice (some ⟨b7, o7, none⟩) j c7))) := fun W hkc => ⟨hkc, hkc _ _ _ (HAT32.out 2 _ rfl), hkc _ _ _ (hl932 _ _ _ (HK9.out 2 _ rfl))⟩
        have HGB := Lib.hid hg32.below
        clear hs7 hs7t hs31 hkc
        obtain ⟨_, q2, p2⟩ := SH.out _ hk32
        go_wp2_with fail
        go_region_held3 (fun W => Keeps D32 W ∧ W.cell? ⟨g24, 2, none⟩ = some (.slice A31 ii c31) ∧ W.cell? ⟨gb, 2, none⟩ = some (.slice (some ⟨b7, o7, none⟩) j c7))
          (first | (refine SH.out _ ?_; (exact (by repeat (with_reducible first | assumption | refine Keeps.drew ?_ | refine Keeps.drewN ?_ _ | refine Keeps.alloc ?_ _ | exact Grow.keeps (by assumption)))); done) | go_keep)
          (first | (go_at_call 42; refine (HSM.out _ (by repeat (with_reducible first | assumption | refine Keeps.drew ?_ | refine Keeps.drewN ?_ _ | refine Keeps.alloc ?_ _ | exact Grow.keeps (by assumption)))).mono ?_; rintro e y2 ⟨rfl, q2, rfl⟩))
        have hbG := HGB.out
        go_wp2_with fail
        go_ret
        exact ⟨rfl, (by repeat (first | (with_reducible exact Below.refl _ _) | (with_reducible refine Below.drew ?_) | (with_reducible refine belowDrewN ?_ _) | (with_reducible refine belowAlloc ?_ _) | ((with_reducible refine belowSet2 ?_ ?_); omega) | (with_reducible assumption) | (with_reducible refine belowVia (by assumption) ?_) | (with_reducible refine belowVia (Grow.below (by assumption)) ?_)))⟩
end Go.Proofs.Ytegkmkglagmdiaa
