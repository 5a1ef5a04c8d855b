/-
  What is proved here: the law WalSurvives answers true at every script of crashes
-/
import Derived.Test.YtegkmkglagmdiaaRows
import Derived.Test.YtegkmkglagmdiaaBaseB
import Derived.Test.YtegkmkglagmdiaaCrc
import Derived.Test.YtegkmkglagmdiaaWalP
import Derived.Test.YtegkmkglagmdiaaWalA
import Derived.Test.YtegkmkglagmdiaaWalB
import Derived.Test.YtegkmkglagmdiaaWalC
import Derived.Test.YtegkmkglagmdiaaWalD
import Derived.Test.YtegkmkglagmdiaaWalE
import Derived.Test.YtegkmkglagmdiaaDiskF
import Derived.Test.YtegkmkglagmdiaaDiskH
import Derived.Test.YtegkmkglagmdiaaWalF
import Derived.Test.YtegkmkglagmdiaaRangeF
import Derived.Test.YtegkmkglagmdiaaWalG
import Derived.Test.YtegkmkglagmdiaaWalH
import Derived.Test.YtegkmkglagmdiaaWalI
import Derived.Test.YtegkmkglagmdiaaWalJ
import Derived.Test.YtegkmkglagmdiaaWalK
import Derived.Test.YtegkmkglagmdiaaWalL
import Derived.Test.YtegkmkglagmdiaaWalS
import Derived.Test.YtegkmkglagmdiaaWalT
import Derived.Test.YtegkmkglagmdiaaWalU
import Derived.Test.YtegkmkglagmdiaaWalV
import Derived.Test.YtegkmkglagmdiaaWalQ
import Derived.Test.YtegkmkglagmdiaaWalR
import Derived.Test.YtegkmkglagmdiaaWalZ
import Derived.Test.YtegkmkglagmdiaaWalZB
import Derived.Test.YtegkmkglagmdiaaWalZC
import Derived.Test.YtegkmkglagmdiaaDiskD
import Derived.Test.YtegkmkglagmdiaaDiskI
import Derived.OwnWalkIn
import Derived.TacticsInMore
import Derived.LoopNIn
import Derived.LoopIn
import Derived.Scope
import Derived.Deep.CutBlock
import Derived.Deep.DeepCutAuto
import Derived.StillTailTactics
import Derived.Shelf.Abstract
import Derived.RangeFuncCalls
import Derived.Laws.BitsAllLaws
import Derived.Deep.RegionHeld3
import Derived.Deep.RegionLaw
import Derived.Deep.DeepCutAuto
import Derived.Deep.QuietTactic
import Derived.BigQuiet
import Derived.Laws.EntriesVeiled
import Derived.Deep.MidRow
import Derived.Laws.CopyRow
namespace Go.Proofs.Ytegkmkglagmdiaa
open Go.RowKit Go.VS
/-- a script of crashes, known to a ghost. -/
def CS (D : Gh) (a : Option Addr) (n : Nat) : Prop := 0 < n → ∃ b o, a = some ⟨b, o, none⟩ ∧ ∀ i, i < n → ∃ A m c xs st le te, D b (o + i * 4) = some (.slice A m c) ∧ D b (o + i * 4 + 1) = some (.bool st) ∧ D b (o + i * 4 + 2) = some (.int .i64 le) ∧ D b (o + i * 4 + 3) = some (.int .i64 te) ∧ SS D (.slice A m c) xs
/-- what stays true from crash to crash. -/
structure VInv (w : World) (D : Gh) (M g5 : Nat) (wr : World) (D7 : Gh) (Ad : Option Addr) (cd : Nat) (S : List (List UInt8)) (Ak : Option Addr) (nk ck : Nat) (kept : List (List UInt8)) (i : Nat) : Prop where
  grow : Grow w D wr D7
  box : Box wr D7 g5 26 #[.slice Ad M cd, .int .i64 (-1), .int .i64 0, .bool false]
  ss : SS D7 (.slice Ad M cd) (zeros128 :: S)
  kp : SS D7 (.slice Ak nk ck) kept
  pi : PInv S kept M i
theorem VInv.on {w : World} {D : Gh} {M g5 : Nat} {wr wx : World} {D7 D8 : Gh} {Ad : Option Addr} {cd : Nat} {S : List (List UInt8)} {Ak : Option Addr} {nk ck : Nat} {kept : List (List UInt8)} {i : Nat} (h : VInv w D M g5 wr D7 Ad cd S Ak nk ck kept i) (hg : Grow wr D7 wx D8) : VInv w D M g5 wx D8 Ad cd S Ak nk ck kept i :=
  ⟨h.grow.trans hg, h.box.grow hg, h.ss.le hg.le, h.kp.le hg.le, h.pi⟩
/-- what stays true while records are appended. -/
structure WInv (w : World) (D : Gh) (M g5 : Nat) (gl : Nat) (D10 : Gh) (mn : Nat) (wr : World) (D7 : Gh) (Ad : Option Addr) (cd : Nat) (S : List (List UInt8)) (Ak : Option Addr) (nk ck : Nat) (kept : List (List UInt8)) (i : Nat) (AL : Option Addr) (nL cL : Nat) (L : List (List UInt8)) : Prop where
  v : VInv w D M g5 wr D7 Ad cd S Ak nk ck kept i
  le : D10.le D7
  box : Box wr D7 gl 47 #[.int .i64 1, .int .i64 (mn : Int), .slice AL nL cL, .int .i64 (nk : Int)]
  ss : SS D7 (.slice AL nL cL) L
  fit : Hid (L.take kept.length = kept ∧ occs L ≤ mn)
theorem WInv.on {w : World} {D : Gh} {M g5 gl : Nat} {D10 : Gh} {mn : Nat} {wr wx : World} {D7 D8 : Gh} {Ad : Option Addr} {cd : Nat} {S : List (List UInt8)} {Ak : Option Addr} {nk ck : Nat} {kept : List (List UInt8)} {i : Nat} {AL : Option Addr} {nL cL : Nat} {L : List (List UInt8)}
    (h : WInv w D M g5 gl D10 mn wr D7 Ad cd S Ak nk ck kept i AL nL cL L) (hg : Grow wr D7 wx D8) : WInv w D M g5 gl D10 mn wx D8 Ad cd S Ak nk ck kept i AL nL cL L :=
  ⟨h.v.on hg, h.le.trans hg.le, h.box.grow hg, h.ss.le hg.le, h.fit⟩
theorem WInv.put {w : World} {D : Gh} {M g5 gl : Nat} {D10 : Gh} {mn : Nat} {wr : World} {D7 : Gh} {Ad : Option Addr} {cd : Nat} {S : List (List UInt8)} {Ak : Option Addr} {nk ck : Nat} {kept : List (List UInt8)} {i : Nat} {AL : Option Addr} {nL cL : Nat} {L : List (List UInt8)}
    (h : WInv w D M g5 gl D10 mn wr D7 Ad cd S Ak nk ck kept i AL nL cL L) (hgl : w.heap.size ≤ gl) {A' : Option Addr} {n' c' : Nat} {L' : List (List UInt8)} (hs : SS D7 (.slice A' n' c') L') (hf : Hid (L'.take kept.length = kept ∧ occs L' ≤ mn)) :
    WInv w D M g5 gl D10 mn ((((wr.setCell ⟨gl, 0, none⟩ (.int .i64 1)).setCell ⟨gl, 1, none⟩ (.int .i64 (mn : Int))).setCell ⟨gl, 2, none⟩ (.slice A' n' c')).setCell ⟨gl, 3, none⟩ (.int .i64 (nk : Int))) D7 Ad cd S Ak nk ck kept i A' n' c' L' :=
  have hne : g5 ≠ gl := h.v.box.ne h.box (by decide)
  ⟨⟨h.v.grow.set4 hgl h.box.off _ _ _ _, (((h.v.box.far (p := ⟨gl, 0, none⟩) hne _).far (p := ⟨gl, 1, none⟩) hne _).far (p := ⟨gl, 2, none⟩) hne _).far (p := ⟨gl, 3, none⟩) hne _, h.v.ss, h.v.kp, h.v.pi⟩, h.le, h.box.set4 _ _ _ _, hs, hf⟩
theorem occ_mem : ∀ (L : List (List UInt8)), ∀ x ∈ L, occ x.length ≤ occs L
  | [], x, h => by simp at h
  | z :: r, x, h => by
    rw [occs_cons]
    rcases List.mem_cons.1 h with rfl | h
    · omega
    · have := occ_mem r x h; omega
theorem lens_of {L : List (List UInt8)} (h : occs L ≤ 30) : ∀ x ∈ L, x.length ≤ 65536 := fun x hx => by
  have := occ_mem L x hx
  unfold occ at this
  omega
theorem mod40 (a : Int) : ∃ m : Nat, (IntKind.u64.wrap a).tmod 40 = (m : Int) ∧ m < 40 := by
  have h0 : 0 ≤ IntKind.u64.wrap a := by rw [IntKind.wrap_u64]; omega
  rw [Int.tmod_eq_emod_of_nonneg h0]
  exact ⟨(IntKind.u64.wrap a % 40).toNat, by omega, by omega⟩
theorem mod129 (a : Int) : ∃ m : Nat, (IntKind.u64.wrap a).tmod 129 = (m : Int) ∧ m < 129 := by
  have h0 : 0 ≤ IntKind.u64.wrap a := by rw [IntKind.wrap_u64]; omega
  rw [Int.tmod_eq_emod_of_nonneg h0]
  exact ⟨(IntKind.u64.wrap a % 129).toNat, by omega, by omega⟩
theorem mod30 (y : UInt8) : ∃ r : Nat, ((y.toNat : Int)).tmod 30 = (r : Int) ∧ r < 30 := by
  rw [Int.tmod_eq_emod_of_nonneg (by omega)]
  exact ⟨y.toNat % 30, by omega, by omega⟩
set_option maxRecDepth 100000 in
set_option maxHeartbeats 40000000 in
theorem surv_walk (y : UInt8) (A : Option Addr) (n c : Nat) (D : Gh) (w : World) (hk : Keeps D w) (hcs : CS D A n) :
    Calls Try.prog 13 #[.int .u8 (y.toNat : Int), .slice A n c] w fun e w' => e = .returned (.bool true) ∧ Below w.heap.size w w' := by
  go_enter Try.func13, Try.ntmps13
  go_wp2_with fail
  refine (sane42_c _).mono ?_
  rintro e w1 ⟨rfl, hb1⟩
  have hG1 := (Grow.refl hk).trans (Grow.of_below hk hb1)
  clear hb1
  by_cases hn8 : 8 < n
  · have g8 : (8 : Int) < (n : Int) := by omega
    go_wp2_with fail
    go_ret
    exact ⟨rfl, hG1.below⟩
  have g8 : ¬ (8 : Int) < (n : Int) := by omega
  obtain ⟨r, hr, hr30⟩ := mod30 y
  obtain ⟨mn, hmn⟩ : ∃ mn, mn = r + 1 := ⟨_, rfl⟩
  obtain ⟨M, hM⟩ : ∃ M, M = mn + 1 := ⟨_, rfl⟩
  have hM2 : 2 ≤ M := by omega
  have hM31 : M ≤ 31 := by omega
  have em : IntKind.i64.wrap ((M : Int) - 1) = (mn : Int) := by rw [IntKind.wrap_i64]; omega
  have HMN := Lib.hid hM
  have er : (r : Int) + 2 = (M : Int) := by omega
  clear hmn hM
  go_wp2_with fail
  clear er hr
  refine (new_ok M D w1 hG1.keeps (by omega) (by omega)).mono ?_
  rintro e w2 ⟨Ad, cd, D2, rfl, hg2, hs2⟩
  have hG2 := hG1.trans hg2
  have hbx := Box.new hG2.keeps 26 #[.slice Ad M cd, .int .i64 (-1), .int .i64 0, .bool false]
  have hG3 := hG2.alloc (.cells #[.slice Ad M cd, .int .i64 (-1), .int .i64 0, .bool false] 26)
  have hg5w := hG2.below.size
  show _
  go_upto_region 8 with (fail)
  generalize w2.heap.size = g5 at *
  generalize w2.alloc (.cells #[.slice Ad M cd, .int .i64 (-1), .int .i64 0, .bool false] 26) = W3 at *
  obtain ⟨c0, c1, c2, c3⟩ := hbx.cells4
  have hI0 : VInv w D M g5 W3 D2 Ad cd (List.replicate (M - 1) zeros128) none 0 0 [] 0 := ⟨hG3, hbx, by
    have e : List.replicate M zeros128 = zeros128 :: List.replicate (M - 1) zeros128 := by rw [← List.replicate_succ]; congr 1; omega
    rw [← e]; exact hs2, SS.nil _, pinv_new M hM2 hM31⟩
  clear hbx hG3 hs2 hG2 hg2 hG1
  go_wp2_with fail
  clear c0 c1 c2 c3
  go_loopw [8, 46] (fun kv iv wr => ∃ (i : Nat) (D7 : Gh) (Ad : Option Addr) (cd : Nat) (S : List (List UInt8)) (Ak : Option Addr) (nk ck : Nat) (kept : List (List UInt8)), iv = .int .i64 (i : Int) ∧ kv = .slice Ak nk ck ∧ i ≤ n ∧ VInv w D M g5 wr D7 Ad cd S Ak nk ck kept i) (fun _ iv _ => n - (intOf iv).toNat)
  case atStart => exact ⟨0, D2, Ad, cd, _, none, 0, 0, [], rfl, rfl, Nat.zero_le _, hI0⟩
  case round =>
    clear hI0
    obtain ⟨i, D7, Ad, cd, S, Ak, nk, ck, kept, rfl, rfl, hi, hI⟩ := hrel
    generalize wr = wo at *
    by_cases hlt : i < n
    · have hk7 := hI.grow.keeps
      obtain ⟨b, o, rfl, hcc⟩ := hcs (by omega)
      obtain ⟨A1, m1, c1, xs, st, le, te, e0, e1, e2, e3, hxs⟩ := hcc i hlt
      have x0 := hk7 _ _ _ (hI.grow.le _ _ _ e0)
      have x1 := hk7 _ _ _ (hI.grow.le _ _ _ e1)
      have x2 := hk7 _ _ _ (hI.grow.le _ _ _ e2)
      have x3 := hk7 _ _ _ (hI.grow.le _ _ _ e3)
      have hxs7 := hxs.le hI.grow.le
      clear hcc e0 e1 e2 e3 hxs
      have g1 : (i : Int) < (n : Int) := by omega
      have g0 : (0 : Int) ≤ (i : Int) := by omega
      obtain ⟨c0, c1', c2, c3⟩ := hI.box.cells4
      have hg5l := hI.box.lt
      go_wp2_with fail
      obtain ⟨D8, hg8, hle8, hat8⟩ := newvar (Grow.refl hk7) 66 #[.slice A1 m1 c1, .bool st, .int .i64 le, .int .i64 te]
      have HAT8 := Lib.hid hat8
      have hI8 := hI.on hg8
      have hxs8 := hxs7.le hle8
      clear hat8 x0 x1 x2 x3 c0 c1' c2 c3 hI hxs7 hg8 hle8 hk7 hg5l
      generalize wo.heap.size = g10 at *
      generalize wo.alloc (.cells #[.slice A1 m1 c1, .bool st, .int .i64 le, .int .i64 te] 66) = W8 at *
      refine (few42_c Ad M cd (-1) 0 false A1 m1 c1 xs D8 W8 hI8.grow.keeps hxs8).mono ?_
      rintro e w9 ⟨⟨rb, rfl⟩, hb9⟩
      have hI9 := hI8.on (Grow.of_below hI8.grow.keeps hb9)
      clear hI8 hb9
      cases rb
      · go_wp2_with fail
        go_ret
        exact ⟨rfl, hI9.grow.below⟩
      obtain ⟨c0, c1', c2, c3⟩ := hI9.box.cells4
      have HSC := Lib.hid (show scan 0 0 none (((zeros128 :: S).drop 1).take mn) = kept from by
        have h1 := hI9.pi.len
        have h2 := HMN.out
        rw [List.drop_succ_cons, List.drop_zero, List.take_of_length_le (by omega)]
        exact hI9.pi.log.records)
      have HNK := Lib.hid (show kept.length = nk from hI9.kp.len.1.symm)
      have hmn1 : 1 ≤ mn := by have := HMN.out; omega
      have hmn30 : mn ≤ 30 := by have := HMN.out; omega
      have hmnM : 1 + mn ≤ M := by have := HMN.out; omega
      go_wp2_with fail
      refine (open_ok Ad M cd (zeros128 :: S) (-1) 0 1 mn D8 w9 hI9.grow.keeps hI9.ss hI9.pi.ok hmn1 hmnM).mono ?_
      rw [HSC.out, HNK.out]
      rintro e w10 ⟨A10, c10, D10, rfl, hg10, hs10⟩
      have hI10 := hI9.on hg10
      have hbl := Box.new hI10.grow.keeps 47 #[.int .i64 1, .int .i64 (mn : Int), .slice A10 nk c10, .int .i64 (nk : Int)]
      have hI11 := hI10.on ((Grow.refl hI10.grow.keeps).alloc (.cells #[.int .i64 1, .int .i64 (mn : Int), .slice A10 nk c10, .int .i64 (nk : Int)] 47))
      have hl810 := hg10.le
      have hglw := hI10.grow.below.size
      clear c0 c1' c2 c3 hI9 hI10 hg10
      show _
      go_upto_region 16 with (fail)
      generalize w10.heap.size = gl at *
      generalize w10.alloc (.cells #[.int .i64 1, .int .i64 (mn : Int), .slice A10 nk c10, .int .i64 (nk : Int)] 47) = W11 at *
      obtain ⟨l0, l1, l2, l3⟩ := hbl.cells4
      have gnn : ((nk : Int) != (nk : Int)) = false := by simp
      go_wp2_with fail
      refine (sameR_c A10 Ak nk c10 nk ck kept kept D10 W11 hI11.grow.keeps hs10 hI11.kp).mono ?_
      rw [decide_eq_true rfl]
      rintro e w12 ⟨rfl, q, rfl⟩
      have hI12 := hI11.on ((Grow.refl hI11.grow.keeps).drewN q)
      have hbl12 := hbl.grow ((Grow.refl hI11.grow.keeps).drewN q)
      clear hbl hI11 l0 l1 l2 l3
      generalize W11.drewN q = W12 at *
      have hkc := hI12.grow.keeps
      have t0 : W12.cell? ⟨g10, 0, none⟩ = some (.slice A1 m1 c1) := hkc _ _ _ (hl810 _ _ _ (HAT8.out 0 _ rfl))
      have hm1M : m1 ≤ 9223372036854775807 := by have := hxs8.len.2; unfold maxLen at this; omega
      have hW0 : WInv w D M g5 gl D10 mn W12 D10 Ad cd S Ak nk ck kept i A10 nk c10 kept := ⟨hI12, Gh.le.refl _, hbl12, hs10, Lib.hid ⟨by rw [List.take_length], by have h1 := hI12.pi.log.fits; have h2 := hI12.pi.len; have h3 := HMN.out; omega⟩⟩
      clear hbl12 hs10 hI12
      go_wp2_with fail
      go_loopw [81] (fun jv wr => ∃ (j : Nat) (D13 : Gh) (AL : Option Addr) (nL cL : Nat) (L : List (List UInt8)), jv = .int .i64 (j : Int) ∧ j ≤ m1 ∧ WInv w D M g5 gl D10 mn wr D13 Ad cd S Ak nk ck kept i AL nL cL L) (fun jv _ => m1 - (intOf jv).toNat)
      case atStart => exact ⟨0, D10, A10, nk, c10, kept, rfl, Nat.zero_le _, hW0⟩
      case round =>
        clear hW0 t0 hkc
        obtain ⟨j, D13, AL, nL, cL, L, rfl, hj, hW⟩ := hrel
        generalize wr = wi at *
        by_cases hjl : j < m1
        · have hk13 := hW.v.grow.keeps
          have HX1 := Lib.hid hxs8.len.1
          obtain ⟨b1, o1, a', c', rfl, hcu, hbs⟩ := ((hxs8.le hl810).le hW.le).at_ hk13 (k := j) (by rw [← HX1.out]; exact hjl)
          generalize xs[j]'(by rw [← HX1.out]; exact hjl) = x at *
          have HLX := Lib.hid hbs.len.1
          generalize hlx : x.length = lx at *
          have HLX2 := Lib.hid hlx
          clear hlx
          have HLL := Lib.hid hW.ss.len.1
          have HKL := Lib.hid (show nk ≤ L.length from by
            have := congrArg List.length hW.fit.out.1
            rw [List.length_take, HNK.out] at this; omega)
          have hoL := hW.fit.out.2
          have HC := Lib.hid (show chkL 1 (mn : Int) L (nk : Int) = 0 from chkL_ok ⟨by omega, by omega, by omega, by omega, by omega, by have := HKL.out; omega, lens_of (by omega), by omega⟩)
          have gj1 : (j : Int) < (m1 : Int) := by omega
          have gj0 : (0 : Int) ≤ (j : Int) := by omega
          obtain ⟨q0, q1, q2, q3⟩ := hW.box.cells4
          have hgll := hW.box.lt
          by_cases hfit : lx ≤ 65536 ∧ (occ lx : Int) ≤ mn - occs L
          · have HFIT := Lib.hid hfit
            clear hfit
            have HL2 := Lib.hid (show (L ++ [x]).take kept.length = kept ∧ occs (L ++ [x]) ≤ mn from ⟨by
              rw [List.take_append_of_le_length (by rw [HNK.out]; exact HKL.out)]; exact hW.fit.out.1, by
              rw [occs_append, show occs [x] = occ lx by simp [occs, HLX2.out]]; have := HFIT.out.2; omega⟩)
            go_wp2_with fail
            refine (append_ok AL nL cL L 1 (mn : Int) (nk : Int) a' lx c' x D13 _ hk13 hW.ss hbs HC.out HFIT.out.1 HFIT.out.2).mono ?_
            rintro e w15 ⟨A15, c15, D15, rfl, hg15, hs15⟩
            have hW8 := hW.on hg15
            have hW9 := hW8.on ((Grow.refl hW8.v.grow.keeps).alloc (.cells #[.int .i64 1, .int .i64 (mn : Int), .slice A15 (nL + 1) c15, .int .i64 (nk : Int)] 47))
            have hbN := Box.new hW8.v.grow.keeps 47 #[.int .i64 1, .int .i64 (mn : Int), .slice A15 (nL + 1) c15, .int .i64 (nk : Int)]
            clear q0 q1 q2 q3 hW hW8 hcu hk13 hgll hbs
            go_upto_region 23 with (fail)
            generalize w15.heap.size = gN at *
            generalize w15.alloc (.cells #[.int .i64 1, .int .i64 (mn : Int), .slice A15 (nL + 1) c15, .int .i64 (nk : Int)] 47) = W9 at *
            obtain ⟨n0, n1, n2, n3⟩ := hbN.cells4
            obtain ⟨p0, p1, p2, p3⟩ := hW9.box.cells4
            have fr := hW9.box.frozen
            have hW10 := hW9.put hglw hs15 (Lib.hid HL2.out)
            clear hW9 hbN
            go_wp2_with fail
            go_roundw
            case rel => exact ⟨j + 1, D15, A15, nL + 1, c15, L ++ [x], by go_num, by omega, hW10⟩
            case measure => simp [intOf]; omega
          · have HFIT := Lib.hid hfit
            clear hfit
            go_wp2_with fail
            refine (append_no AL nL cL L 1 (mn : Int) (nk : Int) a' lx c' D13 _ hk13 hW.ss HC.out HFIT.out).mono ?_
            rintro e w15 ⟨rfl, hb15⟩
            have hW8 := hW.on (Grow.of_below hk13 hb15)
            have hW9 := hW8.on ((Grow.refl hW8.v.grow.keeps).alloc (.cells #[.int .i64 0, .int .i64 0, .slice none 0 0, .int .i64 0] 47))
            clear q0 q1 q2 q3 hW hW8 hcu hk13 hgll hbs hb15
            go_wp2_with fail
            go_roundw
            case rel => exact ⟨j + 1, D13, AL, nL, cL, L, by go_num, by omega, hW9⟩
            case measure => simp [intOf]; omega
        · have hk13 := hW.v.grow.keeps
          obtain ⟨D16, hG16, hl16, HLB0, hof16⟩ := pubW hW.v.grow hW.box hglw
          have HLB := Lib.hid HLB0
          have hV : VInv w D M g5 wi D16 Ad cd S Ak nk ck kept i := ⟨hG16, hW.v.box.le (hof16 g5 hW.v.box.off (hW.v.box.ne hW.box (by decide))), hW.v.ss.le hl16, hW.v.kp.le hl16, hW.v.pi⟩
          have hsL := hW.ss.le hl16
          have HFT := hW.fit
          have hl816 := hl810.trans (hW.le.trans hl16)
          have HKL := Lib.hid (show nk ≤ L.length from by
            have := congrArg List.length hW.fit.out.1
            rw [List.length_take, HNK.out] at this; omega)
          have hoL := hW.fit.out.2
          have HC := Lib.hid (show chkL 1 (mn : Int) L (nk : Int) = 0 from chkL_ok ⟨by omega, by omega, by omega, by omega, by omega, by have := HKL.out; omega, lens_of (by omega), by omega⟩)
          have HMN2 := HMN
          clear hW HLB0 hof16 hk13
          have hjm : ¬ (j : Int) < (m1 : Int) := by omega
          have hkc := hV.grow.keeps
          have s1 : wi.cell? ⟨g10, 1, none⟩ = some (.bool st) := hkc _ _ _ (hl816 _ _ _ (HAT8.out 1 _ rfl))
          go_upto_if 96 with (fail)
          go_cut [6] (fun ev wx => ∃ (D17 : Gh) (Ad2 : Option Addr) (cd2 : Nat) (l t : Int), Grow w D wx D17 ∧ D16.le D17 ∧ Box wx D17 g5 26 #[.slice Ad2 M cd2, .int .i64 l, .int .i64 t, .bool false] ∧ SS D17 (.slice Ad2 M cd2) (zeros128 :: S) ∧ Hid ((l = -1 ∧ t = 0) ∨ (st = true ∧ 0 ≤ l ∧ l ≤ 1000 ∧ 0 ≤ t ∧ t ≤ 128)))
          case first =>
            cases st
            · go_wp2_with fail
              go_meet
              exact ⟨D16, Ad, cd, -1, 0, hV.grow, Gh.le.refl _, hV.box, hV.ss, Lib.hid (.inl ⟨rfl, rfl⟩)⟩
            · obtain ⟨la, hla, hla40⟩ := mod40 le
              obtain ⟨ta, hta, hta129⟩ := mod129 te
              have s2 : wi.cell? ⟨g10, 2, none⟩ = some (.int .i64 le) := hkc _ _ _ (hl816 _ _ _ (HAT8.out 2 _ rfl))
              have s3 : wi.cell? ⟨g10, 3, none⟩ = some (.int .i64 te) := hkc _ _ _ (hl816 _ _ _ (HAT8.out 3 _ rfl))
              obtain ⟨c0, c1', c2, c3⟩ := hV.box.cells4
              have HSF := Lib.hid (show stopF ⟨zeros128 :: S, -1, 0, false⟩ (la : Int) (ta : Int) = (⟨zeros128 :: S, (la : Int), (ta : Int), false⟩, 0) from by
                unfold stopF
                rw [if_neg (by rw [hV.pi.ok]; omega), if_neg (by simp)])
              go_wp2_with fail
              refine (stop_c Ad M cd (zeros128 :: S) (-1) 0 false (la : Int) (ta : Int) D16 wi hV.grow.keeps hV.ss).mono ?_
              rw [HSF.out]
              dsimp only
              rintro e w27 ⟨a27, n27, c27, rfl, hb27, hs27⟩
              have hn27 : n27 = M := by have h1 := hs27.len.1; have h2 := hV.pi.len; rw [List.length_cons] at h1; omega
              subst hn27
              have hV27 := hV.on (Grow.of_below hV.grow.keeps hb27)
              clear c0 c1' c2 c3 hla hta s1 s2 s3
              obtain ⟨c0, c1', c2, c3⟩ := hV27.box.cells4
              have fr := hV27.box.frozen
              go_wp2_with fail
              go_meet
              exact ⟨D16, a27, c27, (la : Int), (ta : Int), hV27.grow.set4 hg5w hV27.box.off _ _ _ _, Gh.le.refl _, hV27.box.set4 _ _ _ _, hs27, Lib.hid (.inr ⟨by first | trivial | rfl, by omega, by omega, by omega, by omega⟩)⟩
          case rest =>
            obtain ⟨D17, Ad2, cd2, l, t, hG17, hl17, hb17, hs17, HLT⟩ := hcut
            generalize wc = W17 at *
            have HPI := Lib.hid hV.pi
            have hsL17 := hsL.le hl17
            have hl817 := hl816.trans hl17
            clear hV hsL s1
            have HST := Lib.hid (show ((zeros128 :: S).drop 1).take mn = S from by
              have h1 := HPI.out.len
              have h2 := HMN2.out
              rw [List.drop_succ_cons, List.drop_zero, List.take_of_length_le (by omega)])
            have HKT := Lib.hid (show L.take nk = kept from by rw [← HNK.out]; exact HFT.out.1)
            have HOK := Lib.hid (show chk ⟨zeros128 :: S, l, t, false⟩ = 0 from by
              rcases HLT.out with ⟨h1, h2⟩ | ⟨_, h1, _, h2, h3⟩
              · rw [h1, h2]; exact HPI.out.ok
              · exact chk_left HPI.out.ok (by omega) h2 h3 (by simp))
            have HLM := Lib.hid (show l ≤ 9223372036854775807 from by rcases HLT.out with ⟨h1, h2⟩ | ⟨_, _, h1, _⟩ <;> omega)
            have hi8 : i < 8 := by omega
            have HPS := Lib.hid (pinv_sync HPI.out hi8 HFT.out.1 (by have := HMN2.out; omega) hM31 l t (by
              rcases HLT.out with ⟨h1, h2⟩ | ⟨_, h1, _, h2, h3⟩
              · exact .inl ⟨h1, h2⟩
              · exact .inr ⟨h1, h2, h3⟩))
            obtain ⟨X, hX⟩ : ∃ X, X = syncW ⟨zeros128 :: S, l, t, false⟩ (1 + occs kept) (recsS (gmax S + 1) (occs kept) (L.drop kept.length)) := ⟨_, rfl⟩
            rw [← hX] at HPS
            have HX := Lib.hid hX
            clear hX
            have hkc := hG17.keeps
            have l0 : W17.cell? ⟨gl, 0, none⟩ = some (.int .i64 1) := hkc _ _ _ (hl17 _ _ _ (HLB.out 0 _ rfl))
            have l1 : W17.cell? ⟨gl, 1, none⟩ = some (.int .i64 (mn : Int)) := hkc _ _ _ (hl17 _ _ _ (HLB.out 1 _ rfl))
            have l2 : W17.cell? ⟨gl, 2, none⟩ = some (.slice AL nL cL) := hkc _ _ _ (hl17 _ _ _ (HLB.out 2 _ rfl))
            have l3 : W17.cell? ⟨gl, 3, none⟩ = some (.int .i64 (nk : Int)) := hkc _ _ _ (hl17 _ _ _ (HLB.out 3 _ rfl))
            obtain ⟨c0, c1', c2, c3⟩ := hb17.cells4
            go_wp2_with fail
            refine (sync_c AL nL cL L 1 mn nk Ad2 M cd2 (zeros128 :: S) l t D17 W17 hG17.keeps hsL17 hs17 HC.out HOK.out hmnM (by rw [HST.out, HKT.out]; exact HPI.out.log.records) (by rw [HST.out]; have := HPI.out.gen; omega) HLM.out X (by rw [HST.out, HKT.out, ← HNK.out]; exact HX.out)).mono ?_
            rintro e w29 ⟨xA, xn, xc, D29, hg29, hs29, h0, h410⟩
            clear HX
            obtain ⟨⟨xs2, xl, xt, xp⟩, xcode⟩ := X
            dsimp only at hs29 h0 h410 HPS
            obtain ⟨S2, hsec, hways⟩ := HPS.out
            subst hsec
            have HPS2 := Lib.hid hways
            have hG29 := hG17.trans hg29
            have hb29 := hb17.grow hg29
            have hl29 := hl17.trans hg29.le
            have hl829 := hl817.trans hg29.le
            have hsL29 := hsL17.le hg29.le
            clear l0 l1 l2 l3 c0 c1' c2 c3 hb17 HPS hkc
            rcases hways with ⟨hc0, hp2⟩ | ⟨hc4, hl0, hLp, K, hp2, hk1, hk2, hk3⟩
            · obtain rfl := h0 hc0
              obtain rfl : M = xn := by have h1 := hs29.len.1; have h2 := hp2.len; rw [List.length_cons] at h1; omega
              clear h0 h410
              obtain ⟨D30, hgg30, hl30, hat30⟩ := newvar (Grow.refl hG29.keeps) 47 #[.int .i64 1, .int .i64 (mn : Int), .slice AL nL cL, .int .i64 (nL : Int)]
              have HAT30 := Lib.hid hat30
              obtain ⟨D31, hgg31, hl31, hat31⟩ := newvar hgg30 26 #[.slice xA M xc, .int .i64 xl, .int .i64 xt, .bool xp]
              simp only [World.size_alloc] at hat31
              have HAT31 := Lib.hid hat31
              clear hat30 hat31
              have hG31 := hG29.trans hgg31
              have hb31 := hb29.grow hgg31
              have hs31 := hs29.le hgg31.le
              have hsL31 := hsL29.le hgg31.le
              have hl2931 := hgg31.le
              clear hgg30 hgg31 hb29 hs29 hsL29 hG29
              show _
              go_upto_region 33 with (fail)
              generalize w29.heap.size = gx at *
              generalize (w29.alloc (.cells #[.int .i64 1, .int .i64 (mn : Int), .slice AL nL cL, .int .i64 (nL : Int)] 47)).alloc (.cells #[.slice xA M xc, .int .i64 xl, .int .i64 xt, .bool xp] 26) = W31 at *
              have hkc := hG31.keeps
              have z2 : W31.cell? ⟨gx, 2, none⟩ = some (.slice AL nL cL) := hkc _ _ _ (hl31 _ _ _ (HAT30.out 2 _ rfl))
              have z3 : W31.cell? ⟨gx, 3, none⟩ = some (.int .i64 (nL : Int)) := hkc _ _ _ (hl31 _ _ _ (HAT30.out 3 _ rfl))
              have l2 : W31.cell? ⟨gl, 2, none⟩ = some (.slice AL nL cL) := hkc _ _ _ ((hl29.trans hl2931) _ _ _ (HLB.out 2 _ rfl))
              have gnn : ((nL : Int) != (nL : Int)) = false := by simp
              go_wp2_with fail
              refine (sameR_c AL AL nL cL nL cL L L D31 W31 hkc hsL31 hsL31).mono ?_
              rw [decide_eq_true rfl]
              rintro e w32 ⟨rfl, q, rfl⟩
              go_upto_region 41 with (fail)
              have hGt := hG31.drewN q
              have hbt := hb31.grow ((Grow.refl hkc).drewN q)
              clear z2 z3 l2 hkc hG31 hb31
              generalize W31.drewN q = Wt at *
              have hl31t := Gh.le.refl D31
              have hst := hs31
              have hkpt := hsL31
              have hpt := hp2
              clear hs31 hsL31
              have hkt := hGt.keeps
              have hkc := hkt
              have y0 : Wt.cell? ⟨gx + 1, 0, none⟩ = some (.slice xA M xc) := hkc _ _ _ (hl31t _ _ _ (HAT31.out 0 _ rfl))
              have y1 : Wt.cell? ⟨gx + 1, 1, none⟩ = some (.int .i64 xl) := hkc _ _ _ (hl31t _ _ _ (HAT31.out 1 _ rfl))
              have y2 : Wt.cell? ⟨gx + 1, 2, none⟩ = some (.int .i64 xt) := hkc _ _ _ (hl31t _ _ _ (HAT31.out 2 _ rfl))
              have y3 : Wt.cell? ⟨gx + 1, 3, none⟩ = some (.bool xp) := hkc _ _ _ (hl31t _ _ _ (HAT31.out 3 _ rfl))
              go_wp2_with fail
              refine (restart_c xA M xc xl xt xp Wt).mono ?_
              rintro e w41 ⟨rfl, hb41⟩
              have hG41 := hGt.trans (Grow.of_below hkt hb41)
              have hb5 := hbt.grow (Grow.of_below hkt hb41)
              have hG42 := hG41.set4 hg5w hb5.off (.slice xA M xc) (.int .i64 (-1)) (.int .i64 0) (.bool false)
              have hb42 := hb5.set4 (.slice xA M xc) (.int .i64 (-1)) (.int .i64 0) (.bool false)
              obtain ⟨c0, c1', c2, c3⟩ := hb5.cells4
              have fr := hb5.frozen
              clear y0 y1 y2 y3 hkt hkc hbt hGt hb41
              go_upto_region 42 with (fail)
              clear c0 c1' c2 c3 fr hb5 hG41
              generalize (((w41.setCell ⟨g5, 0, none⟩ (.slice xA M xc)).setCell ⟨g5, 1, none⟩ (.int .i64 (-1))).setCell ⟨g5, 2, none⟩ (.int .i64 0)).setCell ⟨g5, 3, none⟩ (.bool false) = W42 at *
              obtain ⟨c0, c1', c2, c3⟩ := hb42.cells4
              have gM : ((M : Int) == 0) = false := by simp; omega
              obtain ⟨bz, oz, az, cz, rfl, hcz, hbz⟩ := hst.at_ hG42.keeps (k := 0) (by simp)
              have hcz' : W42.cell? ⟨bz, oz, none⟩ = some (.slice az 128 cz) := hcz
              have hbz' : BS D31 (.slice az 128 cz) zeros128 := hbz
              clear hcz hbz
              obtain ⟨hzz, _, _, hzc⟩ := Sl.cells hG42.keeps hbz'
              clear hzz
              obtain ⟨b3, o3, rfl, hz3⟩ := hzc (by omega)
              have HZ3 := Lib.hid (fun k (hk : k < 128) => show W42.cell? ⟨b3, o3 + k, none⟩ = some (.int .u8 0) from hz3 k _ (by rw [List.getElem?_map]; unfold zeros128; rw [List.getElem?_replicate, if_pos hk]; rfl))
              clear hz3 hzc hbz'
              have gM0 : (0 : Int) < (M : Int) := by omega
              go_wp2_with fail
              go_loop [198] (fun v => ∃ k : Nat, k ≤ 128 ∧ v = .int .i64 (k : Int)) (fun v => 128 - (intOf v).toNat)
              case atStart => exact ⟨0, by omega, rfl⟩
              case round =>
                obtain ⟨k, hk, rfl⟩ := hrel
                by_cases hk1 : k < 128
                · have hz := HZ3.out k hk1
                  have gk1 : (k : Int) < 128 := by omega
                  have gk0 : (0 : Int) ≤ (k : Int) := by omega
                  go_wp2_with fail
                  go_round
                  case rel => exact ⟨k + 1, by omega, by go_num⟩
                  case measure => simp [intOf]; omega
                · have gk1 : ¬ (k : Int) < 128 := by omega
                  go_wp2_with fail
                  go_roundw
                  case rel => exact ⟨i + 1, D31, some ⟨bz, oz, none⟩, xc, S2, AL, nL, cL, L, by go_num, rfl, by omega, ⟨hG42, hb42, hst, hkpt, hpt⟩⟩
                  case measure => simp [intOf]; omega
            · have h41 := h410 hc4
              unfold log0 at h41
              obtain rfl := h41
              obtain rfl : M = xn := by have h1 := hs29.len.1; have h2 := hp2.len; rw [List.length_cons] at h1; omega
              clear h0 h410
              have hst1 : st = true := by
                rcases HLT.out with ⟨h, _⟩ | ⟨h, _⟩
                · omega
                · exact h
              subst hst1
              obtain ⟨D30, hgg30, hl30, hat30⟩ := newvar (Grow.refl hG29.keeps) 47 #[.int .i64 0, .int .i64 0, .slice none 0 0, .int .i64 0]
              have HAT30 := Lib.hid hat30
              obtain ⟨D31, hgg31, hl31, hat31⟩ := newvar hgg30 26 #[.slice xA M xc, .int .i64 xl, .int .i64 xt, .bool xp]
              simp only [World.size_alloc] at hat31
              have HAT31 := Lib.hid hat31
              clear hat30 hat31
              have hG31 := hG29.trans hgg31
              have hb31 := hb29.grow hgg31
              have hs31 := hs29.le hgg31.le
              have hsL31 := hsL29.le hgg31.le
              have hl2931 := hgg31.le
              clear hgg30 hgg31 hb29 hs29 hsL29 hG29
              show _
              go_upto_region 37 with (fail)
              generalize w29.heap.size = gx at *
              generalize (w29.alloc (.cells #[.int .i64 0, .int .i64 0, .slice none 0 0, .int .i64 0] 47)).alloc (.cells #[.slice xA M xc, .int .i64 xl, .int .i64 xt, .bool xp] 26) = W31 at *
              have hkc := hG31.keeps
              have y0 : W31.cell? ⟨gx + 1, 0, none⟩ = some (.slice xA M xc) := hkc _ _ _ (HAT31.out 0 _ rfl)
              have y1 : W31.cell? ⟨gx + 1, 1, none⟩ = some (.int .i64 xl) := hkc _ _ _ (HAT31.out 1 _ rfl)
              have y2 : W31.cell? ⟨gx + 1, 2, none⟩ = some (.int .i64 xt) := hkc _ _ _ (HAT31.out 2 _ rfl)
              have y3 : W31.cell? ⟨gx + 1, 3, none⟩ = some (.bool xp) := hkc _ _ _ (HAT31.out 3 _ rfl)
              have HLL := Lib.hid hsL31.len.1
              have hLc := hsL31.len.2.1
              have HSC2 := Lib.hid (show scan 0 0 none (((zeros128 :: S2).drop 1).take mn) = K from by
                have h1 := hp2.len
                have h2 := HMN2.out
                rw [List.drop_succ_cons, List.drop_zero, List.take_of_length_le (by omega)]
                exact hp2.log.records)
              have HK3 := Lib.hid hk3
              have hnLp : 0 < nL := by rw [HLL.out]; exact hLp
              have hKl : K.length ≤ nL := by rw [HLL.out]; exact hk2
              have hKk : nk ≤ K.length := by rw [← HNK.out]; exact hk1
              clear hk1 hk2 hk3 hLp
              go_wp2_with fail
              refine (restart_c xA M xc xl xt xp W31).mono ?_
              rintro e w33 ⟨rfl, hb33⟩
              have hG33 := hG31.trans (Grow.of_below hkc hb33)
              have hb5 := hb31.grow (Grow.of_below hkc hb33)
              clear y0 y1 y2 y3 hG31 hb31 hkc hb33
              go_wp2_with fail
              refine (open_ok xA M xc (zeros128 :: S2) (-1) 0 1 mn D31 w33 hG33.keeps hs31 hp2.ok hmn1 hmnM).mono ?_
              rw [HSC2.out]
              rintro e w34 ⟨A34, c34, D34, rfl, hg34, hs34⟩
              have HKN := Lib.hid (show K.length = K.length from rfl)
              obtain ⟨nK, hnK⟩ : ∃ nK, nK = K.length := ⟨_, rfl⟩
              rw [← hnK] at hs34 hKl hKk HK3 ⊢
              clear hnK
              obtain ⟨D35, hgg35, hl35, hat35⟩ := newvar (Grow.refl hg34.keeps) 47 #[.int .i64 1, .int .i64 (mn : Int), .slice A34 nK c34, .int .i64 (nK : Int)]
              have HAT35 := Lib.hid hat35
              have hG35 := (hG33.trans hg34).trans hgg35
              have hb35 := (hb5.grow hg34).grow hgg35
              have hl3135 := hg34.le.trans hgg35.le
              clear hat35 hG33 hb5 hg34
              show _
              go_upto_region 38 with (fail)
              generalize w34.heap.size = gz at *
              generalize w34.alloc (.cells #[.int .i64 1, .int .i64 (mn : Int), .slice A34 nK c34, .int .i64 (nK : Int)] 47) = W35 at *
              have hl2935 := (hl29.trans hl2931).trans hl3135
              have hl835 := (hl829.trans hl2931).trans hl3135
              have hsL35 := hsL31.le hl3135
              obtain ⟨bL, oL, _, _, rfl, _⟩ := hsL35.at_ hG35.keeps (k := 0) (by rw [← HLL.out]; exact hnLp)
              have hsKt := take_ss hsL35 nK hKl
              rw [HK3.out] at hsKt
              have HSM := Lib.hid (fun W (hW : Keeps D35 W) => sameR_c A34 (some ⟨bL, oL, none⟩) nK c34 nK cL K K D35 W hW (hs34.le hgg35.le) hsKt)
              rw [decide_eq_true rfl] at HSM
              have SH : Hid (∀ W, Keeps D35 W → (Keeps D35 W ∧ W.cell? ⟨g10, 1, none⟩ = some (.bool true) ∧ W.cell? ⟨gz, 2, none⟩ = some (.slice A34 nK c34) ∧ W.cell? ⟨gl, 2, none⟩ = some (.slice (some ⟨bL, oL, none⟩) nL cL))) := fun W hkc => ⟨hkc, hkc _ _ _ (hl835 _ _ _ (HAT8.out 1 _ rfl)), hkc _ _ _ (HAT35.out 2 _ rfl), hkc _ _ _ (hl2935 _ _ _ (HLB.out 2 _ rfl))⟩
              have hk35 := hG35.keeps
              have gz1 : decide (nK < nk) = false := by simp; omega
              have gz2 : decide (nL < nK) = false := by simp; omega
              have gz3 : (nK : Int) ≤ (cL : Int) := by omega
              have gz4 : nK ≤ cL := by omega
              have gz5 : (0 : Int) ≤ (nK : Int) := by omega
              go_cut [184] (fun v wx => v = .bool false ∧ Grow W35 D35 wx D35)
              case first =>
                clear hG35 hb35 hs34 hsKt hsL35 hgg35
                obtain ⟨_, z1, z2, z3⟩ := SH.out _ hk35
                go_region_held3 (fun W => Keeps D35 W ∧ W.cell? ⟨g10, 1, none⟩ = some (.bool true) ∧ W.cell? ⟨gz, 2, none⟩ = some (.slice A34 nK c34) ∧ W.cell? ⟨gl, 2, none⟩ = some (.slice (some ⟨bL, oL, none⟩) nL cL))
                  (first | (refine SH.out _ ?_; (exact (by repeat (with_reducible first | assumption | refine Keeps.drew ?_ | refine Keeps.drewN ?_ _ | refine Keeps.alloc ?_ _ | exact Grow.keeps (by assumption)))); done) | go_keep)
                  (first | (go_at_call 42; refine (HSM.out _ (by repeat (with_reducible first | assumption | refine Keeps.drew ?_ | refine Keeps.drewN ?_ _ | refine Keeps.alloc ?_ _ | exact Grow.keeps (by assumption)))).mono ?_; rintro e y2 ⟨rfl, q2, rfl⟩))
                all_goals
                  go_wp2_with fail
                  go_meet
                  exact ⟨by first | trivial | rfl, Grow.of_below hk35 (by repeat (first | (with_reducible exact Below.refl _ _) | (with_reducible refine Below.drew ?_) | (with_reducible refine belowDrewN ?_ _) | (with_reducible refine belowAlloc ?_ _) | ((with_reducible refine belowSet2 ?_ ?_); omega) | (with_reducible assumption) | (with_reducible refine belowVia (by assumption) ?_) | (with_reducible refine belowVia (Grow.below (by assumption)) ?_)))⟩
              case rest =>
                obtain ⟨rfl, hgc⟩ := hcut
                generalize wc = Wt at *
                have hGt := hG35.trans hgc
                have hbt := hb35.grow hgc
                have hst := hs31.le hl3135
                have hkpt := hs34.le hgg35.le
                have hpt := hp2
                have hl31t := hl3135
                obtain ⟨_, z1, z2, z3⟩ := SH.out _ hgc.keeps
                clear hG35 hb35 hs34 hgg35 hs31 hsL31 hsL35 hsKt hk35 hgc
                go_upto_region 41 with (fail)
                clear z1 z2 z3
                have hkt := hGt.keeps
                have hkc := hkt
                have y0 : Wt.cell? ⟨gx + 1, 0, none⟩ = some (.slice xA M xc) := hkc _ _ _ (hl31t _ _ _ (HAT31.out 0 _ rfl))
                have y1 : Wt.cell? ⟨gx + 1, 1, none⟩ = some (.int .i64 xl) := hkc _ _ _ (hl31t _ _ _ (HAT31.out 1 _ rfl))
                have y2 : Wt.cell? ⟨gx + 1, 2, none⟩ = some (.int .i64 xt) := hkc _ _ _ (hl31t _ _ _ (HAT31.out 2 _ rfl))
                have y3 : Wt.cell? ⟨gx + 1, 3, none⟩ = some (.bool xp) := hkc _ _ _ (hl31t _ _ _ (HAT31.out 3 _ rfl))
                go_wp2_with fail
                refine (restart_c xA M xc xl xt xp Wt).mono ?_
                rintro e w41 ⟨rfl, hb41⟩
                have hG41 := hGt.trans (Grow.of_below hkt hb41)
                have hb5 := hbt.grow (Grow.of_below hkt hb41)
                have hG42 := hG41.set4 hg5w hb5.off (.slice xA M xc) (.int .i64 (-1)) (.int .i64 0) (.bool false)
                have hb42 := hb5.set4 (.slice xA M xc) (.int .i64 (-1)) (.int .i64 0) (.bool false)
                obtain ⟨c0, c1', c2, c3⟩ := hb5.cells4
                have fr := hb5.frozen
                clear y0 y1 y2 y3 hkt hkc hbt hGt hb41
                go_upto_region 42 with (fail)
                clear c0 c1' c2 c3 fr hb5 hG41
                generalize (((w41.setCell ⟨g5, 0, none⟩ (.slice xA M xc)).setCell ⟨g5, 1, none⟩ (.int .i64 (-1))).setCell ⟨g5, 2, none⟩ (.int .i64 0)).setCell ⟨g5, 3, none⟩ (.bool false) = W42 at *
                obtain ⟨c0, c1', c2, c3⟩ := hb42.cells4
                have gM : ((M : Int) == 0) = false := by simp; omega
                obtain ⟨bz, oz, az, cz, rfl, hcz, hbz⟩ := hst.at_ hG42.keeps (k := 0) (by simp)
                have hcz' : W42.cell? ⟨bz, oz, none⟩ = some (.slice az 128 cz) := hcz
                have hbz' : BS D35 (.slice az 128 cz) zeros128 := hbz
                clear hcz hbz
                obtain ⟨hzz, _, _, hzc⟩ := Sl.cells hG42.keeps hbz'
                clear hzz
                obtain ⟨b3, o3, rfl, hz3⟩ := hzc (by omega)
                have HZ3 := Lib.hid (fun k (hk : k < 128) => show W42.cell? ⟨b3, o3 + k, none⟩ = some (.int .u8 0) from hz3 k _ (by rw [List.getElem?_map]; unfold zeros128; rw [List.getElem?_replicate, if_pos hk]; rfl))
                clear hz3 hzc hbz'
                have gM0 : (0 : Int) < (M : Int) := by omega
                go_wp2_with fail
                go_loop [198] (fun v => ∃ k : Nat, k ≤ 128 ∧ v = .int .i64 (k : Int)) (fun v => 128 - (intOf v).toNat)
                case atStart => exact ⟨0, by omega, rfl⟩
                case round =>
                  obtain ⟨k, hk, rfl⟩ := hrel
                  by_cases hk1 : k < 128
                  · have hz := HZ3.out k hk1
                    have gk1 : (k : Int) < 128 := by omega
                    have gk0 : (0 : Int) ≤ (k : Int) := by omega
                    go_wp2_with fail
                    go_round
                    case rel => exact ⟨k + 1, by omega, by go_num⟩
                    case measure => simp [intOf]; omega
                  · have gk1 : ¬ (k : Int) < 128 := by omega
                    go_wp2_with fail
                    go_roundw
                    case rel => exact ⟨i + 1, D35, some ⟨bz, oz, none⟩, xc, S2, A34, nK, c34, K, by go_num, rfl, by omega, ⟨hG42, hb42, hst, hkpt, hpt⟩⟩
                    case measure => simp [intOf]; omega
    · have gin : ¬ (i : Int) < (n : Int) := by omega
      obtain ⟨c0, c1', c2, c3⟩ := hI.box.cells4
      have HSC := Lib.hid (show scan 0 0 none (((zeros128 :: S).drop 1).take mn) = kept from by
        have h1 := hI.pi.len
        have h2 := HMN.out
        rw [List.drop_succ_cons, List.drop_zero, List.take_of_length_le (by omega)]
        exact hI.pi.log.records)
      have HNK := Lib.hid (show kept.length = nk from hI.kp.len.1.symm)
      have hmn1 : 1 ≤ mn := by have := HMN.out; omega
      have hmnM : 1 + mn ≤ M := by have := HMN.out; omega
      go_wp2_with fail
      refine (open_ok Ad M cd (zeros128 :: S) (-1) 0 1 mn D7 wo hI.grow.keeps hI.ss hI.pi.ok hmn1 hmnM).mono ?_
      rw [HSC.out, HNK.out]
      rintro e w10 ⟨A10, c10, D10, rfl, hg10, hs10⟩
      obtain ⟨D11, hg11, hl11, hat11⟩ := newvar hg10 47 #[.int .i64 1, .int .i64 (mn : Int), .slice A10 nk c10, .int .i64 (nk : Int)]
      have HAT11 := Lib.hid hat11
      have hG11 := hI.grow.trans hg11
      have hkp := hI.kp.le hg11.le
      clear hat11 c0 c1' c2 c3 hI hg10 hg11
      show _
      go_upto_region 52 with (fail)
      generalize w10.heap.size = gq at *
      generalize w10.alloc (.cells #[.int .i64 1, .int .i64 (mn : Int), .slice A10 nk c10, .int .i64 (nk : Int)] 47) = W11 at *
      have hkc := hG11.keeps
      have p2 : W11.cell? ⟨gq, 2, none⟩ = some (.slice A10 nk c10) := hkc _ _ _ (HAT11.out 2 _ rfl)
      go_wp2_with fail
      refine (sameR_c A10 Ak nk c10 nk ck kept kept D11 W11 hkc (hs10.le hl11) hkp).mono ?_
      rw [decide_eq_true rfl]
      rintro e w12 ⟨rfl, q, rfl⟩
      go_wp2_with fail
      go_ret
      exact ⟨rfl, (hG11.drewN q).below⟩
end Go.Proofs.Ytegkmkglagmdiaa
