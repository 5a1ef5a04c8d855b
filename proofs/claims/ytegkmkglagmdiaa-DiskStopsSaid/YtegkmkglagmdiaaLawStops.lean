/-
  What is proved here: the walk of DiskStops: it returns true and writes nothing that was there.
-/
import Derived.Test.YtegkmkglagmdiaaRows
import Derived.Test.YtegkmkglagmdiaaDiskP
import Derived.Test.YtegkmkglagmdiaaBaseB
import Derived.Test.YtegkmkglagmdiaaArg
import Derived.Deep.RegionHeld3
import Derived.Deep.RegionLaw
import Derived.Deep.DeepCutAuto
import Derived.Deep.CutBlock
import Derived.Deep.QuietTactic
import Derived.BigQuiet
import Derived.Laws.EntriesVeiled
namespace Go.Proofs.Ytegkmkglagmdiaa
open Go.RowKit Go.VS

def SInv (N k : Nat) (ys : List (List UInt8)) (l : Int) (st : Bool) : Prop := ys.length = 4 ∧ (∀ x ∈ ys, x.length = 128) ∧ (k ≤ N → l = (N : Int) - k ∧ st = false) ∧ (N < k → l = 0 ∧ st = true)
theorem sinv_chk {N k : Nat} {ys : List (List UInt8)} {l : Int} {st : Bool} (h : SInv N k ys l st) (T : Int) (h0 : 0 ≤ T) (h1 : T ≤ 128) : chk ⟨ys, l, T, st⟩ = 0 := by
  obtain ⟨h4, ha, hb, hc⟩ := h
  refine chk_ok ⟨by simp; omega, by simp; omega, ha, ?_, h0, h1, ?_⟩
  · show -1 ≤ l
    rcases Nat.lt_or_ge N k with h | h
    · have := (hc h).1; omega
    · have := (hb h).1; omega
  · show st = true → l = 0
    intro e
    rcases Nat.lt_or_ge N k with h | h
    · exact (hc h).1
    · have := (hb h).2; simp [this] at e
theorem stops_step {N k j : Nat} {ys : List (List UInt8)} {l T : Int} {st : Bool} (cb : UInt8) (h : SInv N k ys l st) (h0 : 0 ≤ T) (h1 : T ≤ 128) (hj : j < 4) :
    ∃ wb zl zp ec old, ys[j]? = some old ∧ old.length = 128 ∧ writeF ⟨ys, l, T, st⟩ (j : Int) (wholeB cb) = (⟨ys.set j wb, zl, T, zp⟩, ec) ∧ wb.length = 128 ∧ SInv N (k + 1) (ys.set j wb) zl zp ∧
      ((k < N ∧ wb = wholeB cb ∧ ec = 0 ∧ zp = false) ∨ (k = N ∧ wb = (wholeB cb).take T.toNat ++ old.drop T.toNat ∧ ec = 410 ∧ zp = true) ∨ (N < k ∧ wb = old ∧ ec = 410 ∧ zp = true)) := by
  have hck := sinv_chk h T h0 h1
  obtain ⟨h4, ha, hb, hc⟩ := h
  have hjl : j < ys.length := by omega
  have hat : chkAt ⟨ys, l, T, st⟩ (j : Int) = 0 := by
    unfold chkAt
    rw [if_pos ⟨hck, by simp [inR]; omega⟩]
  have hw : (wholeB cb).length = 128 := by simp [wholeB]
  have ho := ha _ (List.getElem_mem hjl)
  have hset : ∀ wb : List UInt8, wb.length = 128 → (ys.set j wb).length = 4 ∧ ∀ x ∈ ys.set j wb, x.length = 128 := fun wb hwb => ⟨by simpa using h4, fun x hx => by
    rcases List.mem_or_eq_of_mem_set hx with hx | rfl
    · exact ha x hx
    · exact hwb⟩
  rcases Nat.lt_trichotomy k N with hk | hk | hk
  · obtain ⟨hl, rfl⟩ := hb (by omega)
    have hs := hset (wholeB cb) hw
    refine ⟨wholeB cb, l - 1, false, 0, ys[j], List.getElem?_eq_getElem hjl, ho, ?_, hw, ⟨hs.1, hs.2, fun _ => ⟨by omega, rfl⟩, fun h => by omega⟩, .inl ⟨hk, rfl, rfl, rfl⟩⟩
    unfold writeF
    rw [if_neg (by simp [hat, hw]), if_neg (by simp), if_neg (by show ¬ l = 0; omega)]
    have : 0 < l := by omega
    simp [this]
  · obtain ⟨hl, rfl⟩ := hb (by omega)
    have hwl : ((wholeB cb).take T.toNat ++ ys[j].drop T.toNat).length = 128 := by simp [hw, ho]; omega
    have hs := hset _ hwl
    refine ⟨(wholeB cb).take T.toNat ++ ys[j].drop T.toNat, 0, true, 410, ys[j], List.getElem?_eq_getElem hjl, ho, ?_, hwl, ⟨hs.1, hs.2, fun h => by omega, fun _ => ⟨rfl, rfl⟩⟩, .inr (.inl ⟨hk, rfl, rfl, rfl⟩)⟩
    have hl0 : l = 0 := by omega
    unfold writeF
    rw [if_neg (by simp [hat, hw]), if_neg (by simp), if_pos hl0]
    simp [List.getElem?_eq_getElem hjl, hl0]
  · obtain ⟨hl, rfl⟩ := hc hk
    have hs := hset _ ho
    have he : ys.set j ys[j] = ys := by simp
    refine ⟨ys[j], 0, true, 410, ys[j], List.getElem?_eq_getElem hjl, ho, ?_, ho, ⟨hs.1, hs.2, fun h => by omega, fun _ => ⟨rfl, rfl⟩⟩, .inr (.inr ⟨hk, rfl, rfl, rfl⟩)⟩
    unfold writeF
    rw [if_neg (by simp [hat, hw]), if_pos (by simp), he, hl]
theorem stops_reads {N k j : Nat} {zs : List (List UInt8)} {l T : Int} {wb : List UInt8} (h : SInv N k zs l true) (h0 : 0 ≤ T) (h1 : T ≤ 128) (hj : j < 4) (hz : zs[j]? = some wb) :
    readF ⟨zs, l, T, true⟩ 0 = ([], 410) ∧ readF ⟨zs, -1, 0, false⟩ (j : Int) = (wb, 0) ∧ chk ⟨zs, -1, 0, false⟩ = 0 := by
  have hck := sinv_chk h T h0 h1
  obtain ⟨h4, ha, hb, hc⟩ := h
  have hck2 : chk ⟨zs, -1, 0, false⟩ = 0 := chk_ok ⟨by simp; omega, by simp; omega, ha, by simp, by simp, by simp, by simp⟩
  refine ⟨?_, ?_, hck2⟩
  · unfold readF chkAt
    rw [if_neg (by simp [hck, inR, h4]), if_pos rfl]
  · unfold readF chkAt
    rw [if_neg (by simp [hck2, inR]; omega), if_neg (by simp)]
    simp [hz]

set_option maxRecDepth 100000 in
set_option maxHeartbeats 4000000 in
theorem stops_walk (a0 a1 : Int) (sA : Option Addr) (sn sc : Nat) (bs : List UInt8) (w : World) (hs : BS (oldD w) (.slice sA sn sc) bs) :
    Calls Try.prog 7 #[.int .i64 a0, .int .i64 a1, .slice sA sn sc] w fun e w' => e = .returned (.bool true) ∧ Below w.heap.size w w' := by
  obtain ⟨hsn, hsnc, hscm⟩ := hs.len
  unfold maxLen at hscm
  have HK := Lib.hid (keepsOldD w)
  have HSN := Lib.hid hsn
  clear hsn
  have HS := Lib.hid hs
  clear hs
  by_cases hlen : 60 < sn
  · have hl : decide (60 < (sn : Int)) = true := by simp; omega
    go_enter Try.func7, Try.ntmps7
    go_wp2_with fail
    refine (sane41_c _).mono ?_
    rintro e w1 ⟨rfl, hb1⟩
    go_wp2
    go_ret
    exact ⟨rfl, (by repeat (first | (with_reducible exact Below.refl _ _) | (with_reducible refine Below.drew ?_) | (with_reducible refine belowDrewN ?_ _) | (with_reducible refine belowAlloc ?_ _) | ((with_reducible refine belowSet2 ?_ ?_); omega) | (with_reducible assumption) | (with_reducible refine belowVia (by assumption) ?_) | (with_reducible refine belowVia (Grow.below (by assumption)) ?_)))⟩
  · have hl : decide (60 < (sn : Int)) = false := by simp; omega
    have hl6 : sn ≤ 60 := by omega
    clear hlen
    obtain ⟨N, hN, hN8⟩ : ∃ N : Nat, bits .and .i64 a0 7 = (N : Int) ∧ N < 8 := ⟨(a0 % 8).toNat, by rw [i64_mask3]; omega, by omega⟩
    obtain ⟨M, hM, hM1⟩ : ∃ M : Nat, bits .and .i64 a1 1073741823 = (M : Int) ∧ M < 1073741824 := ⟨(a1 % 1073741824).toNat, by rw [i64_mask30]; omega, by omega⟩
    obtain ⟨tn, hT, hT1⟩ : ∃ tn : Nat, (M : Int) % 129 = (tn : Int) ∧ tn ≤ 128 := ⟨M % 129, by omega, by omega⟩
    obtain ⟨i5, hi5, hz50, hz51, hz52⟩ := info_parts info5
    go_enter Try.func7, Try.ntmps7
    go_wp2_with fail
    refine (sane41_c _).mono ?_
    rintro e w1 ⟨rfl, hb1⟩
    have hg1 := Grow.of_below HK.out hb1
    go_wp2_with fail
    refine (diskOf_c (-1) 0 (oldD w) _ hg1.keeps).mono ?_
    rintro e w2 ⟨A2, c2, D2, tv, rfl, hg2, hs2, ht0, ht1⟩
    have hk2 := hg2.keeps
    clear hN hM
    go_wp2_with fail
    refine (stop_c _ _ _ secs4 _ _ _ _ _ D2 _ hk2 hs2).mono ?_
    rintro e w3 ⟨A3, n3, c3, rfl, hb3, hs3⟩
    have HS0 : stopF ⟨secs4, -1, tv, false⟩ N tn = (⟨secs4, N, tn, false⟩, 0) := by
      have h0 : chk ⟨secs4, -1, tv, false⟩ = 0 := chk_ok ⟨by simp [secs4], by simp [secs4], by simp [secs4, wholeB], by simp, ht0, ht1, by simp⟩
      unfold stopF
      rw [if_neg (by rw [h0]; omega), if_neg (by simp)]
    rw [HS0] at hs3 ⊢
    clear HS0 hT
    have hg3 := (hg1.trans hg2).trans (Grow.of_below hk2 hb3)
    obtain ⟨rfl, _, _⟩ := hs3.len
    have hk3 := hg3.keeps
    go_wp2_with fail
    refine (diskWhole_c _ _ _ secs4 _ _ _ D2 _ (hk3.alloc _) hs3 (by simp [secs4]) (by simp [secs4, wholeB])).mono ?_
    rintro e w4 ⟨rfl, hb4⟩
    have hg4 := (hg3.alloc _).trans (Grow.of_below (hk3.alloc _) hb4)
    have bd4 := (Box.new hk3 26 #[.slice A3 secs4.length c3, .int .i64 N, .int .i64 tn, .bool false]).below hb4 (by simp)
    go_wp2_with fail
    go_loopw [9, 10, 11, 12, 13, 14, 15, 16, 17, 18, 19, 20, 21, 22, 49] (fun _ _ _ _ _ _ _ _ _ _ _ _ _ _ i wr => ∃ (k : Nat) (D' : Gh) (ys : List (List UInt8)) (l : Int) (st : Bool) (A : Option Addr) (n c : Nat), k ≤ sn ∧ i = .int .i64 k ∧ Hid (SInv N k ys l st) ∧ Grow w (oldD w) wr D' ∧ Box wr D' w3.heap.size 26 #[.slice A n c, .int .i64 l, .int .i64 tn, .bool st] ∧ SS D' (.slice A n c) ys) (fun _ _ _ _ _ _ _ _ _ _ _ _ _ _ i _ => sn - (intOf i).toNat)
    case atStart => exact ⟨0, D2, secs4, N, false, A3, _, c3, Nat.zero_le _, rfl, Lib.hid ⟨by simp [secs4], by simp [secs4, wholeB], fun _ => ⟨by omega, rfl⟩, fun h => by omega⟩, hg4, bd4, hs3⟩
    case round =>
      obtain ⟨k, D5, ys, l, st, A, n, c, hk, rfl, HI, hg5, bd5, hs5⟩ := hrel
      by_cases hlt : k < sn
      · obtain ⟨b, o, rfl, hcell⟩ := (HS.out.le hg5.le).at_ (k := k) hg5.keeps (by have := HSN.out; omega)
        have hlc : decide ((k : Int) < (sn : Int)) = true := by simp; omega
        obtain ⟨cb, hcb⟩ : ∃ x, bs[k]'(by have := HSN.out; omega) = x := ⟨_, rfl⟩
        rw [hcb] at hcell
        clear hcb
        have hk5 := hg5.keeps
        obtain ⟨j, hj, hjm⟩ : ∃ j : Nat, j < 4 ∧ (cb.toNat : Int) % 4 = (j : Int) := ⟨cb.toNat % 4, by omega, by omega⟩
        obtain ⟨wb, zl, zp, ec, old, HF0⟩ := stops_step (T := tn) cb HI.out (by omega) (by omega) hj
        have HF := Lib.hid HF0
        clear HF0
        have q5 := bd5.cell
        have hj0 : (0 : Int) ≤ (j : Int) := by omega
        obtain rfl : n = 4 := by have := hs5.len; have := HI.out.1; omega
        have hj1 : (j : Int) < 4 := by omega
        have hjx : j < ys.length := by have := HI.out.1; omega
        obtain ⟨b1, o1, a1', c1', rfl, hcell1, hbs1⟩ := hs5.at_ hk5 hjx
        rw [show ys[j] = old from Option.some.inj ((List.getElem?_eq_getElem hjx).symm.trans HF.out.1), HF.out.2.1] at hcell1 hbs1
        have hbl := World.block_lt_of_cell? wr _ hcell1
        simp only at hbl
        have hlt5 := bd5.lt
        go_wp2_with (at_builtin; refine wpList_append_sl (o := ⟨some 63, _, _, _, _, _⟩) _ rfl _ _ 32 rfl wr.heap.size 5 i5 (.int .u8 0) 1 Try.underlying32 hi5 hz50 hz51 hz52 rfl _ 0 [] rfl (own_empty (by omega) (heap_alloc_new _ _)) D5 (hk5.alloc _) _ _ _ _ rfl hbs1 (bv_one _) ?c1 ?c2 ?c3 ?_)
        case c1 => unfold maxLen; omega
        case c2 => omega
        case c3 => simp
        intro A1 c1 w5 hown1 hgr1 hat1
        replace hgr1 : (wr.alloc (.cells #[] 5)).grownBy w5 (some wr.heap.size) := hgr1
        replace hown1 : w5.ownsRow wr.heap.size 5 1 (.slice A1 128 c1) 128 (old.map bv) := by simpa using hown1
        replace hat1 : Value.ownBlock (.slice A1 128 c1) = some wr.heap.size ∨ Value.ownBlock (.slice A1 128 c1) = some (wr.heap.size + 1) := hat1
        have hlg : w.heap.size ≤ w3.heap.size := Nat.le_trans hg1.below.size (Nat.le_trans hg2.below.size hb3.size)
        have hG1 : Grow w (oldD w) w5 D5 := Grow.row (hg5.alloc _) hgr1 (fun g h => by injection h with h; omega) (fun g h => by injection h with h; subst h; exact hk5.offNew (Nat.le_refl _))
        obtain ⟨D6, hg6, hle6, hsl6, hof6⟩ := hG1.pub hown1 (by omega) (fun g h => by
          rcases hat1 with e | e
          · rw [e] at h; injection h with h; exact hk5.offNew (by omega)
          · rw [e] at h; injection h with h; exact hk5.offNew (by omega))
        have bd6 : Box w5 D6 w3.heap.size 26 #[.slice (some ⟨b1, o1, none⟩) 4 c, .int .i64 l, .int .i64 tn, .bool st] := ((bd5.alloc _).grown hgr1 (fun e => by injection e with e; omega)).le (hof6 _ bd5.off (fun e => by have h := (hown1.lt _ e).1; omega))
        have hs6 := hs5.le hle6
        have ho6 : BS D6 (.slice A1 128 c1) old := hsl6
        have hk6 := hg6.keeps
        have q6 := bd6.cell
        clear q5 hcell1 hown1 hgr1 hat1 hG1 hof6 hsl6 hbs1
        go_wp2_with fail
        refine (copy_c _ _ _ ys _ _ _ D6 _ hk6 hs6 (by omega) (fun x hx => by have := HI.out.2.1 x hx; omega)).mono ?_
        rintro e w6 ⟨A7, n7, c7, D7, rfl, hg7, ho7⟩
        have bd7 := (bd6.grow hg7).alloc (.cells #[.slice A7 n7 c7, .int .i64 l, .int .i64 tn, .bool st] 26)
        have bo7 := Box.new hg7.keeps 26 #[.slice A7 n7 c7, .int .i64 l, .int .i64 tn, .bool st]
        have hs7 := hs6.le hg7.le
        have hk7 := hg7.keeps.alloc (.cells #[.slice A7 n7 c7, .int .i64 l, .int .i64 tn, .bool st] 26)
        have hg7' := (hg6.trans hg7).alloc (.cells #[.slice A7 n7 c7, .int .i64 l, .int .i64 tn, .bool st] 26)
        have hll : l ≤ 100 := by
          obtain ⟨_, _, h1, h2⟩ := HI.out
          rcases Nat.lt_or_ge N k with h | h
          · have := (h2 h).1; omega
          · have := (h1 h).1; omega
        clear q6
        go_wp2_with fail
        generalize hW8 : w6.alloc (.cells #[.slice A7 n7 c7, .int .i64 l, .int .i64 tn, .bool st] 26) = w8 at *
        clear hW8
        go_cut [14, 15] (fun x e wx => ∃ (D' : Gh) (gx : Nat) (xA : Option Addr) (xn xc : Nat), x = .pointer (some ⟨gx, 0, none⟩) ∧ e = .int .i64 ec ∧ Grow (w8) D7 wx D' ∧ Box wx D' gx 26 #[.slice xA xn xc, .int .i64 zl, .int .i64 tn, .bool zp] ∧ SS D' (.slice xA xn xc) (ys.set j wb))
        case first =>
          have SH : Hid (∀ W D', Box W D' (w3.heap.size) 26 #[.slice (some ⟨b1, o1, none⟩) 4 c, .int .i64 l, .int .i64 tn, .bool st] → (W.cell? ⟨w3.heap.size, 0, none⟩ = some (.slice (some ⟨b1, o1, none⟩) 4 c) ∧ W.cell? ⟨w3.heap.size, 1, none⟩ = some (.int .i64 l) ∧ W.cell? ⟨w3.heap.size, 2, none⟩ = some (.int .i64 tn) ∧ W.cell? ⟨w3.heap.size, 3, none⟩ = some (.bool st))) := fun W D' h => h.cells4
          obtain ⟨q0, q1, q2, q3⟩ := bd7.cells4
          have hlx := bd7.lt
          go_region_held3 (fun W => W.cell? ⟨w3.heap.size, 0, none⟩ = some (.slice (some ⟨b1, o1, none⟩) 4 c) ∧ W.cell? ⟨w3.heap.size, 1, none⟩ = some (.int .i64 l) ∧ W.cell? ⟨w3.heap.size, 2, none⟩ = some (.int .i64 tn) ∧ W.cell? ⟨w3.heap.size, 3, none⟩ = some (.bool st))
            (first | (refine SH.out _ D7 ?_; (repeat (first | (with_reducible assumption) | (with_reducible refine Box.drew ?_) | (with_reducible refine Box.alloc ?_ _) | ((with_reducible refine Box.far2 ?_ ?_); omega))); done) | (refine SH.out _ Da1 ?_; (repeat (first | (with_reducible assumption) | (with_reducible refine Box.drew ?_) | (with_reducible refine Box.alloc ?_ _) | ((with_reducible refine Box.far2 ?_ ?_); omega))); done) | (refine SH.out _ Db1 ?_; (repeat (first | (with_reducible assumption) | (with_reducible refine Box.drew ?_) | (with_reducible refine Box.alloc ?_ _) | ((with_reducible refine Box.far2 ?_ ?_); omega))); done) | go_keep)
            (first
              | (go_at_call 20; refine (whole_c cb D7 _ (by repeat (with_reducible first | assumption | refine Keeps.drew ?_ | refine Keeps.drewN ?_ _ | refine Keeps.alloc ?_ _ | exact Grow.keeps (by assumption)))).mono ?_; rintro e wa1 ⟨a8, Da1, rfl, hg8, hb8⟩; have bx8 : Box wa1 Da1 (w3.heap.size) 26 #[.slice (some ⟨b1, o1, none⟩) 4 c, .int .i64 l, .int .i64 tn, .bool st] := Box.grow (by (repeat (with_reducible first | assumption | refine Box.drew ?_ | refine Box.alloc ?_ _)); done) hg8; have hl8 := bx8.lt; have hz8 := hg8.below.size; simp only [World.size_drew, World.size_alloc] at hz8; (try have hz8' : (w8).heap.size < wa1.heap.size := by omega); obtain ⟨hcw8, hfw8⟩ := bcell hg8.below)
              | (go_at_call 19; refine (write_c _ 4 c ys l tn _ st _ 128 _ (wholeB cb) Da1 _ (by repeat (with_reducible first | assumption | refine Keeps.drew ?_ | refine Keeps.drewN ?_ _ | refine Keeps.alloc ?_ _ | exact Grow.keeps (by assumption))) (hs7.le hg8.le) hb8 (by omega)).mono ?_; rintro e wb1 ⟨a9, n9, c9, Db1, rfl, hg9, hs9⟩; rw [HF.out.2.2.1] at hs9 ⊢; have bx9 : Box wb1 Db1 (w3.heap.size) 26 #[.slice (some ⟨b1, o1, none⟩) 4 c, .int .i64 l, .int .i64 tn, .bool st] := Box.grow (by (repeat (with_reducible first | assumption | refine Box.drew ?_ | refine Box.alloc ?_ _)); done) hg9; obtain ⟨hcw9, hfw9⟩ := bcell hg9.below))
          · go_wp2_with fail
            go_meet
            exact ⟨Db1, _, a9, n9, c9, rfl, rfl, Grow.alloc (by repeat (with_reducible first | assumption | exact Grow.refl (by assumption) | refine Grow.drew ?_ | refine Grow.drewN ?_ _ | refine Grow.alloc ?_ _ | refine Grow.trans ?_ (by assumption))) _, Box.new hg9.keeps _ _, hs9⟩
          · go_wp2_with fail
            go_meet
            have hB := (Box.new hg8.keeps 26 #[.slice none 0 0, .int .i64 0, .int .i64 0, .bool false]).grow hg9
            exact ⟨Db1, _, a9, n9, c9, rfl, rfl, Grow.set4 (by repeat (with_reducible first | assumption | exact Grow.refl (by assumption) | refine Grow.drew ?_ | refine Grow.drewN ?_ _ | refine Grow.alloc ?_ _ | refine Grow.trans ?_ (by assumption))) (by omega) hB.off _ _ _ _, hB.set4 _ _ _ _, hs9⟩
          · go_wp2_with fail
            go_meet
            have hB := ((Box.new hk7 26 #[.slice none 0 0, .int .i64 0, .int .i64 0, .bool false]).drew.grow hg8).grow hg9
            exact ⟨Db1, _, a9, n9, c9, rfl, rfl, Grow.set4 (by repeat (with_reducible first | assumption | exact Grow.refl (by assumption) | refine Grow.drew ?_ | refine Grow.drewN ?_ _ | refine Grow.alloc ?_ _ | refine Grow.trans ?_ (by assumption))) (by omega) hB.off _ _ _ _, hB.set4 _ _ _ _, hs9⟩
        case rest =>
          obtain ⟨D9, gx, xA, xn, xc, rfl, rfl, hg9, bx9, hx9⟩ := hcut
          have bd9 := bd7.grow hg9
          have bo9 := bo7.grow hg9
          have ho9 := ho7.le hg9.le
          have hold9 := ho6.le (hg7.le.trans hg9.le)
          have hg9' := hg7'.trans hg9
          rename World => w9
          have q9 := bx9.cell
          have hk9 := hg9.keeps
          go_wp2_with fail
          refine (diskWhole_c _ _ _ (ys.set j wb) _ _ _ D9 _ hk9 hx9 (by simp [HI.out.1]) HF.out.2.2.2.2.1.2.1).mono ?_
          rintro e w10 ⟨rfl, hb10⟩
          have hg10 := Grow.of_below hk9 hb10
          have bd10 := bd9.grow hg10
          have bo10 := bo9.grow hg10
          have bx10 := bx9.grow hg10
          have hk10 := hg10.keeps
          clear q9
          go_wp2_with fail
          refine (whole_c cb D9 _ hk10).mono ?_
          rintro e w11 ⟨a11, D11, rfl, hg11, hb11⟩
          replace hb11 : BS D11 (.slice a11 128 128) (wholeB cb) := hb11
          have bd11 := bd10.grow hg11
          have bo11 := bo10.grow hg11
          have bx11 := bx10.grow hg11
          have hold11 := hold9.le hg11.le
          have hk11 := hg11.keeps
          have hg11' := (hg9'.trans hg10).trans hg11
          have hx11 := hx9.le hg11.le
          have ho11 := ho9.le hg11.le
          obtain ⟨HF1, HF2, HF3, HF4, HF5, HF6⟩ := HF.out
          have HI1 := Lib.hid HF5
          have HWL := Lib.hid HF4
          have HF7 := Lib.hid HF6
          clear HF1 HF2 HF3 HF4 HF5 HF6
          go_upto_block 2 with (fail)
          go_cut [16] (fun v wx => ∃ (D' : Gh) (wA : Option Addr) (wn wcap : Nat), v = .slice wA wn wcap ∧ Grow w11 D11 wx D' ∧ BS D' (.slice wA wn wcap) wb)
          case first =>
            rcases HF7.out with ⟨hkN, rfl, rfl, rfl⟩ | ⟨rfl, rfl, rfl, rfl⟩ | ⟨hkN, rfl, rfl, rfl⟩
            · have t1 : ((k : Int) == (N : Int)) = false := by simp; omega
              have t2 : decide ((N : Int) < (k : Int)) = false := by simp; omega
              have t1' : (k == N) = false := by simp; omega
              have t2' : decide (N < k) = false := by simp; omega
              go_wp2_with fail
              go_meet
              exact ⟨D11, _, _, _, rfl, Grow.refl hk11, hb11⟩
            · go_wp2_with fail
              have hold12 : Sl D11 (.slice A1 128 c1) (old.map bv) := hold11
              obtain ⟨b2, o2, ha2, hjunk⟩ := hold11.at_ (k := 0) hk11 (by have := HF.out.2.1; omega)
              clear hjunk
              subst ha2
              have ht128 : tn ≤ 128 := hT1
              have ht128' : (tn : Int) ≤ 128 := by omega
              have ht00 : (0 : Int) ≤ (tn : Int) := by omega
              obtain ⟨hjk2, hc128, hcmx⟩ := hold11.len
              clear hjk2
              unfold maxLen at hcmx
              rcases (show c1 = tn ∨ ¬ c1 = tn by omega) with htc | htc
              · obtain rfl : tn = c1 := htc.symm
                have hslo : Sl D11 (.slice (some ⟨b2, o2, none⟩) 0 0) ((old.map bv).drop tn) := by
                  rw [List.drop_eq_nil_of_le (by simp [HF.out.2.1]; omega)]
                  exact Sl.none_ _ (by simp [maxLen]) (by simp)
                go_region_held3 (fun _ => True) (first | trivial | go_keep)
                  (first
                    | (go_at_call 20; refine (whole_c cb D11 _ (by repeat (with_reducible first | assumption | refine Keeps.drew ?_ | refine Keeps.drewN ?_ _ | refine Keeps.alloc ?_ _ | exact Grow.keeps (by assumption)))).mono ?_; rintro e w12 ⟨a8, D8, rfl, hg8, hb8⟩; replace hb8 : BS D8 (.slice a8 128 128) (wholeB cb) := hb8; have hb8t := Sl.take hb8 (k := tn) (by omega); have ho8 := hslo.le hg8.le; have hz8 := hg8.below.size; simp only [World.size_drew, World.size_alloc] at hz8; (try have hE8 : w12.heap[w11.heap.size]? = some (.cells #[] 5 (0, 0)) := (hg8.below.block w11.heap.size (by simp)).trans (heap_alloc_new w11 _)); have hk12 := hg8.keeps)
                    | ((with_reducible show (if Region.wanted (⟨some 88, _, _, _, _, _⟩ : Oper) _ = true then _ else _)); refine step_append_sl (o := ⟨some 88, _, _, _, _, _⟩) _ (by rfl) _ _ _ (by rfl) w11.heap.size 5 i5 _ 1 Try.underlying32 hi5 hz50 hz51 hz52 rfl _ 0 [] (by rfl) (by first | exact own_empty (by omega) hE8 | exact own_empty (by omega) (heap_alloc_new _ _)) D8 (by exact (by repeat (with_reducible first | assumption | refine Keeps.drew ?_ | refine Keeps.drewN ?_ _ | refine Keeps.alloc ?_ _ | exact Grow.keeps (by assumption)))) _ _ _ _ (by rfl) hb8t (fun u hu => bv_one _ u (List.mem_of_mem_take hu)) (by unfold maxLen; omega) (by omega) (by first | omega | (simp; done) | (simp; omega)) ?_; intro sA2 sc2 w13 hownS hgrS hatS; have hoS := off_append (D := D8) (by exact (by repeat (with_reducible first | assumption | refine Keeps.drew ?_ | refine Keeps.drewN ?_ _ | refine Keeps.alloc ?_ _ | exact Grow.keeps (by assumption)))) (fun k e => by injection e with e; dsimp only at e; subst e; first | exact hg8.off (by simp) (hk11.offNew (Nat.le_refl _)) | exact hk12.offNew (Nat.le_refl _)) hatS; have hG13 : Grow w11 D11 w13 D8 := Grow.row (by repeat (with_reducible first | assumption | exact Grow.refl (by assumption) | refine Grow.drew ?_ | refine Grow.drewN ?_ _ | refine Grow.alloc ?_ _ | refine Grow.trans ?_ (by assumption))) hgrS (fun k e => by injection e with e; dsimp only at e; omega) (fun k e => by injection e with e; dsimp only at e; subst e; first | exact hg8.off (by simp) (hk11.offNew (Nat.le_refl _)) | exact hk12.offNew (Nat.le_refl _)); have hk13 := hG13.keeps)
                    | ((with_reducible show (if Region.wanted (⟨some 92, _, _, _, _, _⟩ : Oper) _ = true then _ else _)); refine step_append_sl (o := ⟨some 92, _, _, _, _, _⟩) _ (by rfl) _ _ _ (by rfl) w11.heap.size 5 i5 _ 1 Try.underlying32 hi5 hz50 hz51 hz52 rfl _ _ _ (by rfl) hownS D8 hk13 _ _ _ _ (by rfl) ho8 (fun u hu => bv_one _ u (List.mem_of_mem_drop hu)) (by unfold maxLen; omega) (by omega) (by have := hG13.below.size; omega) ?_; intro rA rc w14 hownT hgrT hatT; have hoT := off_append (D := D8) hk13 hoS hatT; have hG14 : Grow w11 D11 w14 D8 := Grow.row hG13 hgrT (fun k e => (hownS.lt k e).1) hoS))
                all_goals
                  go_wp2_with fail
                  go_meet
                  obtain ⟨D', h1, _, h3, _⟩ := hG14.pub hownT (Nat.le_refl _) hoT
                  refine ⟨D', _, _, _, rfl, h1, ?_⟩
                  have eT : [] ++ List.take tn (List.map bv (wholeB cb)) ++ List.drop tn (List.map bv old) = ((wholeB cb).take tn ++ old.drop tn).map bv := by
                    rw [List.nil_append, List.map_append, List.map_take, List.map_drop]
                  rw [eT] at h3
                  rw [show 0 + tn + 0 = tn by omega] at h3
                  exact h3
              · have hslo := Sl.drop hold12 (k := tn) ht128
                go_region_held3 (fun _ => True) (first | trivial | go_keep)
                  (first
                    | (go_at_call 20; refine (whole_c cb D11 _ (by repeat (with_reducible first | assumption | refine Keeps.drew ?_ | refine Keeps.drewN ?_ _ | refine Keeps.alloc ?_ _ | exact Grow.keeps (by assumption)))).mono ?_; rintro e w12 ⟨a8, D8, rfl, hg8, hb8⟩; replace hb8 : BS D8 (.slice a8 128 128) (wholeB cb) := hb8; have hb8t := Sl.take hb8 (k := tn) (by omega); have ho8 := hslo.le hg8.le; have hz8 := hg8.below.size; simp only [World.size_drew, World.size_alloc] at hz8; (try have hE8 : w12.heap[w11.heap.size]? = some (.cells #[] 5 (0, 0)) := (hg8.below.block w11.heap.size (by simp)).trans (heap_alloc_new w11 _)); have hk12 := hg8.keeps)
                    | ((with_reducible show (if Region.wanted (⟨some 88, _, _, _, _, _⟩ : Oper) _ = true then _ else _)); refine step_append_sl (o := ⟨some 88, _, _, _, _, _⟩) _ (by rfl) _ _ _ (by rfl) w11.heap.size 5 i5 _ 1 Try.underlying32 hi5 hz50 hz51 hz52 rfl _ 0 [] (by rfl) (by first | exact own_empty (by omega) hE8 | exact own_empty (by omega) (heap_alloc_new _ _)) D8 (by exact (by repeat (with_reducible first | assumption | refine Keeps.drew ?_ | refine Keeps.drewN ?_ _ | refine Keeps.alloc ?_ _ | exact Grow.keeps (by assumption)))) _ _ _ _ (by rfl) hb8t (fun u hu => bv_one _ u (List.mem_of_mem_take hu)) (by unfold maxLen; omega) (by omega) (by first | omega | (simp; done) | (simp; omega)) ?_; intro sA2 sc2 w13 hownS hgrS hatS; have hoS := off_append (D := D8) (by exact (by repeat (with_reducible first | assumption | refine Keeps.drew ?_ | refine Keeps.drewN ?_ _ | refine Keeps.alloc ?_ _ | exact Grow.keeps (by assumption)))) (fun k e => by injection e with e; dsimp only at e; subst e; first | exact hg8.off (by simp) (hk11.offNew (Nat.le_refl _)) | exact hk12.offNew (Nat.le_refl _)) hatS; have hG13 : Grow w11 D11 w13 D8 := Grow.row (by repeat (with_reducible first | assumption | exact Grow.refl (by assumption) | refine Grow.drew ?_ | refine Grow.drewN ?_ _ | refine Grow.alloc ?_ _ | refine Grow.trans ?_ (by assumption))) hgrS (fun k e => by injection e with e; dsimp only at e; omega) (fun k e => by injection e with e; dsimp only at e; subst e; first | exact hg8.off (by simp) (hk11.offNew (Nat.le_refl _)) | exact hk12.offNew (Nat.le_refl _)); have hk13 := hG13.keeps)
                    | ((with_reducible show (if Region.wanted (⟨some 92, _, _, _, _, _⟩ : Oper) _ = true then _ else _)); refine step_append_sl (o := ⟨some 92, _, _, _, _, _⟩) _ (by rfl) _ _ _ (by rfl) w11.heap.size 5 i5 _ 1 Try.underlying32 hi5 hz50 hz51 hz52 rfl _ _ _ (by rfl) hownS D8 hk13 _ _ _ _ (by rfl) ho8 (fun u hu => bv_one _ u (List.mem_of_mem_drop hu)) (by unfold maxLen; omega) (by omega) (by have := hG13.below.size; omega) ?_; intro rA rc w14 hownT hgrT hatT; have hoT := off_append (D := D8) hk13 hoS hatT; have hG14 : Grow w11 D11 w14 D8 := Grow.row hG13 hgrT (fun k e => (hownS.lt k e).1) hoS))
                all_goals
                  go_wp2_with fail
                  go_meet
                  obtain ⟨D', h1, _, h3, _⟩ := hG14.pub hownT (Nat.le_refl _) hoT
                  refine ⟨D', _, _, _, rfl, h1, ?_⟩
                  have eT : [] ++ List.take tn (List.map bv (wholeB cb)) ++ List.drop tn (List.map bv old) = ((wholeB cb).take tn ++ old.drop tn).map bv := by
                    rw [List.nil_append, List.map_append, List.map_take, List.map_drop]
                  rw [eT] at h3
                  rw [show 0 + tn + (128 - tn) = 128 by omega] at h3
                  exact h3
            · have t1 : ((k : Int) == (N : Int)) = false := by simp; omega
              have t2 : decide ((N : Int) < (k : Int)) = true := by simp; omega
              have t1' : (k == N) = false := by simp; omega
              have t2' : decide (N < k) = true := by simp; omega
              go_wp2_with fail
              go_meet
              exact ⟨D11, _, _, _, rfl, Grow.refl hk11, hold11⟩
          case rest =>
            obtain ⟨D12, wA, wn, wcap, rfl, hg12, hw12⟩ := hcut
            rename World => w12
            have bd12 := bd11.grow hg12
            have bo12 := bo11.grow hg12
            have bx12 := bx11.grow hg12
            have hk12 := hg12.keeps
            have hx12 := hx11.le hg12.le
            have ho12 := ho11.le hg12.le
            have hg12' := hg11'.trans hg12
            have lx12 := bx12.lt
            have lo12 := bo12.lt
            have q12 := bx12.cell
            have q12o := bo12.cell
            have ecv := fun (W : World) (hk : Keeps D12 W) (a : Option Addr) (n c : Nat) (bs : List UInt8) (h : BS D12 (.slice a n c) bs) => Lib.hid (run_string_bs (P := Try.prog) hk Try.underlying32 Try.underlying5 Try.underlying9 h)
            go_wp2_with fail
            go_loopw [17, 98] (fun _ i wr => ∃ (m nq : Nat), m ≤ 4 ∧ i = .int .i64 m ∧ wr = w12.drewN nq) (fun _ i _ => 4 - (intOf i).toNat)
            case atStart => exact ⟨0, 0, Nat.zero_le _, rfl, rfl⟩
            case round =>
              obtain ⟨m, nq, hm, rfl, rfl⟩ := hrel
              by_cases hm4 : m < 4
              · have hmc : (m : Int) < 4 := by omega
                have hm0 : (0 : Int) ≤ (m : Int) := by omega
                obtain ⟨hxn, hxn1, hxn2⟩ := hx12.len
                obtain ⟨hon, hon1, hon2⟩ := ho12.len
                obtain rfl : xn = 4 := by rw [hxn, List.length_set]; exact HI.out.1
                obtain rfl : n7 = 4 := by rw [hon]; exact HI.out.1
                clear hxn hon
                have hmz : m < (ys.set j wb).length := by rw [List.length_set]; have := HI.out.1; omega
                have hmy : m < ys.length := by have := HI.out.1; omega
                obtain ⟨b3, o3, a3, c3', rfl, hcell3, hbs3⟩ := hx12.at_ hk12 hmz
                obtain ⟨b4, o4, a4, c4', rfl, hcell4, hbs4⟩ := ho12.at_ hk12 hmy
                have e1 := fun nq => (ecv (w12.drewN nq) (hk12.drewN _) _ _ _ _ hbs3).out
                have e2 := fun nq => (ecv (w12.drewN nq) (hk12.drewN _) _ _ _ _ hbs4).out
                have e3 := fun nq => (ecv (w12.drewN nq) (hk12.drewN _) _ _ _ _ hw12).out
                clear ecv
                by_cases hmj : m = j
                · subst hmj
                  rw [show (ys.set m wb)[m] = wb by simp] at e1 hcell3
                  clear hbs3
                  go_wp2
                  go_quiet (fail)
                  go_wp2
                  go_roundw
                  case rel => exact ⟨m + 1, _, by omega, by go_num, rfl⟩
                  case measure => simp [intOf]; omega
                · rw [show (ys.set j wb)[m] = ys[m] by rw [List.getElem_set, if_neg (fun h => hmj h.symm)]] at e1 hcell3
                  have t1 : ((m : Int) == (j : Int)) = false := by simp; omega
                  have t2 : ((m : Int) != (j : Int)) = true := by simp; omega
                  have t1' : (m == j) = false := by simp; omega
                  have t2' : (m != j) = true := by simp; omega
                  go_wp2
                  go_quiet (fail)
                  go_wp2
                  go_roundw
                  case rel => exact ⟨m + 1, _, by omega, by go_num, rfl⟩
                  case measure => simp [intOf]; omega
              · obtain rfl : m = 4 := by omega
                clear ecv q12 q12o
                have bd13 : Box (w12.drewN nq) D12 w3.heap.size 26 #[.slice (some ⟨b1, o1, none⟩) 4 c, .int .i64 l, .int .i64 tn, .bool st] := ⟨bd12.heap, bd12.off⟩
                have bx13 : Box (w12.drewN nq) D12 gx 26 #[.slice xA xn xc, .int .i64 zl, .int .i64 tn, .bool zp] := ⟨bx12.heap, bx12.off⟩
                have hg13 : Grow w (oldD w) (w12.drewN nq) D12 := hg12'.drewN nq
                generalize w12.drewN nq = w13 at *
                have hk13 := hg13.keeps
                have q13 := bx13.cell
                have q13d := bd13.cell
                have f13 := bd13.frozen
                rcases (show (k < N ∧ ec = 0 ∧ zp = false) ∨ (N ≤ k ∧ ec = 410 ∧ zp = true) by rcases HF7.out with ⟨h, _, h1, h2⟩ | ⟨h, _, h1, h2⟩ | ⟨h, _, h1, h2⟩; exact .inl ⟨h, h1, h2⟩; exact .inr ⟨by omega, h1, h2⟩; exact .inr ⟨by omega, h1, h2⟩) with ⟨hkN, rfl, rfl⟩ | ⟨hkN, rfl, rfl⟩
                · have t1 : decide ((k : Int) < (N : Int)) = true := by simp; omega
                  have t2 : decide ((N : Int) ≤ (k : Int)) = false := by simp; omega
                  have t1' : decide (k < N) = true := by simp; omega
                  have t2' : decide (N ≤ k) = false := by simp; omega
                  go_wp2
                  go_roundw
                  case rel => exact ⟨k + 1, D12, ys.set j wb, zl, false, xA, xn, xc, by omega, by go_num, HI1, hg13.set4 hlg bd13.off _ _ _ _, bd13.set4 _ _ _ _, hx12⟩
                  case measure => simp [intOf]; omega
                · have t1 : decide ((k : Int) < (N : Int)) = false := by simp; omega
                  have t2 : decide ((N : Int) ≤ (k : Int)) = true := by simp; omega
                  have t1' : decide (k < N) = false := by simp; omega
                  have t2' : decide (N ≤ k) = true := by simp; omega
                  obtain ⟨hr1, hr2, hr3⟩ := stops_reads (T := tn) (j := j) (wb := wb) HI1.out (by omega) (by omega) hj (by simp [HI.out.1, hj])
                  have HR1 := Lib.hid hr1
                  clear hr1
                  have HR2 := Lib.hid hr2
                  clear hr2
                  have HR3 := Lib.hid hr3
                  clear hr3
                  go_wp2_with fail
                  refine (read_c xA xn xc (ys.set j wb) zl tn 0 true D12 _ hk13 hx12).mono ?_
                  rintro e w14 ⟨ra, rn, rc, D14, rfl, hg14, hb14⟩
                  rw [HR1.out] at hb14 ⊢
                  clear hb14
                  have bx14 := bx13.grow hg14
                  have bd14 := bd13.grow hg14
                  have q14 := bx14.cell
                  clear q13 q13d f13
                  go_wp2_with fail
                  refine (restart_c xA xn xc zl tn true _).mono ?_
                  rintro e w15 ⟨rfl, hb15⟩
                  have hg15 := Grow.of_below hg14.keeps hb15
                  have bx15 := bx14.grow hg15
                  have bd15 := bd14.grow hg15
                  have hx15 := hx12.le hg14.le
                  have by15 := Box.new hg15.keeps 26 #[.slice xA xn xc, .int .i64 (-1), .int .i64 0, .bool false]
                  have hk15 := hg15.keeps.alloc (.cells #[.slice xA xn xc, .int .i64 (-1), .int .i64 0, .bool false] 26)
                  clear q14
                  go_wp2_with fail
                  refine (read_c xA xn xc (ys.set j wb) (-1) 0 j false D14 _ hk15 hx15).mono ?_
                  rintro e w16 ⟨ra2, rn2, rc2, D16, rfl, hg16, hb16⟩
                  rw [HR2.out] at hb16 ⊢
                  have hk16 := hg16.keeps
                  have by16 := by15.grow hg16
                  have bx16 := (bx15.alloc _).grow hg16
                  have bd16 := (bd15.alloc _).grow hg16
                  have e1 := run_string_bs (P := Try.prog) hk16 Try.underlying32 Try.underlying5 Try.underlying9 hb16
                  have e2 := run_string_bs (P := Try.prog) hk16 Try.underlying32 Try.underlying5 Try.underlying9 ((hw12.le hg14.le).le hg16.le)
                  have q16 := by16.cell
                  have hx16 := hx15.le hg16.le
                  go_wp2_with fail
                  refine (check_c xA xn xc (ys.set j wb) (-1) 0 false D16 _ hk16 hx16).mono ?_
                  rintro e w17 ⟨rfl, hb17⟩
                  rw [HR3.out]
                  have hg17 := Grow.of_below hk16 hb17
                  have bx17 := bx16.grow hg17
                  have bd17 := bd16.grow hg17
                  have q17 := bx17.cell
                  have f17 := bd17.frozen
                  have q17d := bd17.cell
                  have hgz := (((hg13.trans hg14).trans hg15).alloc (.cells #[.slice xA xn xc, .int .i64 (-1), .int .i64 0, .bool false] 26)).trans (hg16.trans hg17)
                  clear q16 e1 e2
                  go_wp2
                  go_roundw
                  case rel => exact ⟨k + 1, D16, ys.set j wb, zl, true, xA, xn, xc, by omega, by go_num, HI1, hgz.set4 hlg bd17.off _ _ _ _, bd17.set4 _ _ _ _, hx16⟩
                  case measure => simp [intOf]; omega
      · have hlc : decide ((k : Int) < (sn : Int)) = false := by simp; omega
        go_wp2
        go_ret
        exact ⟨rfl, hg5.below⟩
end Go.Proofs.Ytegkmkglagmdiaa
