/-
  What is proved here: the iterator over the records, walked
-/
import Derived.Test.YtegkmkglagmdiaaRows
import Derived.Test.YtegkmkglagmdiaaBaseB
import Derived.Test.YtegkmkglagmdiaaCrc
import Derived.Test.YtegkmkglagmdiaaWalP
import Derived.Test.YtegkmkglagmdiaaWalA
import Derived.Test.YtegkmkglagmdiaaWalB
import Derived.Test.YtegkmkglagmdiaaWalC
import Derived.Test.YtegkmkglagmdiaaWalD
import Derived.Test.YtegkmkglagmdiaaWalE
import Derived.Test.YtegkmkglagmdiaaDiskF
import Derived.Test.YtegkmkglagmdiaaWalF
import Derived.Test.YtegkmkglagmdiaaRangeF
import Derived.OwnWalkIn
import Derived.TacticsInMore
import Derived.LoopNIn
import Derived.LoopIn
import Derived.Scope
import Derived.Laws.BitsAllLaws
import Derived.Deep.RegionHeld3
import Derived.Deep.RegionLaw
import Derived.Deep.DeepCutAuto
import Derived.Deep.QuietTactic
import Derived.BigQuiet
import Derived.Laws.EntriesVeiled
import Derived.Deep.MidRow
import Derived.Laws.CopyRow
namespace Go.Proofs.Ytegkmkglagmdiaa
open Go.RowKit Go.VS
theorem okS_flag (b : List UInt8) (k : Nat) (h : okS b k = true) : flagS b ≤ 3 := by
  by_cases h2 : ((b.getD 8 0).toNat * 256 + (b.getD 9 0).toNat = k ∧ flagS b ≤ 3 ∧ lenS b ≤ 112)
  · exact h2.2.1
  · rw [okS_2 b k h2] at h; cases h
theorem own_same {W W' : World} {base size n : Nat} {e : TypeId} {v : Value} {vs : List Value} (h : W.ownsRow base e size v n vs) (hs : ∀ g, v.ownBlock = some g → W'.heap[g]? = W.heap[g]?) : W'.ownsRow base e size v n vs := by
  refine ⟨h.1, ?_⟩
  rcases h.2 with ⟨rfl, h0⟩ | ⟨g, cap, cur, rfl, hg, hgb, rest⟩
  · exact .inl ⟨rfl, h0⟩
  · exact .inr ⟨g, cap, cur, rfl, hg, (hs g rfl).trans hgb, rest⟩
theorem box_not_row {W : World} {D : Gh} {g base n : Nat} {t e : TypeId} {cs : Array Value} {v : Value} {vs : List Value} (hB : Box W D g t cs) (h : W.ownsRow base e 1 v n vs) (hte : t ≠ e) : v.ownBlock ≠ some g := by
  rcases h.2 with ⟨rfl, h0⟩ | ⟨g', cap, cur, rfl, hg, hgb, rest⟩
  · simp [Value.ownBlock]
  · intro e'
    obtain rfl : g' = g := by simpa [Value.ownBlock] using e'
    have := hB.heap.symm.trans hgb
    injection this with this
    injection this with _ ht
    exact hte ht
theorem own_setRow {W : World} {base n g : Nat} {e : TypeId} {v : Value} {vs : List Value} (h : W.ownsRow base e 1 v n vs) (hne : v.ownBlock ≠ some g) (cs : Array Value) : (W.setRow g cs).ownsRow base e 1 v n vs :=
  own_same h fun g' hg' => setRow_other W g g' cs (fun e => hne (e ▸ hg'))
theorem scan_none_end {k last : Nat} : scan k last none [] = [] := by simp [scan]
theorem scan_some_end {k last : Nat} {b : List UInt8} : scan k last (some b) [] = [] := by simp [scan]
theorem scan_none_bad {k last : Nat} {s : List UInt8} {r : List (List UInt8)} (h : ¬ (okS s k = true ∧ begS s = true ∧ last ≤ num4 s)) : scan k last none (s :: r) = [] := by rw [scan, if_neg h]
theorem scan_some_bad {k last : Nat} {b s : List UInt8} {r : List (List UInt8)} (h : ¬ (okS s k = true ∧ begS s = false ∧ num4 s = last)) : scan k last (some b) (s :: r) = [] := by rw [scan, if_neg h]
theorem scan_none_ok {k last : Nat} {s : List UInt8} {r : List (List UInt8)} (h : okS s k = true ∧ begS s = true ∧ last ≤ num4 s) :
    scan k last none (s :: r) = if 2 ≤ flagS s then dataS s :: scan (k + 1) (num4 s) none r else scan (k + 1) (num4 s) (some (dataS s)) r := by
  rw [scan, if_pos h]; simp [endS]
theorem scan_some_ok {k last : Nat} {b s : List UInt8} {r : List (List UInt8)} (h : okS s k = true ∧ begS s = false ∧ num4 s = last) :
    scan k last (some b) (s :: r) = if 2 ≤ flagS s then (b ++ dataS s) :: scan (k + 1) last none r else scan (k + 1) last (some (b ++ dataS s)) r := by
  rw [scan, if_pos h]; simp [endS]
/-- a mark at which the walk stops. -/
def Stop (p : Prop) : Prop := p
theorem noGoto_ret {Q : Exit → Act → World → Prop} {a : Act} {w : World} (h : Q .ret a w) : Exit.noGoto Q .ret a w := h
theorem noGoto_norm {Q : Exit → Act → World → Prop} {a : Act} {w : World} (h : Q .normal a w) : Exit.noGoto Q .normal a w := h
theorem stopL {P : Program} {ops : Array Oper} {Q : Exit → Act → World → Prop} {l : List Oper} {a : Act} {w : World} (h : Stop (wpList P ops Q l a w)) : wpList P ops Q l a w := h
theorem Stop.out {p : Prop} (h : p) : Stop p := h
theorem round_any {n m l : Nat} {P : Program} {f : FuncId} {tmps : Array Value} {assign body : Code} {w : World} {R : Ending → World → Prop} (h : RoundIn Fence.wide n P l f tmps assign body w R) : RoundIn Fence.wide m P l f tmps assign body w R :=
  ⟨h.1, fun c cs _ => h.2 c cs (room_wide _)⟩
set_option maxRecDepth 100000 in
set_option maxHeartbeats 20000000 in
theorem iter_c (B : Nat) (A : Option Addr) (n c : Nat) (xs : List (List UInt8)) (D0 : Gh) (hB0 : D0 B 0 = some (.slice A n c)) (hs0 : SS D0 (.slice A n c) xs) (h128 : ∀ s ∈ xs, s.length = 128) (hn : n ≤ 65536) :
    SeqBS Try.prog 64 #[.pointer (some ⟨B, 0, none⟩)] (scan 0 0 none xs) D0 := by
  intro l J Jx W0 D hD hJk hJg hY hJ0
  obtain ⟨hxn, _, hcm⟩ := hs0.len
  unfold maxLen at hcm
  have HX := Lib.hid hxn
  clear hxn
  show Calls Try.prog 64 #[.func (.yield l) #[] #[], .pointer (some ⟨B, 0, none⟩)] W0 _
  have HY := Lib.hid hY
  have HJG := Lib.hid hJg
  have HJK := Lib.hid hJk
  have H128 := Lib.hid h128
  obtain ⟨i5, hi5, hz50, hz51, hz52⟩ := info_parts info5
  clear hY hJg hJk h128
  go_enter Try.func64, Try.ntmps64
  refine wp_scope_straight ?_
  go_wp2_with fail
  refine wp_label ?_
  go_wp2_with fail
  go_loopw [3, 4] (fun y z wr => ∃ (last k : Nat) (D1 : Gh) (pre : List (List UInt8)), y = .int .u32 (last : Int) ∧ z = .int .i64 (k : Int) ∧ k ≤ n ∧ D.le D1 ∧ J pre D1 wr ∧ Hid (scan 0 0 none xs = pre ++ scan k last none (xs.drop k)) ∧ last < 4294967296) (fun _ z _ => n - (intOf z).toNat)
  case atStart => exact ⟨0, 0, D, [], rfl, rfl, Nat.zero_le _, Gh.le.refl _, hJ0, Lib.hid rfl, by omega⟩
  case round =>
    generalize wr = wo at *
    obtain ⟨last, k, D1, pre, rfl, rfl, hkn, hD1, hJ, HS, hlast⟩ := hrel
    have hk := HJK.out _ _ _ hJ
    have hle := hD.trans hD1
    have cB : wo.cell? ⟨B, 0, none⟩ = some (.slice A n c) := hk _ _ _ (hle _ _ _ hB0)
    have HEND := Lib.hid (fun (h : scan k last none (xs.drop k) = []) (W : World) (hb : Below wo.heap.size wo W) => (by
      have e : scan 0 0 none xs = pre := by rw [HS.out, h, List.append_nil]
      rw [e]; exact HJG.out _ _ _ _ _ hJ (Grow.of_below hk hb) : J (scan 0 0 none xs) D1 W))
    by_cases hlt : k < n
    · have hkx : k < xs.length := by rw [← HX.out]; exact hlt
      obtain ⟨b, o, a', c', rfl, hcu, hbs⟩ := (hs0.le hle).at_ hk (k := k) hkx
      have hdr := List.drop_eq_getElem_cons (l := xs) (i := k) hkx
      have h128 := H128.out _ (List.getElem_mem hkx)
      generalize xs[k]'hkx = s at *
      rw [h128] at hcu hbs
      have HDR := Lib.hid hdr
      have HSL := Lib.hid h128
      have g1 : (k : Int) < (n : Int) := by omega
      have g0 : (0 : Int) ≤ (k : Int) := by omega
      have HG := Lib.hid (fun (W : World) (hW : Keeps D1 W) => good_c a' c' s k (by omega) D1 W hW hbs)
      clear hdr h128 hbs hkx
      go_wp2_with fail
      refine (HG.out _ hk).mono ?_
      rintro e w1 ⟨hb1, (⟨hok, A2, c2, rfl, hdat⟩ | ⟨hok, rfl⟩)⟩
      · have hk1 := hk.below hb1 (Nat.le_refl _)
        have hBx := Box.new hk1 84 #[.int .u32 0, .int .i64 0, .slice none 0 0]
        have hF := okS_flag s k hok
        have hGl := num4_lt s
        have HOK := Lib.hid hok
        have HDL := Lib.hid (show lenS s ≤ 112 ∧ (dataS s).length = lenS s from by
          have := hdat.len
          refine ⟨?_, this.1.symm⟩
          by_cases h2 : ((s.getD 8 0).toNat * 256 + (s.getD 9 0).toNat = k ∧ flagS s ≤ 3 ∧ lenS s ≤ 112)
          · exact h2.2.2
          · have := hok; rw [okS_2 s k h2] at this; cases this)
        have HBEG := Lib.hid (show begS s = decide (flagS s % 2 = 1) from rfl)
        have HSB := Lib.hid (fun (h : ¬ (begS s = true ∧ last ≤ num4 s)) => (scan_none_bad (r := xs.drop (k + 1)) (fun h' => h ⟨h'.2.1, h'.2.2⟩) : scan k last none (s :: xs.drop (k + 1)) = []))
        have HSO := Lib.hid (fun (h : begS s = true ∧ last ≤ num4 s) => (scan_none_ok (r := xs.drop (k + 1)) ⟨hok, h.1, h.2⟩))
        clear hok
        generalize num4 s = G at *
        generalize flagS s = F at *
        generalize lenS s = L at *
        generalize dataS s = dat at *
        generalize begS s = bg at *
        obtain ⟨A2f, A1f, e2, e1, j2, j1⟩ := and_21 F hF
        have J2 := Lib.hid j2
        have J1 := Lib.hid j1
        clear j1 j2
        have hBz := setRowW hBx #[.int .u32 (G : Int), .int .i64 (F : Int), .slice A2 L c2]
        have hbelz : Below wo.heap.size wo ((w1.alloc (.cells #[.int .u32 0, .int .i64 0, .slice none 0 0] 84)).setRow w1.heap.size #[.int .u32 (G : Int), .int .i64 (F : Int), .slice A2 L c2]) := belowRowW (belowAlloc hb1 _) hb1.size _
        have hgs : wo.heap.size ≤ w1.heap.size := hb1.size
        have hz84 : (Try.prog.info? 84).map (·.size) = some (#[Value.int .u32 (G : Int), .int .i64 (F : Int), .slice A2 L c2] : Array Value).size := by kernel_rfl
        have ho84 : (#[Value.int .u32 (G : Int), .int .i64 (F : Int), .slice A2 L c2] : Array Value).all (·.oneCell') = true := by kernel_rfl
        have q0 : ((w1.alloc (.cells #[.int .u32 0, .int .i64 0, .slice none 0 0] 84)).setRow w1.heap.size #[.int .u32 (G : Int), .int .i64 (F : Int), .slice A2 L c2]).cell? ⟨w1.heap.size, 0, none⟩ = some (.int .u32 (G : Int)) := hBz.cell 0
        have q1 : ((w1.alloc (.cells #[.int .u32 0, .int .i64 0, .slice none 0 0] 84)).setRow w1.heap.size #[.int .u32 (G : Int), .int .i64 (F : Int), .slice A2 L c2]).cell? ⟨w1.heap.size, 1, none⟩ = some (.int .i64 (F : Int)) := hBz.cell 1
        have q2 : ((w1.alloc (.cells #[.int .u32 0, .int .i64 0, .slice none 0 0] 84)).setRow w1.heap.size #[.int .u32 (G : Int), .int .i64 (F : Int), .slice A2 L c2]).cell? ⟨w1.heap.size, 2, none⟩ = some (.slice A2 L c2) := hBz.cell 2
        have STEP := Lib.hid hBx.heap
        by_cases hA1 : A1f = 0
        · have g2 : ((A1f : Int) == 0) = true := by simp; exact hA1
          have hend := HEND.out (by rw [HDR.out]; exact HSB.out (fun h => by have := h.1; rw [HBEG.out, decide_eq_true_iff] at this; exact (J1.out.mp hA1) this)) _ hbelz
          have HE := Lib.hid hend
          clear hend hA1 hF
          go_wp2_with ((with_reducible show wpList _ _ _ ((⟨_, .store 84 _ _, _, _, _, _⟩ : Oper) :: _) _ _); refine (wpList_store_row rfl 84 _ _ rfl (w1.heap.size) (#[.int .u32 (G : Int), .int .i64 (F : Int), .slice A2 L c2]) rfl rfl 84 (#[.int .u32 0, .int .i64 0, .slice none 0 0]) (hBx.heap) (hz84) rfl (ho84) ?_))
          exact noGoto_ret (bodyPost_ret (results_none rfl _ _ _) rfl ⟨⟨_, rfl⟩, .inl ⟨D1, hD1, HE.out⟩⟩)
        · have g2 : ((A1f : Int) == 0) = false := by simp; exact hA1
          have HBG := Lib.hid (show bg = true from by rw [HBEG.out, decide_eq_true_iff]; exact Classical.byContradiction fun h => hA1 (J1.out.mpr h))
          by_cases hlg : ¬ last ≤ G
          · have g3 : decide (G < last) = true := by simp; omega
            have hend := HEND.out (by rw [HDR.out]; exact HSB.out (fun h => hlg h.2)) _ hbelz
            have HE := Lib.hid hend
            clear hend hA1 hF hlg
            go_wp2_with ((with_reducible show wpList _ _ _ ((⟨_, .store 84 _ _, _, _, _, _⟩ : Oper) :: _) _ _); refine (wpList_store_row rfl 84 _ _ rfl (w1.heap.size) (#[.int .u32 (G : Int), .int .i64 (F : Int), .slice A2 L c2]) rfl rfl 84 (#[.int .u32 0, .int .i64 0, .slice none 0 0]) (hBx.heap) (hz84) rfl (ho84) ?_))
            exact noGoto_ret (bodyPost_ret (results_none rfl _ _ _) rfl ⟨⟨_, rfl⟩, .inl ⟨D1, hD1, HE.out⟩⟩)
          · have hlg' := Classical.not_not.mp hlg
            have g3 : decide (G < last) = false := by simp; omega
            have hso := HSO.out ⟨HBG.out, hlg'⟩
            have HSO2 := Lib.hid hso
            clear hA1 hlg hso
            go_wp2_with (first | ((with_reducible show wpList _ _ _ ((⟨_, .store 84 _ _, _, _, _, _⟩ : Oper) :: _) _ _); refine (wpList_store_row rfl 84 _ _ rfl (w1.heap.size) (#[.int .u32 (G : Int), .int .i64 (F : Int), .slice A2 L c2]) rfl rfl 84 (#[.int .u32 0, .int .i64 0, .slice none 0 0]) (hBx.heap) (hz84) rfl (ho84) ?_)) | ((with_reducible show wpList _ _ _ ((⟨some 35, _, _, _, _, _⟩ : Oper) :: _) _ _); refine stopL ?_))
            refine Stop.out ?_
            have hk2 : Keeps D1 ((w1.alloc (.cells #[.int .u32 0, .int .i64 0, .slice none 0 0] 84)).setRow w1.heap.size #[.int .u32 (G : Int), .int .i64 (F : Int), .slice A2 L c2]) := hk.below hbelz (Nat.le_refl _)
            clear q0 q1 q2 STEP hBx
            generalize (w1.alloc (.cells #[.int .u32 0, .int .i64 0, .slice none 0 0] 84)).setRow w1.heap.size #[.int .u32 (G : Int), .int .i64 (F : Int), .slice A2 L c2] = W2 at *
            have q0 : W2.cell? ⟨w1.heap.size, 0, none⟩ = some (.int .u32 (G : Int)) := hBz.cell 0
            have q2 : (W2.alloc (.cells #[] 5)).cell? ⟨w1.heap.size, 2, none⟩ = some (.slice A2 L c2) := (hBz.alloc _).cell 2
            go_wp2_with (at_builtin; refine wpList_append_sl (o := ⟨some 40, _, _, _, _, _⟩) _ rfl _ _ 32 rfl wo.heap.size 5 i5 (.int .u8 0) 1 Try.underlying32 hi5 hz50 hz51 hz52 rfl _ 0 [] rfl (own_empty ?c0 (heap_alloc_new _ _)) D1 (hk2.alloc _) _ _ _ _ rfl hdat (bv_one _) ?c1 ?c2 ?c3 ?_)
            case c0 => exact Nat.le_trans hgs (Nat.le_of_lt hBz.lt)
            case c1 => unfold maxLen; have := HDL.out.1; omega
            case c2 => have := HDL.out.1; omega
            case c3 => exact Nat.le_trans hbelz.size (by simp)
            intro A3 c3 W3 hown3 hgr3 _
            have hkr : Keeps D1 (W2.alloc (.cells #[] 5)) := hk2.alloc _
            have hB3 : Box W3 D1 w1.heap.size 84 #[.int .u32 (G : Int), .int .i64 (F : Int), .slice A2 L c2] := (hBz.alloc _).grown hgr3 (by have := hBz.lt; simp [Value.ownBlock]; omega)
            have hb3 : Below wo.heap.size wo W3 := (belowAlloc hbelz _).grown hgr3 (Nat.le_trans hbelz.size (by simp)) (fun g e => by simp [Value.ownBlock] at e; have := hbelz.size; omega)
            clear q0 q2 hkr hgr3 hBz hk2 hbelz
            have hbg3 := box_not_row hB3 hown3 (by decide)
            have HSC := Lib.hid (show scan k last none (xs.drop k) = if 2 ≤ F then dat :: scan (k + 1) G none (xs.drop (k + 1)) else scan (k + 1) G (some dat) (xs.drop (k + 1)) from by rw [HDR.out]; exact HSO2.out)
            have HDL1 := Lib.hid (HDL.out.2.symm : L = dat.length)
            have hL112 := HDL.out.1
            have hGl' := hGl
            generalize hgsz : w1.heap.size = gs at *
            clear hgsz
            clear HG HBEG HSB HSO HSO2 HBG HDL hdat e1 e2 J1 J2 g2 g3 hb1 hk1 hz84 ho84 cB hcu
            go_wp2_with fail
            go_loopw [4, 7] (fun y z wx => ∃ (m ln F' L' : Nat) (cur : List UInt8) (Ax : Option Addr) (cx : Nat) (A' : Option Addr) (c' : Nat), y = .int .i64 (m : Int) ∧ z = .slice Ax ln cx ∧ k ≤ m ∧ m < n ∧ Hid (ln = cur.length) ∧ ln ≤ 112 * (m + 1) ∧ F' ≤ 3 ∧ Below wo.heap.size wo wx ∧
              Box wx D1 gs 84 #[.int .u32 (G : Int), .int .i64 (F' : Int), .slice A' L' c'] ∧ wx.ownsRow wo.heap.size 5 1 (.slice Ax ln cx) ln (cur.map bv) ∧
              Hid (scan k last none (xs.drop k) = if 2 ≤ F' then cur :: scan (m + 1) G none (xs.drop (m + 1)) else scan (m + 1) G (some cur) (xs.drop (m + 1)))) (fun y _ _ => n - (intOf y).toNat)
            case atStart => exact ⟨k, L, F, L, dat, A3, c3, A2, c2, rfl, rfl, Nat.le_refl _, hlt, HDL1, by omega, hF, hb3, hB3, hown3, HSC⟩
            case round =>
              obtain ⟨m, ln, F', L', cur, Ax, cx, Ab, cb, rfl, rfl, hkm, hmn, HLN, hln, hF', hbx, hBx, hownx, HSX⟩ := hrel
              have hkx := hk.below hbx (Nat.le_refl _)
              have q1 : wr.cell? ⟨gs, 1, none⟩ = some (.int .i64 (F' : Int)) := hBx.cell 1
              have cBx : wr.cell? ⟨B, 0, none⟩ = some (.slice (some ⟨b, o, none⟩) n c) := hkx _ _ _ (hle _ _ _ hB0)
              obtain ⟨A2f, A1f, e2, e1, j2, j1⟩ := and_21 F' hF'
              have J2 := Lib.hid j2
              clear j1 j2
              by_cases hA2 : A2f = 0
              · have g2 : ((A2f : Int) == 0) = true := by simp; exact hA2
                have HSY := Lib.hid (show scan k last none (xs.drop k) = scan (m + 1) G (some cur) (xs.drop (m + 1)) from by rw [HSX.out, if_neg (J2.out.mp hA2)])
                by_cases hm1 : m + 1 = n
                · have gm : ((m : Int) + 1 == (n : Int)) = true := by simp; omega
                  have hend := HEND.out (by rw [HSY.out, List.drop_of_length_le (by rw [← HX.out]; omega)]; exact scan_some_end) _ hbx
                  have HE := Lib.hid hend
                  clear hend
                  go_wp2
                  refine noGoto_norm ?_
                  go_end0
                  exact ⟨⟨_, rfl⟩, .inl ⟨D1, hD1, HE.out⟩⟩
                · have gm : ((m : Int) + 1 == (n : Int)) = false := by simp; omega
                  have hmx : m + 1 < xs.length := by rw [← HX.out]; omega
                  obtain ⟨b2, o2, a2', c2', hbo, hcu, hbs⟩ := (hs0.le hle).at_ hkx (k := m + 1) hmx
                  cases hbo
                  have hdr := List.drop_eq_getElem_cons (l := xs) (i := m + 1) hmx
                  have h128 := H128.out _ (List.getElem_mem hmx)
                  generalize xs[m + 1]'hmx = s2 at *
                  rw [h128] at hcu hbs
                  have HDR2 := Lib.hid hdr
                  have g1 : (m : Int) + 1 < (n : Int) := by omega
                  have g0 : (0 : Int) ≤ (m : Int) + 1 := by omega
                  have HG2 := Lib.hid (fun (W : World) (hW : Keeps D1 W) => good_c a2' c2' s2 (m + 1) (by omega) D1 W hW hbs)
                  clear hdr h128 hbs hmx
                  go_wp2_with fail
                  refine (HG2.out _ hkx).mono ?_
                  rintro e w2 ⟨hb2, (⟨hok, A4, c4, rfl, hdat⟩ | ⟨hok, rfl⟩)⟩
                  · have hB4 := hBx.below hb2 hBx.lt
                    have hz84 : (Try.prog.info? 84).map (·.size) = some (#[Value.int .u32 (num4 s2 : Nat), .int .i64 (flagS s2 : Nat), .slice A4 (lenS s2) c4] : Array Value).size := by kernel_rfl
                    have ho84 : (#[Value.int .u32 (num4 s2 : Nat), .int .i64 (flagS s2 : Nat), .slice A4 (lenS s2) c4] : Array Value).all (·.oneCell') = true := by kernel_rfl
                    go_wp2_with (first | ((with_reducible show wpList _ _ _ ((⟨_, .store 84 _ _, _, _, _, _⟩ : Oper) :: _) _ _); refine (wpList_store_row rfl 84 _ _ rfl (gs) (#[.int .u32 (num4 s2 : Nat), .int .i64 (flagS s2 : Nat), .slice A4 (lenS s2) c4]) rfl rfl 84 (#[.int .u32 (G : Int), .int .i64 (F' : Int), .slice Ab L' cb]) (hB4.heap) (hz84) rfl (ho84) ?_)) | ((with_reducible show wpList _ _ _ ((⟨some 61, _, _, _, _, _⟩ : Oper) :: _) _ _); refine stopL ?_))
                    refine Stop.out ?_
                    have hbel4 : Below wo.heap.size wo (w2.setRow gs #[.int .u32 (num4 s2 : Nat), .int .i64 (flagS s2 : Nat), .slice A4 (lenS s2) c4]) := belowRowW (hbx.trans (hb2.mono hbx.size)) (by omega) _
                    have hBz := setRowW hB4 #[.int .u32 (num4 s2 : Nat), .int .i64 (flagS s2 : Nat), .slice A4 (lenS s2) c4]
                    have hown4 : (w2.setRow gs #[.int .u32 (num4 s2 : Nat), .int .i64 (flagS s2 : Nat), .slice A4 (lenS s2) c4]).ownsRow wo.heap.size 5 1 (.slice Ax ln cx) ln (cur.map bv) := own_setRow (own_below hownx hb2) (box_not_row hBx hownx (by decide)) _
                    have hk4 := hk.below hbel4 (Nat.le_refl _)
                    generalize w2.setRow gs #[.int .u32 (num4 s2 : Nat), .int .i64 (flagS s2 : Nat), .slice A4 (lenS s2) c4] = W4 at *
                    have hF2 := okS_flag s2 (m + 1) hok
                    have HDL2 := Lib.hid (show lenS s2 ≤ 112 ∧ (dataS s2).length = lenS s2 from by
                      have := hdat.len
                      refine ⟨?_, this.1.symm⟩
                      by_cases h2 : ((s2.getD 8 0).toNat * 256 + (s2.getD 9 0).toNat = m + 1 ∧ flagS s2 ≤ 3 ∧ lenS s2 ≤ 112)
                      · exact h2.2.2
                      · have := hok; rw [okS_2 s2 (m + 1) h2] at this; cases this)
                    have HBEG := Lib.hid (show begS s2 = decide (flagS s2 % 2 = 1) from rfl)
                    have HSB := Lib.hid (fun (h : ¬ (begS s2 = false ∧ num4 s2 = G)) => (scan_some_bad (r := xs.drop (m + 1 + 1)) (fun h' => h ⟨h'.2.1, h'.2.2⟩) : scan (m + 1) G (some cur) (s2 :: xs.drop (m + 1 + 1)) = []))
                    have HSO := Lib.hid (fun (h : begS s2 = false ∧ num4 s2 = G) => (scan_some_ok (b := cur) (r := xs.drop (m + 1 + 1)) ⟨hok, h.1, h.2⟩))
                    clear hok hb2 hB4 hz84 ho84 hcu HG2 q1 hownx hBx
                    generalize num4 s2 = G2 at *
                    generalize flagS s2 = F2 at *
                    generalize lenS s2 = L2 at *
                    generalize dataS s2 = dat2 at *
                    generalize begS s2 = bg2 at *
                    obtain ⟨A2g, A1g, e4, e3, j4, j3⟩ := and_21 F2 hF2
                    have J3 := Lib.hid j3
                    clear j3 j4
                    have q0 : W4.cell? ⟨gs, 0, none⟩ = some (.int .u32 (G2 : Int)) := hBz.cell 0
                    have q1 : W4.cell? ⟨gs, 1, none⟩ = some (.int .i64 (F2 : Int)) := hBz.cell 1
                    have q2 : W4.cell? ⟨gs, 2, none⟩ = some (.slice A4 L2 c4) := hBz.cell 2
                    by_cases hA3 : A1g = 0
                    · have g3 : ((A1g : Int) != 0) = false := by simp; exact hA3
                      by_cases hGG : G2 = G
                      · subst hGG
                        have hso := HSO.out ⟨by rw [HBEG.out, decide_eq_false_iff_not]; exact J3.out.mp hA3, rfl⟩
                        have HSO2 := Lib.hid hso
                        clear hA3 hso HSB HSO
                        go_wp2_with (at_builtin; refine wpList_append_sl (o := ⟨some 77, _, _, _, _, _⟩) _ rfl _ _ 32 rfl wo.heap.size 5 i5 (.int .u8 0) 1 Try.underlying32 hi5 hz50 hz51 hz52 rfl _ _ _ rfl hown4 D1 hk4 _ _ _ _ rfl hdat (bv_one _) ?c1 ?c2 ?c3 ?_)
                        case c1 => unfold maxLen; have := HDL2.out.1; omega
                        case c2 => have := HDL2.out.1; omega
                        case c3 => exact hbel4.size
                        intro A5 c5 W5 hown5 hgr5 _
                        rw [← List.map_append] at hown5
                        have hB5 : Box W5 D1 gs 84 #[.int .u32 (G2 : Int), .int .i64 (F2 : Int), .slice A4 L2 c4] := hBz.grown hgr5 (fun e => box_not_row hBz hown4 (by decide) e.symm)
                        have hb5 : Below wo.heap.size wo W5 := hbel4.grown hgr5 hbel4.size (fun g e => (hown4.lt g e).1)
                        have HLN5 := Lib.hid (show ln + L2 = (cur ++ dat2).length from by rw [List.length_append, HDL2.out.2, ← HLN.out])
                        have HSX5 := Lib.hid (show scan k last none (xs.drop k) = if 2 ≤ F2 then (cur ++ dat2) :: scan (m + 1 + 1) G2 none (xs.drop (m + 1 + 1)) else scan (m + 1 + 1) G2 (some (cur ++ dat2)) (xs.drop (m + 1 + 1)) from by rw [HSY.out, HDR2.out]; exact HSO2.out)
                        have hl2 := HDL2.out.1
                        go_wp2
                        go_roundw
                        case rel => exact ⟨m + 1, ln + L2, F2, L2, cur ++ dat2, A5, c5, A4, c4, rfl, rfl, by omega, by omega, HLN5, by omega, hF2, hb5, hB5, hown5, HSX5⟩
                        case measure => simp [intOf]; omega
                      · have g4 : ((G2 : Int) != (G : Int)) = true := by simp; omega
                        have g4' : (G2 != G) = true := by simp; exact hGG
                        have hend := HEND.out (by rw [HSY.out, HDR2.out]; exact HSB.out (fun h => hGG h.2)) _ hbel4
                        have HE := Lib.hid hend
                        clear hend hGG hA3
                        go_wp2
                        refine noGoto_norm ?_
                        go_end0
                        exact ⟨⟨_, rfl⟩, .inl ⟨D1, hD1, HE.out⟩⟩
                    · have g3 : ((A1g : Int) != 0) = true := by simp; exact hA3
                      have hend := HEND.out (by rw [HSY.out, HDR2.out]; exact HSB.out (fun h => by have := h.1; rw [HBEG.out, decide_eq_false_iff_not] at this; exact hA3 (J3.out.mpr this))) _ hbel4
                      have HE := Lib.hid hend
                      clear hend hA3
                      go_wp2
                      refine noGoto_norm ?_
                      go_end0
                      exact ⟨⟨_, rfl⟩, .inl ⟨D1, hD1, HE.out⟩⟩
                  · have hB4 := hBx.below hb2 hBx.lt
                    have hz84 : (Try.prog.info? 84).map (·.size) = some (#[Value.int .u32 0, .int .i64 0, .slice none 0 0] : Array Value).size := by kernel_rfl
                    have ho84 : (#[Value.int .u32 0, .int .i64 0, .slice none 0 0] : Array Value).all (·.oneCell') = true := by kernel_rfl
                    have hend := HEND.out (by rw [HSY.out, HDR2.out]; exact scan_some_bad (fun h => by rw [hok] at h; cases h.1)) _ (belowRowW (hbx.trans (hb2.mono hbx.size)) (by omega) #[.int .u32 0, .int .i64 0, .slice none 0 0] : Below wo.heap.size wo (w2.setRow gs #[.int .u32 0, .int .i64 0, .slice none 0 0]))
                    have HE := Lib.hid hend
                    clear hend hok
                    go_wp2_with ((with_reducible show wpList _ _ _ ((⟨_, .store 84 _ _, _, _, _, _⟩ : Oper) :: _) _ _); refine (wpList_store_row rfl 84 _ _ rfl (gs) (#[.int .u32 0, .int .i64 0, .slice none 0 0]) rfl rfl 84 (#[.int .u32 (G : Int), .int .i64 (F' : Int), .slice Ab L' cb]) (hB4.heap) (hz84) rfl (ho84) ?_))
                    refine noGoto_norm ?_
                    go_end0
                    exact ⟨⟨_, rfl⟩, .inl ⟨D1, hD1, HE.out⟩⟩
              · have g2 : ((A2f : Int) == 0) = false := by simp; exact hA2
                have HSY := Lib.hid (show scan k last none (xs.drop k) = cur :: scan (m + 1) G none (xs.drop (m + 1)) from by rw [HSX.out, if_pos (Classical.byContradiction fun h => hA2 (J2.out.mpr h))])
                go_wp2_with ((with_reducible show wpList _ _ _ ((⟨some 79, _, _, _, _, _⟩ : Oper) :: _) _ _); refine stopL ?_)
                refine Stop.out ?_
                go_step
                go_step
                go_step
                go_step
                go_step
                go_step
                go_step
                go_step
                go_step
                have hpref : pre ++ [cur] <+: scan 0 0 none xs := ⟨scan (m + 1) G none (xs.drop (m + 1)), by rw [HS.out, HSY.out]; simp⟩
                obtain ⟨D2, hg2, hsl⟩ := pub_row hk hbx (Nat.le_refl _) hownx
                obtain ⟨fn, tmps, asg, body, hy, hR⟩ := HY.out pre cur D2 wr (.slice Ax ln cx) (HJG.out _ _ _ _ _ hJ hg2) hpref hsl
                have HR := Lib.hid hR
                have HRC := Lib.hid (show scan 0 0 none xs = (pre ++ [cur]) ++ scan (m + 1) G none (xs.drop (m + 1)) from by rw [HS.out, HSY.out]; simp)
                have HPF := Lib.hid hpref
                have hd2 : D.le D2 := hD1.trans hg2.le
                clear hR hpref hsl
                refine wp_seq_k ?_
                intro K2 hK2
                refine (wpIn_wide (n := 1)).1 ?_
                gi_wp2
                refine HR.out.mono ?_
                rintro e W4 (⟨rfl, D3, hd3, hJ3⟩ | ⟨rfl, D3, hd3, hJx⟩)
                · gi_wp2
                  go_wp2
                  go_roundw
                  case rel => exact ⟨G, m + 1, D3, pre ++ [cur], rfl, rfl, by omega, hd2.trans hd3, hJ3, Lib.hid HRC.out, hGl'⟩
                  case measure => simp [intOf]; omega
                · gi_wp2
                  go_wp2
                  exact noGoto_ret (bodyPost_ret (results_none rfl _ _ _) rfl ⟨⟨_, rfl⟩, .inr ⟨pre ++ [cur], D3, hd2.trans hd3, HPF.out, hJx⟩⟩)
      · have hz84 : (Try.prog.info? 84).map (·.size) = some (#[Value.int .u32 0, .int .i64 0, .slice none 0 0] : Array Value).size := by kernel_rfl
        have ho84 : (#[Value.int .u32 0, .int .i64 0, .slice none 0 0] : Array Value).all (·.oneCell') = true := by kernel_rfl
        have hBx := Box.new (hk.below hb1 (Nat.le_refl _)) 84 #[.int .u32 0, .int .i64 0, .slice none 0 0]
        have hend := HEND.out (by rw [HDR.out]; exact scan_none_bad (fun h => by rw [hok] at h; cases h.1)) _ (belowRowW (belowAlloc hb1 _) hb1.size #[.int .u32 0, .int .i64 0, .slice none 0 0] : Below wo.heap.size wo ((w1.alloc (.cells #[.int .u32 0, .int .i64 0, .slice none 0 0] 84)).setRow w1.heap.size #[.int .u32 0, .int .i64 0, .slice none 0 0]))
        have HE := Lib.hid hend
        clear hend hok
        go_wp2_with ((with_reducible show wpList _ _ _ ((⟨_, .store 84 _ _, _, _, _, _⟩ : Oper) :: _) _ _); refine (wpList_store_row rfl 84 _ _ rfl (w1.heap.size) (#[.int .u32 0, .int .i64 0, .slice none 0 0]) rfl rfl 84 (#[.int .u32 0, .int .i64 0, .slice none 0 0]) (hBx.heap) (hz84) rfl (ho84) ?_))
        exact noGoto_ret (bodyPost_ret (results_none rfl _ _ _) rfl ⟨⟨_, rfl⟩, .inl ⟨D1, hD1, HE.out⟩⟩)
    · obtain rfl : k = n := by omega
      have hend := HEND.out (by rw [List.drop_of_length_le (by rw [← HX.out]; exact Nat.le_refl _)]; exact scan_none_end) _ (Below.refl _ _)
      have HE := Lib.hid hend
      clear hend
      go_wp2
      refine noGoto_norm ?_
      go_end0
      exact ⟨⟨_, rfl⟩, .inl ⟨D1, hD1, HE.out⟩⟩
end Go.Proofs.Ytegkmkglagmdiaa
