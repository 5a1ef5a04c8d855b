/-
  What is proved here: cut, walked
-/
import Derived.Test.YtegkmkglagmdiaaRows
import Derived.Test.YtegkmkglagmdiaaBaseB
import Derived.Test.YtegkmkglagmdiaaCrc
import Derived.Test.YtegkmkglagmdiaaWalP
import Derived.Test.YtegkmkglagmdiaaWalA
import Derived.Test.YtegkmkglagmdiaaWalB
import Derived.Test.YtegkmkglagmdiaaWalC
import Derived.Test.YtegkmkglagmdiaaWalD
import Derived.Test.YtegkmkglagmdiaaWalE
import Derived.Test.YtegkmkglagmdiaaDiskF
import Derived.Test.YtegkmkglagmdiaaWalF
import Derived.Test.YtegkmkglagmdiaaRangeF
import Derived.Test.YtegkmkglagmdiaaWalG
import Derived.Test.YtegkmkglagmdiaaWalH
import Derived.Test.YtegkmkglagmdiaaWalI
import Derived.Test.YtegkmkglagmdiaaWalJ
import Derived.Test.YtegkmkglagmdiaaWalK
import Derived.OwnWalkIn
import Derived.TacticsInMore
import Derived.LoopNIn
import Derived.LoopIn
import Derived.Scope
import Derived.Shelf.Abstract
import Derived.RangeFuncCalls
import Derived.Laws.BitsAllLaws
import Derived.Deep.RegionHeld3
import Derived.Deep.RegionLaw
import Derived.Deep.DeepCutAuto
import Derived.Deep.QuietTactic
import Derived.BigQuiet
import Derived.Laws.EntriesVeiled
import Derived.Deep.MidRow
import Derived.Laws.CopyRow
namespace Go.Proofs.Ytegkmkglagmdiaa
open Go.RowKit Go.VS
/-- The slice value v has n elements of s cells each: the cells vs. -/
def SlN (D : Gh) (s : Nat) (v : Value) (n : Nat) (vs : List Value) : Prop :=
  vs.length = n * s ∧ ∃ a c, v = .slice a n c ∧ n ≤ c ∧ c ≤ maxLen ∧ (a = none → c = 0) ∧
    (0 < n → ∃ b o, a = some ⟨b, o, none⟩ ∧ ∀ j u, vs[j]? = some u → D b (o + j) = some u)
theorem SlN.le {D D' : Gh} {s n : Nat} {v : Value} {vs : List Value} (h : SlN D s v n vs) (hd : D.le D') : SlN D' s v n vs := by
  obtain ⟨hl, a, c, hv, h1, h2, h3, h4⟩ := h
  exact ⟨hl, a, c, hv, h1, h2, h3, fun hp => let ⟨b, o, ha, hc⟩ := h4 hp; ⟨b, o, ha, fun j u e => hd _ _ _ (hc j u e)⟩⟩
theorem SlN.cells {D : Gh} {w : World} (hk : Keeps D w) {s n m c : Nat} {a : Option Addr} {vs : List Value} (h : SlN D s (.slice a m c) n vs) :
    m = n ∧ vs.length = n * s ∧ n ≤ c ∧ c ≤ maxLen ∧ (0 < n → ∃ b o, a = some ⟨b, o, none⟩ ∧ ∀ j u, vs[j]? = some u → w.cell? ⟨b, o + j, none⟩ = some u) := by
  obtain ⟨hl, a', c', hv, h1, h2, h3, h4⟩ := h
  cases hv
  exact ⟨rfl, hl, h1, h2, fun hp => let ⟨b, o, ha, hc⟩ := h4 hp; ⟨b, o, ha, fun j u e => hk _ _ _ (hc j u e)⟩⟩
theorem SlN.nil (D : Gh) (s : Nat) : SlN D s (.slice none 0 0) 0 [] := ⟨by simp, none, 0, rfl, by simp, by simp [maxLen], fun _ => rfl, fun h => by simp at h⟩
theorem growPubN {w wr : World} {D D' : Gh} {base : Nat} {e : TypeId} {s : Nat} {v : Value} {n : Nat} {vs : List Value} (h : Grow w D wr D') (hown : wr.ownsRow base e s v n vs) (hb : w.heap.size ≤ base) (ho : ∀ g, v.ownBlock = some g → D'.off g) :
    ∃ D'', Grow w D wr D'' ∧ D'.le D'' ∧ SlN D'' s v n vs ∧ (∀ k, D'.off k → v.ownBlock ≠ some k → D''.off k) := by
  have hl : vs.length = n * s := hown.1
  rcases hown.2 with ⟨rfl, rfl⟩ | ⟨g, cap, cur, rfl, hg, hh, hnc, hcm, hsz, htk⟩
  · obtain rfl : vs = [] := List.eq_nil_of_length_eq_zero (by omega)
    exact ⟨D', h, Gh.le.refl _, SlN.nil D' s, fun k h _ => h⟩
  · have hoff : D'.off g := ho g rfl
    refine ⟨D'.add g vs, ⟨h.below, h.keeps.add fun o u e => ?_, h.le.trans (Gh.le_add hoff _), fun b hb' o => (off_add_lt (by omega) b hb' o).trans (h.old b hb' o)⟩, Gh.le_add hoff _, ?_, fun k hk hne => Gh.add_off _ hk (fun e => hne (by rw [e]; rfl))⟩
    · have := hown.cells (g := g) rfl o u e
      simpa [Addr.add_lit] using this
    · refine ⟨hl, some ⟨g, 0, none⟩, cap, rfl, by omega, hcm, by simp, fun _ => ⟨g, 0, rfl, fun j u e => ?_⟩⟩
      rw [Nat.zero_add, Gh.add_at]; exact e

/-- A variable that holds an array, from now on known and never written again. -/

theorem wpList_append_oneN {P : Program} {w : World} {ops : Array Oper} {rest : List Oper} {o : Oper} {a : Act} {Q : Exit → Act → World → Prop} (hgd : o.guard = none) (s x : Operand) (t : TypeId)
    (ho : o.op = .call { callee := .builtin .append, args := #[s, x], argTypes := #[t, t] })
    (base : Nat) (e : TypeId) (i : TypeInfo) (z : Value) (sz bytes : Nat) (ht : P.underlying t = some (.slice e)) (hi : P.info? e = some i) (hz : i.zero = some z)
    (hsize : i.size = sz) (hby : i.bytes = bytes) (hzs : z.cells.size = sz) (hs0 : 0 < sz)
    (v : Value) (n : Nat) (xs : List Value) (hs : a.eval s = v) (hown : w.ownsRow base e sz v n xs)
    (g0 : Nat) (news : List Value) (hx : a.eval x = .slice (some ⟨g0, 0, none⟩) 1 1) (hb : w.heap[g0]? = some (.cells news.toArray e (0, 0))) (hn : news.length = sz) (h1 : ∀ u ∈ news, u.oneCell' = true)
    (h63 : n + 1 ≤ maxLen) (hbytes : (n + 1) * bytes ≤ 140737488355328) (hbase : base ≤ w.heap.size)
    (h : ∀ A' cap' w', w'.ownsRow base e sz (.slice A' (n + 1) cap') (n + 1) (xs ++ news) → w.grownBy w' v.ownBlock → (Value.ownBlock (.slice A' (n + 1) cap') = v.ownBlock ∨ Value.ownBlock (.slice A' (n + 1) cap') = some w.heap.size) → wpList P ops Q rest (a.put o.dst (.slice A' (n + 1) cap')) w') : wpList P ops Q (o :: rest) a w := by
  obtain ⟨v', w', hrun, h2, h3, _, h5⟩ := run_append_own_at (P := P) w base t o.type e i z sz bytes ht hi hz hsize hby hzs hs0 v n xs hown ⟨g0, 0, none⟩ 1 1 news (by omega)
    (fun j u hu => by rw [Addr.add_lit, cell_of_row _ _ _ _ _ _ hb]; simpa using hu) h1 h63 hbytes hbase
  refine wpList_plain hgd fun K hK => ?_
  unfold Oper.wp execOp
  simp only [ho, resolve, invoke, builtin, Sem.run_bind, Sem.run_pure, Result.andThen_ok, List.map_toArray, List.map_cons, List.map_nil, hs, hx, hrun]
  rcases h2.2 with ⟨_, h0⟩ | ⟨g, cap, cur, rfl, _⟩
  · omega
  · exact hK _ _ (h _ _ w' h2 h3 h5)
theorem piece_sl {D : Gh} {A : Option Addr} {n c : Nat} {bs : List UInt8} (h : BS D (.slice A n c) bs) (lo up : Nat) (h1 : lo ≤ up) (h2 : up ≤ n) (h3 : lo < n ∨ n = 0) :
    BS D (.slice (if c = lo then A else A.map fun x => x.add lo) (up - lo) (c - lo)) ((bs.drop lo).take (up - lo)) := by
  obtain ⟨hn, hnc, hcm⟩ := h.len
  rcases h3 with h3 | h3
  · obtain ⟨b, o, rfl, _⟩ := bs_all h (by omega)
    have := bs_sub h lo (up - lo) (by omega)
    rw [if_neg (by omega)]
    simpa [Addr.add_lit] using this
  · subst h3
    obtain rfl : up = 0 := by omega
    obtain rfl : lo = 0 := by omega
    obtain rfl : bs = [] := List.eq_nil_of_length_eq_zero hn.symm
    have e : (A.map fun x => x.add 0) = A := by
      rcases A with _ | ad
      · rfl
      · simp [Addr.add]
    rw [e, ite_self]; simpa using h
/-- the cells of the first i pieces of a record. -/
def cutV (gen many : Nat) (pv : Nat → Value) (i : Nat) : List Value := (List.range i).flatMap fun j => [.int .u32 (gen : Nat), .int .i64 (flagP many true j : Nat), pv j]
theorem cutV_succ (gen many : Nat) (pv : Nat → Value) (i : Nat) : cutV gen many pv (i + 1) = cutV gen many pv i ++ [.int .u32 (gen : Nat), .int .i64 (flagP many true i : Nat), pv i] := by
  simp [cutV, List.range_succ]
theorem cutV_at (gen many : Nat) (pv : Nat → Value) (n : Nat) : ∀ (i : Nat), i < n → (cutV gen many pv n)[3 * i + 0]? = some (.int .u32 (gen : Nat)) ∧ (cutV gen many pv n)[3 * i + 1]? = some (.int .i64 (flagP many true i : Nat)) ∧ (cutV gen many pv n)[3 * i + 2]? = some (pv i) := by
  have hlen : ∀ n, (cutV gen many pv n).length = 3 * n := by
    intro n
    induction n with
    | zero => rfl
    | succ n ih => rw [cutV_succ, List.length_append, ih]; simp; omega
  induction n with
  | zero => intro i h; omega
  | succ n ih =>
    intro i h
    rw [cutV_succ]
    by_cases hi : i < n
    · have := ih i hi
      rw [List.getElem?_append_left (by rw [hlen]; omega), List.getElem?_append_left (by rw [hlen]; omega), List.getElem?_append_left (by rw [hlen]; omega)]
      exact this
    · obtain rfl : i = n := by omega
      rw [List.getElem?_append_right (by rw [hlen]; omega), List.getElem?_append_right (by rw [hlen]; omega), List.getElem?_append_right (by rw [hlen]; omega), hlen]
      rw [show 3 * i + 0 - 3 * i = 0 by omega, show 3 * i + 1 - 3 * i = 1 by omega, show 3 * i + 2 - 3 * i = 2 by omega]
      simp
theorem ownN_setRow {W : World} {base size n g : Nat} {e : TypeId} {v : Value} {vs : List Value} (h : W.ownsRow base e size v n vs) (hne : v.ownBlock ≠ some g) (cs : Array Value) : (W.setRow g cs).ownsRow base e size v n vs :=
  own_same h fun g' hg' => setRow_other W g g' cs (fun e => hne (e ▸ hg'))
theorem ownN_far {W : World} {base size n : Nat} {e : TypeId} {v : Value} {vs : List Value} (h : W.ownsRow base e size v n vs) {p : Addr} (hne : v.ownBlock ≠ some p.block) (u : Value) : (W.setCell p u).ownsRow base e size v n vs :=
  own_same h fun g' hg' => Below.heap_setCell W p u g' (fun e => hne (e ▸ hg'))
theorem flag_or (i many : Nat) : flagP many true i = (if i = 0 then 1 else 0) + (if i + 1 = many then 2 else 0) := by
  unfold flagP; simp
theorem info84 : ∃ j, Try.prog.info? 84 = some j ∧ j.zero = some (.agg #[.int .u32 0, .int .i64 0, .slice none 0 0]) ∧ j.size = 3 ∧ j.bytes = 40 := by
  refine ⟨_, rfl, ?_, ?_, ?_⟩ <;> kernel_rfl
set_option maxRecDepth 100000 in
set_option maxHeartbeats 20000000 in
theorem cut_c (A : Option Addr) (n c : Nat) (b : List UInt8) (gen : Nat) (hn : n ≤ 65536) (D : Gh) (w : World) (hk : Keeps D w) (hs : BS D (.slice A n c) b) :
    Calls Try.prog 60 #[.slice A n c, .int .u32 (gen : Int)] w fun e w' => ∃ A' c' D' pv, e = .returned (.slice A' (occ n) c') ∧ Grow w D w' D' ∧ SlN D' 3 (.slice A' (occ n) c') (occ n) (cutV gen (occ n) pv (occ n)) ∧
      ∀ i, i < occ n → ∃ Ai mi ci, pv i = .slice Ai mi ci ∧ BS D' (.slice Ai mi ci) (pieceS b i) := by
  obtain ⟨hbn, hnc, hcm⟩ := hs.len
  unfold maxLen at hcm
  obtain ⟨j84, hj84, hz0, hz1, hz2⟩ := info84
  have hoc := occ_le_piece hn
  have hoc1 : 1 ≤ occ n := by unfold occ; omega
  have hin : ∀ i, i < occ n → i * 112 ≤ min n ((i + 1) * 112) ∧ min n ((i + 1) * 112) ≤ n ∧ (i * 112 < n ∨ n = 0) := by
    intro i hi; unfold occ at hi; omega
  have hpv : ∀ i, i < occ n → BS D (.slice (if c = i * 112 then A else A.map fun x => x.add (i * 112)) (min n ((i + 1) * 112) - i * 112) (c - i * 112)) (pieceS b i) := by
    intro i h
    have hsp := piece_sl hs (i * 112) (min n ((i + 1) * 112)) (hin i h).1 (hin i h).2.1 (hin i h).2.2
    have hp : (b.drop (i * 112)).take (min n ((i + 1) * 112) - i * 112) = pieceS b i := by
      unfold pieceS
      have hl : (b.drop (i * 112)).length = n - i * 112 := by rw [List.length_drop]; omega
      by_cases hc : (i + 1) * 112 ≤ n
      · rw [show min n ((i + 1) * 112) - i * 112 = 112 by omega]
      · rw [List.take_of_length_le (by rw [hl]; omega), List.take_of_length_le (by rw [hl]; omega)]
    rw [hp] at hsp
    exact hsp
  obtain ⟨pv, hpvd⟩ : ∃ pv : Nat → Value, ∀ i, pv i = .slice (if c = i * 112 then A else A.map fun x => x.add (i * 112)) (min n ((i + 1) * 112) - i * 112) (c - i * 112) := ⟨_, fun _ => rfl⟩
  have HPV := Lib.hid (show ∀ i, i < occ n → BS D (pv i) (pieceS b i) from fun i h => by rw [hpvd]; exact hpv i h)
  have HPD := Lib.hid hpvd
  clear hpvd hpv hbn
  have HIN := Lib.hid hin
  clear hin
  have hone0 : ∀ (Ax : Option Addr) (px cx : Nat) (f : Int), ∀ u ∈ [Value.int .u32 (gen : Int), .int .i64 f, .slice Ax px cx], u.oneCell' = true := by
    intro Ax px cx f u hu
    simp at hu
    rcases hu with rfl | rfl | rfl <;> rfl
  have HO := Lib.hid (fun W => occ_c n (by omega) W)
  generalize hm : occ n = m at *
  have HM := Lib.hid hm
  clear hm
  go_enter Try.func60, Try.ntmps60
  go_wp2_with fail
  refine (HO.out _).mono ?_
  rintro e w1 ⟨rfl, rfl⟩
  go_wp2_with fail
  go_loopw [4, 12] (fun v y wr => ∃ (i : Nat) (Av : Option Addr) (cv : Nat), i ≤ m ∧ y = .int .i64 i ∧ v = .slice Av i cv ∧ wr.ownsRow w.heap.size 84 3 (.slice Av i cv) i (cutV gen m pv i) ∧ Below w.heap.size w wr) (fun _ y _ => m - (intOf y).toNat)
  case atStart => exact ⟨0, none, 0, by omega, rfl, rfl, ⟨by simp [cutV], .inl ⟨rfl, rfl⟩⟩, Below.refl _ _⟩
  case round =>
    obtain ⟨i, Av, cv, hi, rfl, rfl, hown, hbr⟩ := hrel
    by_cases hlt : i < m
    · have HFL := Lib.hid (flag_or i m)
      have HCS := Lib.hid (cutV_succ gen m pv i)
      have HPI := Lib.hid (HPD.out i)
      have g1 : (i : Int) < (m : Int) := by omega
      have hkr := hk.below hbr (Nat.le_refl _)
      have w1 : IntKind.i64.wrap ((i : Int) * 112) = ((i * 112 : Nat) : Int) := by rw [IntKind.wrap_i64]; omega
      have w2 : IntKind.i64.wrap ((i : Int) + 1) = (i : Int) + 1 := by rw [IntKind.wrap_i64]; omega
      have w3 : IntKind.i64.wrap (((i : Int) + 1) * 112) = (((i + 1) * 112 : Nat) : Int) := by rw [IntKind.wrap_i64]; omega
      obtain ⟨hi1, hi2, _⟩ := HIN.out i hlt
      have b1 : (i : Int) * 112 ≤ (n : Int) := by omega
      have b2 : (i : Int) * 112 ≤ ((i : Int) + 1) * 112 := by omega
      have b3 : i * 112 ≤ n := by omega
      have b4 : i * 112 ≤ (i + 1) * 112 := by omega
      by_cases hcz : c = i * 112
      · rw [if_pos hcz, show min n ((i + 1) * 112) = n by omega] at HPI
        have hmin : ¬ ((i : Int) + 1) * 112 < (n : Int) := by omega
        have hcz' : (c = i * 112) = True := eq_true hcz
        clear hcz
        go_wp2_with ((with_reducible show wpList _ _ _ ((⟨some 28, _, _, _, _, _⟩ : Oper) :: _) _ _); refine stopL ?_)
        refine Stop.out ?_
        have hB2 := Box.new hkr 84 #[.int .u32 (gen : Int), .int .i64 0, .slice A (n - i * 112) (c - i * 112)]
        have hb2 : Below w.heap.size w (wr.alloc (.cells #[.int .u32 (gen : Int), .int .i64 0, .slice A (n - i * 112) (c - i * 112)] 84)) := belowAlloc hbr _
        have hown2 := hown.alloc (.cells #[.int .u32 (gen : Int), .int .i64 0, .slice A (n - i * 112) (c - i * 112)] 84)
        have hneg : Value.ownBlock (.slice Av i cv) ≠ some wr.heap.size := fun e => Nat.lt_irrefl _ (hown.lt _ e).2
        generalize n - i * 112 = px at *
        generalize c - i * 112 = cx at *
        generalize hgs : wr.heap.size = gs at *
        have hgw : w.heap.size ≤ gs := by rw [← hgs]; exact hbr.size
        clear hgs hcz'
        generalize wr.alloc (.cells #[.int .u32 (gen : Int), .int .i64 0, .slice A px cx] 84) = W2 at *
        clear hkr hbr hown w1 w2 w3 b1 b2 b3 b4 hmin
        have q1 : W2.cell? ⟨gs, 1, none⟩ = some (.int .i64 0) := hB2.cell 1
        have fr := hB2.frozen
        by_cases hi0 : i = 0
        · have g0 : ((i : Int) == 0) = true := by simp; omega
          have hor1 : bits .or .i64 0 1 = 1 := by decide
          have HI0 := Lib.hid (show (if i = 0 then 1 else 0) = 1 from if_pos hi0)
          have hB3 := hB2.set_ 1 (.int .i64 1)
          have hb3 : Below w.heap.size w (W2.setCell ⟨gs, 1, none⟩ (.int .i64 1)) := hb2.setCell (p := ⟨gs, 1, none⟩) hgw _
          have hown3 := ownN_far (p := ⟨gs, 1, none⟩) hown2 hneg (.int .i64 1)
          clear hi0
          go_wp2_with ((with_reducible show wpList _ _ _ ((⟨some 35, _, _, _, _, _⟩ : Oper) :: _) _ _); refine stopL ?_)
          refine Stop.out ?_
          clear q1 fr hB2 hb2 hown2
          generalize W2.setCell ⟨gs, 1, none⟩ (.int .i64 1) = W3 at *
          have q1 : W3.cell? ⟨gs, 1, none⟩ = some (.int .i64 1) := hB3.cell 1
          have fr := hB3.frozen
          by_cases hil : i + 1 = m
          · have gl : ((i : Int) == (m : Int) - 1) = true := by simp; omega
            have hor2 : bits .or .i64 1 2 = 3 := by decide
            have HFE := Lib.hid (show flagP m true i = 3 from by rw [HFL.out, HI0.out, if_pos hil])
            clear hil
            have hB4 := hB3.set_ 1 (.int .i64 3)
            have hb4 : Below w.heap.size w (W3.setCell ⟨gs, 1, none⟩ (.int .i64 3)) := hb3.setCell (p := ⟨gs, 1, none⟩) hgw _
            have hown4 := ownN_far (p := ⟨gs, 1, none⟩) hown3 hneg (.int .i64 3)
            go_wp2_with ((with_reducible show wpList _ _ _ ((⟨some 42, _, _, _, _, _⟩ : Oper) :: _) _ _); refine stopL ?_)
            refine Stop.out ?_
            clear q1 fr hB3 hb3 hown3
            generalize W3.setCell ⟨gs, 1, none⟩ (.int .i64 3) = W4 at *
            have q1 : W4.cell? ⟨gs, 1, none⟩ = some (.int .i64 3) := hB4.cell 1
            have q0 : W4.cell? ⟨gs, 0, none⟩ = some (.int .u32 (gen : Int)) := hB4.cell 0
            have q2 : W4.cell? ⟨gs, 2, none⟩ = some (.slice A px cx) := hB4.cell 2
            have hlg := hB4.lt
            go_wp2_with (at_builtin; refine wpList_append_oneN (o := ⟨some 44, _, _, _, _, _⟩) rfl _ _ 81 rfl w.heap.size 84 j84 _ 3 40 Try.underlying81 hj84 hz0 hz1 hz2 rfl (by omega) _ i _ rfl (hown4.alloc _) W4.heap.size [.int .u32 (gen : Int), .int .i64 3, .slice A px cx] rfl (heap_alloc_new W4 _) rfl (hone0 _ _ _ _) ?c1 ?c2 ?c3 ?_)
            case c1 => unfold maxLen; omega
            case c2 => omega
            case c3 => simp only [World.size_alloc]; have := hb4.size; omega
            intro A5 c5 W5 hown5 hgr5 _
            have hb5 : Below w.heap.size w W5 := (belowAlloc hb4 _).grown hgr5 (by simp only [World.size_alloc]; have := hb4.size; omega) (fun g e => (hown4.lt g e).1)
            have HVS := Lib.hid (show cutV gen m pv (i + 1) = cutV gen m pv i ++ [.int .u32 (gen : Int), .int .i64 3, .slice A px cx] from by rw [HCS.out, HPI.out, HFE.out]; rfl)
            rw [← HVS.out] at hown5
            go_wp2
            go_round
            case rel => exact ⟨i + 1, A5, c5, by omega, by go_num, rfl, hown5, hb5⟩
            case measure => simp [intOf]; omega
          · have gl : ((i : Int) == (m : Int) - 1) = false := by simp; omega
            have HFE := Lib.hid (show flagP m true i = 1 from by rw [HFL.out, HI0.out, if_neg hil])
            clear hil
            have hB4 := hB3
            have hb4 := hb3
            have hown4 := hown3
            go_wp2_with ((with_reducible show wpList _ _ _ ((⟨some 42, _, _, _, _, _⟩ : Oper) :: _) _ _); refine stopL ?_)
            refine Stop.out ?_
            clear q1 fr hB3 hb3 hown3
            generalize W3 = W4 at *
            have q1 : W4.cell? ⟨gs, 1, none⟩ = some (.int .i64 1) := hB4.cell 1
            have q0 : W4.cell? ⟨gs, 0, none⟩ = some (.int .u32 (gen : Int)) := hB4.cell 0
            have q2 : W4.cell? ⟨gs, 2, none⟩ = some (.slice A px cx) := hB4.cell 2
            have hlg := hB4.lt
            go_wp2_with (at_builtin; refine wpList_append_oneN (o := ⟨some 44, _, _, _, _, _⟩) rfl _ _ 81 rfl w.heap.size 84 j84 _ 3 40 Try.underlying81 hj84 hz0 hz1 hz2 rfl (by omega) _ i _ rfl (hown4.alloc _) W4.heap.size [.int .u32 (gen : Int), .int .i64 1, .slice A px cx] rfl (heap_alloc_new W4 _) rfl (hone0 _ _ _ _) ?c1 ?c2 ?c3 ?_)
            case c1 => unfold maxLen; omega
            case c2 => omega
            case c3 => simp only [World.size_alloc]; have := hb4.size; omega
            intro A5 c5 W5 hown5 hgr5 _
            have hb5 : Below w.heap.size w W5 := (belowAlloc hb4 _).grown hgr5 (by simp only [World.size_alloc]; have := hb4.size; omega) (fun g e => (hown4.lt g e).1)
            have HVS := Lib.hid (show cutV gen m pv (i + 1) = cutV gen m pv i ++ [.int .u32 (gen : Int), .int .i64 1, .slice A px cx] from by rw [HCS.out, HPI.out, HFE.out]; rfl)
            rw [← HVS.out] at hown5
            go_wp2
            go_round
            case rel => exact ⟨i + 1, A5, c5, by omega, by go_num, rfl, hown5, hb5⟩
            case measure => simp [intOf]; omega
        · have g0 : ((i : Int) == 0) = false := by simp; omega
          have HI0 := Lib.hid (show (if i = 0 then 1 else 0) = 0 from if_neg hi0)
          have hB3 := hB2
          have hb3 := hb2
          have hown3 := hown2
          clear hi0
          go_wp2_with ((with_reducible show wpList _ _ _ ((⟨some 35, _, _, _, _, _⟩ : Oper) :: _) _ _); refine stopL ?_)
          refine Stop.out ?_
          clear q1 fr hB2 hb2 hown2
          generalize W2 = W3 at *
          have q1 : W3.cell? ⟨gs, 1, none⟩ = some (.int .i64 0) := hB3.cell 1
          have fr := hB3.frozen
          by_cases hil : i + 1 = m
          · have gl : ((i : Int) == (m : Int) - 1) = true := by simp; omega
            have hor2 : bits .or .i64 0 2 = 2 := by decide
            have HFE := Lib.hid (show flagP m true i = 2 from by rw [HFL.out, HI0.out, if_pos hil])
            clear hil
            have hB4 := hB3.set_ 1 (.int .i64 2)
            have hb4 : Below w.heap.size w (W3.setCell ⟨gs, 1, none⟩ (.int .i64 2)) := hb3.setCell (p := ⟨gs, 1, none⟩) hgw _
            have hown4 := ownN_far (p := ⟨gs, 1, none⟩) hown3 hneg (.int .i64 2)
            go_wp2_with ((with_reducible show wpList _ _ _ ((⟨some 42, _, _, _, _, _⟩ : Oper) :: _) _ _); refine stopL ?_)
            refine Stop.out ?_
            clear q1 fr hB3 hb3 hown3
            generalize W3.setCell ⟨gs, 1, none⟩ (.int .i64 2) = W4 at *
            have q1 : W4.cell? ⟨gs, 1, none⟩ = some (.int .i64 2) := hB4.cell 1
            have q0 : W4.cell? ⟨gs, 0, none⟩ = some (.int .u32 (gen : Int)) := hB4.cell 0
            have q2 : W4.cell? ⟨gs, 2, none⟩ = some (.slice A px cx) := hB4.cell 2
            have hlg := hB4.lt
            go_wp2_with (at_builtin; refine wpList_append_oneN (o := ⟨some 44, _, _, _, _, _⟩) rfl _ _ 81 rfl w.heap.size 84 j84 _ 3 40 Try.underlying81 hj84 hz0 hz1 hz2 rfl (by omega) _ i _ rfl (hown4.alloc _) W4.heap.size [.int .u32 (gen : Int), .int .i64 2, .slice A px cx] rfl (heap_alloc_new W4 _) rfl (hone0 _ _ _ _) ?c1 ?c2 ?c3 ?_)
            case c1 => unfold maxLen; omega
            case c2 => omega
            case c3 => simp only [World.size_alloc]; have := hb4.size; omega
            intro A5 c5 W5 hown5 hgr5 _
            have hb5 : Below w.heap.size w W5 := (belowAlloc hb4 _).grown hgr5 (by simp only [World.size_alloc]; have := hb4.size; omega) (fun g e => (hown4.lt g e).1)
            have HVS := Lib.hid (show cutV gen m pv (i + 1) = cutV gen m pv i ++ [.int .u32 (gen : Int), .int .i64 2, .slice A px cx] from by rw [HCS.out, HPI.out, HFE.out]; rfl)
            rw [← HVS.out] at hown5
            go_wp2
            go_round
            case rel => exact ⟨i + 1, A5, c5, by omega, by go_num, rfl, hown5, hb5⟩
            case measure => simp [intOf]; omega
          · have gl : ((i : Int) == (m : Int) - 1) = false := by simp; omega
            have HFE := Lib.hid (show flagP m true i = 0 from by rw [HFL.out, HI0.out, if_neg hil])
            clear hil
            have hB4 := hB3
            have hb4 := hb3
            have hown4 := hown3
            go_wp2_with ((with_reducible show wpList _ _ _ ((⟨some 42, _, _, _, _, _⟩ : Oper) :: _) _ _); refine stopL ?_)
            refine Stop.out ?_
            clear q1 fr hB3 hb3 hown3
            generalize W3 = W4 at *
            have q1 : W4.cell? ⟨gs, 1, none⟩ = some (.int .i64 0) := hB4.cell 1
            have q0 : W4.cell? ⟨gs, 0, none⟩ = some (.int .u32 (gen : Int)) := hB4.cell 0
            have q2 : W4.cell? ⟨gs, 2, none⟩ = some (.slice A px cx) := hB4.cell 2
            have hlg := hB4.lt
            go_wp2_with (at_builtin; refine wpList_append_oneN (o := ⟨some 44, _, _, _, _, _⟩) rfl _ _ 81 rfl w.heap.size 84 j84 _ 3 40 Try.underlying81 hj84 hz0 hz1 hz2 rfl (by omega) _ i _ rfl (hown4.alloc _) W4.heap.size [.int .u32 (gen : Int), .int .i64 0, .slice A px cx] rfl (heap_alloc_new W4 _) rfl (hone0 _ _ _ _) ?c1 ?c2 ?c3 ?_)
            case c1 => unfold maxLen; omega
            case c2 => omega
            case c3 => simp only [World.size_alloc]; have := hb4.size; omega
            intro A5 c5 W5 hown5 hgr5 _
            have hb5 : Below w.heap.size w W5 := (belowAlloc hb4 _).grown hgr5 (by simp only [World.size_alloc]; have := hb4.size; omega) (fun g e => (hown4.lt g e).1)
            have HVS := Lib.hid (show cutV gen m pv (i + 1) = cutV gen m pv i ++ [.int .u32 (gen : Int), .int .i64 0, .slice A px cx] from by rw [HCS.out, HPI.out, HFE.out]; rfl)
            rw [← HVS.out] at hown5
            go_wp2
            go_round
            case rel => exact ⟨i + 1, A5, c5, by omega, by go_num, rfl, hown5, hb5⟩
            case measure => simp [intOf]; omega
      · rw [if_neg hcz] at HPI
        by_cases hfull : (i + 1) * 112 < n
        · have hmin : ((i : Int) + 1) * 112 < (n : Int) := by omega
          have b5 : (i + 1) * 112 ≤ c := by omega
          have b6 : ((i : Int) + 1) * 112 ≤ (c : Int) := by omega
          rw [show min n ((i + 1) * 112) = (i + 1) * 112 by omega] at HPI
          go_wp2_with ((with_reducible show wpList _ _ _ ((⟨some 28, _, _, _, _, _⟩ : Oper) :: _) _ _); refine stopL ?_)
          refine Stop.out ?_
          have hB2 := Box.new hkr 84 #[.int .u32 (gen : Int), .int .i64 0, .slice (Option.map (fun x => x.add (i * 112)) A) ((i + 1) * 112 - i * 112) (c - i * 112)]
          have hb2 : Below w.heap.size w (wr.alloc (.cells #[.int .u32 (gen : Int), .int .i64 0, .slice (Option.map (fun x => x.add (i * 112)) A) ((i + 1) * 112 - i * 112) (c - i * 112)] 84)) := belowAlloc hbr _
          have hown2 := hown.alloc (.cells #[.int .u32 (gen : Int), .int .i64 0, .slice (Option.map (fun x => x.add (i * 112)) A) ((i + 1) * 112 - i * 112) (c - i * 112)] 84)
          have hneg : Value.ownBlock (.slice Av i cv) ≠ some wr.heap.size := fun e => Nat.lt_irrefl _ (hown.lt _ e).2
          generalize (Option.map (fun x => x.add (i * 112)) A) = Ax at *
          generalize (i + 1) * 112 - i * 112 = px at *
          generalize c - i * 112 = cx at *
          clear b5 b6
          generalize hgs : wr.heap.size = gs at *
          have hgw : w.heap.size ≤ gs := by rw [← hgs]; exact hbr.size
          clear hgs
          generalize wr.alloc (.cells #[.int .u32 (gen : Int), .int .i64 0, .slice Ax px cx] 84) = W2 at *
          clear hkr hbr hown w1 w2 w3 b1 b2 b3 b4 hmin
          have q1 : W2.cell? ⟨gs, 1, none⟩ = some (.int .i64 0) := hB2.cell 1
          have fr := hB2.frozen
          by_cases hi0 : i = 0
          · have g0 : ((i : Int) == 0) = true := by simp; omega
            have hor1 : bits .or .i64 0 1 = 1 := by decide
            have HI0 := Lib.hid (show (if i = 0 then 1 else 0) = 1 from if_pos hi0)
            have hB3 := hB2.set_ 1 (.int .i64 1)
            have hb3 : Below w.heap.size w (W2.setCell ⟨gs, 1, none⟩ (.int .i64 1)) := hb2.setCell (p := ⟨gs, 1, none⟩) hgw _
            have hown3 := ownN_far (p := ⟨gs, 1, none⟩) hown2 hneg (.int .i64 1)
            clear hi0
            go_wp2_with ((with_reducible show wpList _ _ _ ((⟨some 35, _, _, _, _, _⟩ : Oper) :: _) _ _); refine stopL ?_)
            refine Stop.out ?_
            clear q1 fr hB2 hb2 hown2
            generalize W2.setCell ⟨gs, 1, none⟩ (.int .i64 1) = W3 at *
            have q1 : W3.cell? ⟨gs, 1, none⟩ = some (.int .i64 1) := hB3.cell 1
            have fr := hB3.frozen
            by_cases hil : i + 1 = m
            · have gl : ((i : Int) == (m : Int) - 1) = true := by simp; omega
              have hor2 : bits .or .i64 1 2 = 3 := by decide
              have HFE := Lib.hid (show flagP m true i = 3 from by rw [HFL.out, HI0.out, if_pos hil])
              clear hil
              have hB4 := hB3.set_ 1 (.int .i64 3)
              have hb4 : Below w.heap.size w (W3.setCell ⟨gs, 1, none⟩ (.int .i64 3)) := hb3.setCell (p := ⟨gs, 1, none⟩) hgw _
              have hown4 := ownN_far (p := ⟨gs, 1, none⟩) hown3 hneg (.int .i64 3)
              go_wp2_with ((with_reducible show wpList _ _ _ ((⟨some 42, _, _, _, _, _⟩ : Oper) :: _) _ _); refine stopL ?_)
              refine Stop.out ?_
              clear q1 fr hB3 hb3 hown3
              generalize W3.setCell ⟨gs, 1, none⟩ (.int .i64 3) = W4 at *
              have q1 : W4.cell? ⟨gs, 1, none⟩ = some (.int .i64 3) := hB4.cell 1
              have q0 : W4.cell? ⟨gs, 0, none⟩ = some (.int .u32 (gen : Int)) := hB4.cell 0
              have q2 : W4.cell? ⟨gs, 2, none⟩ = some (.slice Ax px cx) := hB4.cell 2
              have hlg := hB4.lt
              go_wp2_with (at_builtin; refine wpList_append_oneN (o := ⟨some 44, _, _, _, _, _⟩) rfl _ _ 81 rfl w.heap.size 84 j84 _ 3 40 Try.underlying81 hj84 hz0 hz1 hz2 rfl (by omega) _ i _ rfl (hown4.alloc _) W4.heap.size [.int .u32 (gen : Int), .int .i64 3, .slice Ax px cx] rfl (heap_alloc_new W4 _) rfl (hone0 _ _ _ _) ?c1 ?c2 ?c3 ?_)
              case c1 => unfold maxLen; omega
              case c2 => omega
              case c3 => simp only [World.size_alloc]; have := hb4.size; omega
              intro A5 c5 W5 hown5 hgr5 _
              have hb5 : Below w.heap.size w W5 := (belowAlloc hb4 _).grown hgr5 (by simp only [World.size_alloc]; have := hb4.size; omega) (fun g e => (hown4.lt g e).1)
              have HVS := Lib.hid (show cutV gen m pv (i + 1) = cutV gen m pv i ++ [.int .u32 (gen : Int), .int .i64 3, .slice Ax px cx] from by rw [HCS.out, HPI.out, HFE.out]; rfl)
              rw [← HVS.out] at hown5
              go_wp2
              go_round
              case rel => exact ⟨i + 1, A5, c5, by omega, by go_num, rfl, hown5, hb5⟩
              case measure => simp [intOf]; omega
            · have gl : ((i : Int) == (m : Int) - 1) = false := by simp; omega
              have HFE := Lib.hid (show flagP m true i = 1 from by rw [HFL.out, HI0.out, if_neg hil])
              clear hil
              have hB4 := hB3
              have hb4 := hb3
              have hown4 := hown3
              go_wp2_with ((with_reducible show wpList _ _ _ ((⟨some 42, _, _, _, _, _⟩ : Oper) :: _) _ _); refine stopL ?_)
              refine Stop.out ?_
              clear q1 fr hB3 hb3 hown3
              generalize W3 = W4 at *
              have q1 : W4.cell? ⟨gs, 1, none⟩ = some (.int .i64 1) := hB4.cell 1
              have q0 : W4.cell? ⟨gs, 0, none⟩ = some (.int .u32 (gen : Int)) := hB4.cell 0
              have q2 : W4.cell? ⟨gs, 2, none⟩ = some (.slice Ax px cx) := hB4.cell 2
              have hlg := hB4.lt
              go_wp2_with (at_builtin; refine wpList_append_oneN (o := ⟨some 44, _, _, _, _, _⟩) rfl _ _ 81 rfl w.heap.size 84 j84 _ 3 40 Try.underlying81 hj84 hz0 hz1 hz2 rfl (by omega) _ i _ rfl (hown4.alloc _) W4.heap.size [.int .u32 (gen : Int), .int .i64 1, .slice Ax px cx] rfl (heap_alloc_new W4 _) rfl (hone0 _ _ _ _) ?c1 ?c2 ?c3 ?_)
              case c1 => unfold maxLen; omega
              case c2 => omega
              case c3 => simp only [World.size_alloc]; have := hb4.size; omega
              intro A5 c5 W5 hown5 hgr5 _
              have hb5 : Below w.heap.size w W5 := (belowAlloc hb4 _).grown hgr5 (by simp only [World.size_alloc]; have := hb4.size; omega) (fun g e => (hown4.lt g e).1)
              have HVS := Lib.hid (show cutV gen m pv (i + 1) = cutV gen m pv i ++ [.int .u32 (gen : Int), .int .i64 1, .slice Ax px cx] from by rw [HCS.out, HPI.out, HFE.out]; rfl)
              rw [← HVS.out] at hown5
              go_wp2
              go_round
              case rel => exact ⟨i + 1, A5, c5, by omega, by go_num, rfl, hown5, hb5⟩
              case measure => simp [intOf]; omega
          · have g0 : ((i : Int) == 0) = false := by simp; omega
            have HI0 := Lib.hid (show (if i = 0 then 1 else 0) = 0 from if_neg hi0)
            have hB3 := hB2
            have hb3 := hb2
            have hown3 := hown2
            clear hi0
            go_wp2_with ((with_reducible show wpList _ _ _ ((⟨some 35, _, _, _, _, _⟩ : Oper) :: _) _ _); refine stopL ?_)
            refine Stop.out ?_
            clear q1 fr hB2 hb2 hown2
            generalize W2 = W3 at *
            have q1 : W3.cell? ⟨gs, 1, none⟩ = some (.int .i64 0) := hB3.cell 1
            have fr := hB3.frozen
            by_cases hil : i + 1 = m
            · have gl : ((i : Int) == (m : Int) - 1) = true := by simp; omega
              have hor2 : bits .or .i64 0 2 = 2 := by decide
              have HFE := Lib.hid (show flagP m true i = 2 from by rw [HFL.out, HI0.out, if_pos hil])
              clear hil
              have hB4 := hB3.set_ 1 (.int .i64 2)
              have hb4 : Below w.heap.size w (W3.setCell ⟨gs, 1, none⟩ (.int .i64 2)) := hb3.setCell (p := ⟨gs, 1, none⟩) hgw _
              have hown4 := ownN_far (p := ⟨gs, 1, none⟩) hown3 hneg (.int .i64 2)
              go_wp2_with ((with_reducible show wpList _ _ _ ((⟨some 42, _, _, _, _, _⟩ : Oper) :: _) _ _); refine stopL ?_)
              refine Stop.out ?_
              clear q1 fr hB3 hb3 hown3
              generalize W3.setCell ⟨gs, 1, none⟩ (.int .i64 2) = W4 at *
              have q1 : W4.cell? ⟨gs, 1, none⟩ = some (.int .i64 2) := hB4.cell 1
              have q0 : W4.cell? ⟨gs, 0, none⟩ = some (.int .u32 (gen : Int)) := hB4.cell 0
              have q2 : W4.cell? ⟨gs, 2, none⟩ = some (.slice Ax px cx) := hB4.cell 2
              have hlg := hB4.lt
              go_wp2_with (at_builtin; refine wpList_append_oneN (o := ⟨some 44, _, _, _, _, _⟩) rfl _ _ 81 rfl w.heap.size 84 j84 _ 3 40 Try.underlying81 hj84 hz0 hz1 hz2 rfl (by omega) _ i _ rfl (hown4.alloc _) W4.heap.size [.int .u32 (gen : Int), .int .i64 2, .slice Ax px cx] rfl (heap_alloc_new W4 _) rfl (hone0 _ _ _ _) ?c1 ?c2 ?c3 ?_)
              case c1 => unfold maxLen; omega
              case c2 => omega
              case c3 => simp only [World.size_alloc]; have := hb4.size; omega
              intro A5 c5 W5 hown5 hgr5 _
              have hb5 : Below w.heap.size w W5 := (belowAlloc hb4 _).grown hgr5 (by simp only [World.size_alloc]; have := hb4.size; omega) (fun g e => (hown4.lt g e).1)
              have HVS := Lib.hid (show cutV gen m pv (i + 1) = cutV gen m pv i ++ [.int .u32 (gen : Int), .int .i64 2, .slice Ax px cx] from by rw [HCS.out, HPI.out, HFE.out]; rfl)
              rw [← HVS.out] at hown5
              go_wp2
              go_round
              case rel => exact ⟨i + 1, A5, c5, by omega, by go_num, rfl, hown5, hb5⟩
              case measure => simp [intOf]; omega
            · have gl : ((i : Int) == (m : Int) - 1) = false := by simp; omega
              have HFE := Lib.hid (show flagP m true i = 0 from by rw [HFL.out, HI0.out, if_neg hil])
              clear hil
              have hB4 := hB3
              have hb4 := hb3
              have hown4 := hown3
              go_wp2_with ((with_reducible show wpList _ _ _ ((⟨some 42, _, _, _, _, _⟩ : Oper) :: _) _ _); refine stopL ?_)
              refine Stop.out ?_
              clear q1 fr hB3 hb3 hown3
              generalize W3 = W4 at *
              have q1 : W4.cell? ⟨gs, 1, none⟩ = some (.int .i64 0) := hB4.cell 1
              have q0 : W4.cell? ⟨gs, 0, none⟩ = some (.int .u32 (gen : Int)) := hB4.cell 0
              have q2 : W4.cell? ⟨gs, 2, none⟩ = some (.slice Ax px cx) := hB4.cell 2
              have hlg := hB4.lt
              go_wp2_with (at_builtin; refine wpList_append_oneN (o := ⟨some 44, _, _, _, _, _⟩) rfl _ _ 81 rfl w.heap.size 84 j84 _ 3 40 Try.underlying81 hj84 hz0 hz1 hz2 rfl (by omega) _ i _ rfl (hown4.alloc _) W4.heap.size [.int .u32 (gen : Int), .int .i64 0, .slice Ax px cx] rfl (heap_alloc_new W4 _) rfl (hone0 _ _ _ _) ?c1 ?c2 ?c3 ?_)
              case c1 => unfold maxLen; omega
              case c2 => omega
              case c3 => simp only [World.size_alloc]; have := hb4.size; omega
              intro A5 c5 W5 hown5 hgr5 _
              have hb5 : Below w.heap.size w W5 := (belowAlloc hb4 _).grown hgr5 (by simp only [World.size_alloc]; have := hb4.size; omega) (fun g e => (hown4.lt g e).1)
              have HVS := Lib.hid (show cutV gen m pv (i + 1) = cutV gen m pv i ++ [.int .u32 (gen : Int), .int .i64 0, .slice Ax px cx] from by rw [HCS.out, HPI.out, HFE.out]; rfl)
              rw [← HVS.out] at hown5
              go_wp2
              go_round
              case rel => exact ⟨i + 1, A5, c5, by omega, by go_num, rfl, hown5, hb5⟩
              case measure => simp [intOf]; omega
        · have hmin : ¬ ((i : Int) + 1) * 112 < (n : Int) := by omega
          rw [show min n ((i + 1) * 112) = n by omega] at HPI
          go_wp2_with ((with_reducible show wpList _ _ _ ((⟨some 28, _, _, _, _, _⟩ : Oper) :: _) _ _); refine stopL ?_)
          refine Stop.out ?_
          have hB2 := Box.new hkr 84 #[.int .u32 (gen : Int), .int .i64 0, .slice (Option.map (fun x => x.add (i * 112)) A) (n - i * 112) (c - i * 112)]
          have hb2 : Below w.heap.size w (wr.alloc (.cells #[.int .u32 (gen : Int), .int .i64 0, .slice (Option.map (fun x => x.add (i * 112)) A) (n - i * 112) (c - i * 112)] 84)) := belowAlloc hbr _
          have hown2 := hown.alloc (.cells #[.int .u32 (gen : Int), .int .i64 0, .slice (Option.map (fun x => x.add (i * 112)) A) (n - i * 112) (c - i * 112)] 84)
          have hneg : Value.ownBlock (.slice Av i cv) ≠ some wr.heap.size := fun e => Nat.lt_irrefl _ (hown.lt _ e).2
          generalize (Option.map (fun x => x.add (i * 112)) A) = Ax at *
          generalize n - i * 112 = px at *
          generalize c - i * 112 = cx at *
          generalize hgs : wr.heap.size = gs at *
          have hgw : w.heap.size ≤ gs := by rw [← hgs]; exact hbr.size
          clear hgs
          generalize wr.alloc (.cells #[.int .u32 (gen : Int), .int .i64 0, .slice Ax px cx] 84) = W2 at *
          clear hkr hbr hown w1 w2 w3 b1 b2 b3 b4 hmin
          have q1 : W2.cell? ⟨gs, 1, none⟩ = some (.int .i64 0) := hB2.cell 1
          have fr := hB2.frozen
          by_cases hi0 : i = 0
          · have g0 : ((i : Int) == 0) = true := by simp; omega
            have hor1 : bits .or .i64 0 1 = 1 := by decide
            have HI0 := Lib.hid (show (if i = 0 then 1 else 0) = 1 from if_pos hi0)
            have hB3 := hB2.set_ 1 (.int .i64 1)
            have hb3 : Below w.heap.size w (W2.setCell ⟨gs, 1, none⟩ (.int .i64 1)) := hb2.setCell (p := ⟨gs, 1, none⟩) hgw _
            have hown3 := ownN_far (p := ⟨gs, 1, none⟩) hown2 hneg (.int .i64 1)
            clear hi0
            go_wp2_with ((with_reducible show wpList _ _ _ ((⟨some 35, _, _, _, _, _⟩ : Oper) :: _) _ _); refine stopL ?_)
            refine Stop.out ?_
            clear q1 fr hB2 hb2 hown2
            generalize W2.setCell ⟨gs, 1, none⟩ (.int .i64 1) = W3 at *
            have q1 : W3.cell? ⟨gs, 1, none⟩ = some (.int .i64 1) := hB3.cell 1
            have fr := hB3.frozen
            by_cases hil : i + 1 = m
            · have gl : ((i : Int) == (m : Int) - 1) = true := by simp; omega
              have hor2 : bits .or .i64 1 2 = 3 := by decide
              have HFE := Lib.hid (show flagP m true i = 3 from by rw [HFL.out, HI0.out, if_pos hil])
              clear hil
              have hB4 := hB3.set_ 1 (.int .i64 3)
              have hb4 : Below w.heap.size w (W3.setCell ⟨gs, 1, none⟩ (.int .i64 3)) := hb3.setCell (p := ⟨gs, 1, none⟩) hgw _
              have hown4 := ownN_far (p := ⟨gs, 1, none⟩) hown3 hneg (.int .i64 3)
              go_wp2_with ((with_reducible show wpList _ _ _ ((⟨some 42, _, _, _, _, _⟩ : Oper) :: _) _ _); refine stopL ?_)
              refine Stop.out ?_
              clear q1 fr hB3 hb3 hown3
              generalize W3.setCell ⟨gs, 1, none⟩ (.int .i64 3) = W4 at *
              have q1 : W4.cell? ⟨gs, 1, none⟩ = some (.int .i64 3) := hB4.cell 1
              have q0 : W4.cell? ⟨gs, 0, none⟩ = some (.int .u32 (gen : Int)) := hB4.cell 0
              have q2 : W4.cell? ⟨gs, 2, none⟩ = some (.slice Ax px cx) := hB4.cell 2
              have hlg := hB4.lt
              go_wp2_with (at_builtin; refine wpList_append_oneN (o := ⟨some 44, _, _, _, _, _⟩) rfl _ _ 81 rfl w.heap.size 84 j84 _ 3 40 Try.underlying81 hj84 hz0 hz1 hz2 rfl (by omega) _ i _ rfl (hown4.alloc _) W4.heap.size [.int .u32 (gen : Int), .int .i64 3, .slice Ax px cx] rfl (heap_alloc_new W4 _) rfl (hone0 _ _ _ _) ?c1 ?c2 ?c3 ?_)
              case c1 => unfold maxLen; omega
              case c2 => omega
              case c3 => simp only [World.size_alloc]; have := hb4.size; omega
              intro A5 c5 W5 hown5 hgr5 _
              have hb5 : Below w.heap.size w W5 := (belowAlloc hb4 _).grown hgr5 (by simp only [World.size_alloc]; have := hb4.size; omega) (fun g e => (hown4.lt g e).1)
              have HVS := Lib.hid (show cutV gen m pv (i + 1) = cutV gen m pv i ++ [.int .u32 (gen : Int), .int .i64 3, .slice Ax px cx] from by rw [HCS.out, HPI.out, HFE.out]; rfl)
              rw [← HVS.out] at hown5
              go_wp2
              go_round
              case rel => exact ⟨i + 1, A5, c5, by omega, by go_num, rfl, hown5, hb5⟩
              case measure => simp [intOf]; omega
            · have gl : ((i : Int) == (m : Int) - 1) = false := by simp; omega
              have HFE := Lib.hid (show flagP m true i = 1 from by rw [HFL.out, HI0.out, if_neg hil])
              clear hil
              have hB4 := hB3
              have hb4 := hb3
              have hown4 := hown3
              go_wp2_with ((with_reducible show wpList _ _ _ ((⟨some 42, _, _, _, _, _⟩ : Oper) :: _) _ _); refine stopL ?_)
              refine Stop.out ?_
              clear q1 fr hB3 hb3 hown3
              generalize W3 = W4 at *
              have q1 : W4.cell? ⟨gs, 1, none⟩ = some (.int .i64 1) := hB4.cell 1
              have q0 : W4.cell? ⟨gs, 0, none⟩ = some (.int .u32 (gen : Int)) := hB4.cell 0
              have q2 : W4.cell? ⟨gs, 2, none⟩ = some (.slice Ax px cx) := hB4.cell 2
              have hlg := hB4.lt
              go_wp2_with (at_builtin; refine wpList_append_oneN (o := ⟨some 44, _, _, _, _, _⟩) rfl _ _ 81 rfl w.heap.size 84 j84 _ 3 40 Try.underlying81 hj84 hz0 hz1 hz2 rfl (by omega) _ i _ rfl (hown4.alloc _) W4.heap.size [.int .u32 (gen : Int), .int .i64 1, .slice Ax px cx] rfl (heap_alloc_new W4 _) rfl (hone0 _ _ _ _) ?c1 ?c2 ?c3 ?_)
              case c1 => unfold maxLen; omega
              case c2 => omega
              case c3 => simp only [World.size_alloc]; have := hb4.size; omega
              intro A5 c5 W5 hown5 hgr5 _
              have hb5 : Below w.heap.size w W5 := (belowAlloc hb4 _).grown hgr5 (by simp only [World.size_alloc]; have := hb4.size; omega) (fun g e => (hown4.lt g e).1)
              have HVS := Lib.hid (show cutV gen m pv (i + 1) = cutV gen m pv i ++ [.int .u32 (gen : Int), .int .i64 1, .slice Ax px cx] from by rw [HCS.out, HPI.out, HFE.out]; rfl)
              rw [← HVS.out] at hown5
              go_wp2
              go_round
              case rel => exact ⟨i + 1, A5, c5, by omega, by go_num, rfl, hown5, hb5⟩
              case measure => simp [intOf]; omega
          · have g0 : ((i : Int) == 0) = false := by simp; omega
            have HI0 := Lib.hid (show (if i = 0 then 1 else 0) = 0 from if_neg hi0)
            have hB3 := hB2
            have hb3 := hb2
            have hown3 := hown2
            clear hi0
            go_wp2_with ((with_reducible show wpList _ _ _ ((⟨some 35, _, _, _, _, _⟩ : Oper) :: _) _ _); refine stopL ?_)
            refine Stop.out ?_
            clear q1 fr hB2 hb2 hown2
            generalize W2 = W3 at *
            have q1 : W3.cell? ⟨gs, 1, none⟩ = some (.int .i64 0) := hB3.cell 1
            have fr := hB3.frozen
            by_cases hil : i + 1 = m
            · have gl : ((i : Int) == (m : Int) - 1) = true := by simp; omega
              have hor2 : bits .or .i64 0 2 = 2 := by decide
              have HFE := Lib.hid (show flagP m true i = 2 from by rw [HFL.out, HI0.out, if_pos hil])
              clear hil
              have hB4 := hB3.set_ 1 (.int .i64 2)
              have hb4 : Below w.heap.size w (W3.setCell ⟨gs, 1, none⟩ (.int .i64 2)) := hb3.setCell (p := ⟨gs, 1, none⟩) hgw _
              have hown4 := ownN_far (p := ⟨gs, 1, none⟩) hown3 hneg (.int .i64 2)
              go_wp2_with ((with_reducible show wpList _ _ _ ((⟨some 42, _, _, _, _, _⟩ : Oper) :: _) _ _); refine stopL ?_)
              refine Stop.out ?_
              clear q1 fr hB3 hb3 hown3
              generalize W3.setCell ⟨gs, 1, none⟩ (.int .i64 2) = W4 at *
              have q1 : W4.cell? ⟨gs, 1, none⟩ = some (.int .i64 2) := hB4.cell 1
              have q0 : W4.cell? ⟨gs, 0, none⟩ = some (.int .u32 (gen : Int)) := hB4.cell 0
              have q2 : W4.cell? ⟨gs, 2, none⟩ = some (.slice Ax px cx) := hB4.cell 2
              have hlg := hB4.lt
              go_wp2_with (at_builtin; refine wpList_append_oneN (o := ⟨some 44, _, _, _, _, _⟩) rfl _ _ 81 rfl w.heap.size 84 j84 _ 3 40 Try.underlying81 hj84 hz0 hz1 hz2 rfl (by omega) _ i _ rfl (hown4.alloc _) W4.heap.size [.int .u32 (gen : Int), .int .i64 2, .slice Ax px cx] rfl (heap_alloc_new W4 _) rfl (hone0 _ _ _ _) ?c1 ?c2 ?c3 ?_)
              case c1 => unfold maxLen; omega
              case c2 => omega
              case c3 => simp only [World.size_alloc]; have := hb4.size; omega
              intro A5 c5 W5 hown5 hgr5 _
              have hb5 : Below w.heap.size w W5 := (belowAlloc hb4 _).grown hgr5 (by simp only [World.size_alloc]; have := hb4.size; omega) (fun g e => (hown4.lt g e).1)
              have HVS := Lib.hid (show cutV gen m pv (i + 1) = cutV gen m pv i ++ [.int .u32 (gen : Int), .int .i64 2, .slice Ax px cx] from by rw [HCS.out, HPI.out, HFE.out]; rfl)
              rw [← HVS.out] at hown5
              go_wp2
              go_round
              case rel => exact ⟨i + 1, A5, c5, by omega, by go_num, rfl, hown5, hb5⟩
              case measure => simp [intOf]; omega
            · have gl : ((i : Int) == (m : Int) - 1) = false := by simp; omega
              have HFE := Lib.hid (show flagP m true i = 0 from by rw [HFL.out, HI0.out, if_neg hil])
              clear hil
              have hB4 := hB3
              have hb4 := hb3
              have hown4 := hown3
              go_wp2_with ((with_reducible show wpList _ _ _ ((⟨some 42, _, _, _, _, _⟩ : Oper) :: _) _ _); refine stopL ?_)
              refine Stop.out ?_
              clear q1 fr hB3 hb3 hown3
              generalize W3 = W4 at *
              have q1 : W4.cell? ⟨gs, 1, none⟩ = some (.int .i64 0) := hB4.cell 1
              have q0 : W4.cell? ⟨gs, 0, none⟩ = some (.int .u32 (gen : Int)) := hB4.cell 0
              have q2 : W4.cell? ⟨gs, 2, none⟩ = some (.slice Ax px cx) := hB4.cell 2
              have hlg := hB4.lt
              go_wp2_with (at_builtin; refine wpList_append_oneN (o := ⟨some 44, _, _, _, _, _⟩) rfl _ _ 81 rfl w.heap.size 84 j84 _ 3 40 Try.underlying81 hj84 hz0 hz1 hz2 rfl (by omega) _ i _ rfl (hown4.alloc _) W4.heap.size [.int .u32 (gen : Int), .int .i64 0, .slice Ax px cx] rfl (heap_alloc_new W4 _) rfl (hone0 _ _ _ _) ?c1 ?c2 ?c3 ?_)
              case c1 => unfold maxLen; omega
              case c2 => omega
              case c3 => simp only [World.size_alloc]; have := hb4.size; omega
              intro A5 c5 W5 hown5 hgr5 _
              have hb5 : Below w.heap.size w W5 := (belowAlloc hb4 _).grown hgr5 (by simp only [World.size_alloc]; have := hb4.size; omega) (fun g e => (hown4.lt g e).1)
              have HVS := Lib.hid (show cutV gen m pv (i + 1) = cutV gen m pv i ++ [.int .u32 (gen : Int), .int .i64 0, .slice Ax px cx] from by rw [HCS.out, HPI.out, HFE.out]; rfl)
              rw [← HVS.out] at hown5
              go_wp2
              go_round
              case rel => exact ⟨i + 1, A5, c5, by omega, by go_num, rfl, hown5, hb5⟩
              case measure => simp [intOf]; omega
    · obtain rfl : i = m := by omega
      obtain ⟨D', hg', hle, hsl, _⟩ := growPubN (Grow.of_below hk hbr) hown (Nat.le_refl _) (fun g e => hk.offNew (hown.lt g e).1)
      have HR := Lib.hid (show ∀ j, j < i → ∃ Ai mi ci, pv j = .slice Ai mi ci ∧ BS D' (.slice Ai mi ci) (pieceS b j) from fun j hj => ⟨_, _, _, HPD.out j, by rw [← HPD.out j]; exact (HPV.out j hj).le hle⟩)
      go_wp2
      go_ret
      exact ⟨Av, cv, D', pv, rfl, hg', hsl, HR.out⟩
end Go.Proofs.Ytegkmkglagmdiaa
