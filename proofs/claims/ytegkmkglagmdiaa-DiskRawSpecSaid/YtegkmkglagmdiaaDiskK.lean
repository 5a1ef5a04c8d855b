/-
  What is proved here: the contract of the reference Copy
-/
import Derived.Test.YtegkmkglagmdiaaRows
import Derived.Test.YtegkmkglagmdiaaDiskJ
import Derived.Test.YtegkmkglagmdiaaBaseB
import Derived.Deep.RegionHeld3
import Derived.Deep.RegionLaw
import Derived.Deep.DeepCutAuto
import Derived.Deep.QuietTactic
import Derived.BigQuiet
import Derived.Laws.EntriesVeiled
namespace Go.Proofs.Ytegkmkglagmdiaa
open Go.RowKit Go.VS

set_option maxRecDepth 100000 in
set_option maxHeartbeats 2000000 in
theorem copy_c (A : Option Addr) (n c : Nat) (xs : List (List UInt8)) (l t : Int) (s : Bool) (D : Gh) (w : World) (hk : Keeps D w) (hs : SS D (.slice A n c) xs) (hn : n ≤ 4096) (hx : ∀ x ∈ xs, x.length ≤ 256) :
    Calls Try.prog 25 #[.agg #[.slice A n c, .int .i64 l, .int .i64 t, .bool s]] w fun e w' => ∃ A' n' c' D', e = .returned (.agg #[.slice A' n' c', .int .i64 l, .int .i64 t, .bool s]) ∧ Grow w D w' D' ∧ SS D' (.slice A' n' c') xs := by
  obtain ⟨i5, hi5, hz50, hz51, hz52⟩ := info_parts info5
  obtain ⟨i3, hi3, hz30, hz31, hz32⟩ := info_parts info32
  obtain ⟨hnx, hnc, hcm⟩ := hs.len
  unfold maxLen at hcm
  have HN := Lib.hid (And.intro hnx hx)
  clear hnx hx
  go_enter Try.func25, Try.ntmps25
  go_wp2
  go_loopw [3, 4] (fun v i wr => ∃ (k : Nat) (A' : Option Addr) (c' : Nat) (vs : List Value) (D' : Gh), k ≤ n ∧ i = .int .i64 k ∧ v = .slice A' k c' ∧ wr.ownsRow (w.heap.size + 2) 32 1 (.slice A' k c') k vs ∧ Box wr D' w.heap.size 26 #[.slice A n c, .int .i64 l, .int .i64 t, .bool s] ∧ Box wr D' (w.heap.size + 1) 26 #[.slice none 0 0, .int .i64 0, .int .i64 0, .bool false] ∧ Grow w D wr D' ∧ (∀ g, Value.ownBlock (.slice A' k c') = some g → D'.off g) ∧ vs.length = k ∧ (∀ (j : Nat) x u, xs[j]? = some x → vs[j]? = some u → BS D' u x)) (fun _ i _ => n - (intOf i).toNat)
  case atStart => exact ⟨0, some ⟨w.heap.size + 2, 0, none⟩, 0, [], D, Nat.zero_le _, rfl, rfl, own_empty (Nat.le_refl _) (by have := heap_alloc_new ((w.alloc (.cells #[.slice A n c, .int .i64 l, .int .i64 t, .bool s] 26)).alloc (.cells #[.slice none 0 0, .int .i64 0, .int .i64 0, .bool false] 26)) (.cells #[] 32); simpa using this), ((Box.new hk _ _).alloc _).alloc _, (by have := (Box.new (hk.alloc (.cells #[.slice A n c, .int .i64 l, .int .i64 t, .bool s] 26)) 26 #[.slice none 0 0, .int .i64 0, .int .i64 0, .bool false]).alloc (.cells #[] 32); simpa using this), (((Grow.refl hk).alloc _).alloc _).alloc _, (fun g h => by simp [Value.ownBlock] at h; subst h; exact hk.offNew (by omega)), rfl, (fun j x u _ h => by simp at h)⟩
  case round =>
    obtain ⟨k, A', c', vs, D', hkn, rfl, rfl, hown, hbox, hres, hgrow, hoff, hvl, hall⟩ := hrel
    have HV := Lib.hid (And.intro hvl hall)
    clear hvl hall
    have q := hbox.cell
    by_cases hlt : k < n
    · have hkx : k < xs.length := by rw [← HN.out.1]; exact hlt
      have hkD : Keeps D wr := hgrow.keepsOld hk
      obtain ⟨b, o, a', c2, rfl, hcell, hbs⟩ := hs.at_ hkD hkx
      have h256 : xs[k].length ≤ 256 := HN.out.2 _ (List.getElem_mem hkx)
      have hbl := World.block_lt_of_cell? wr _ hcell
      simp only at hbl
      have hlt1 := hbox.lt
      have hlt2 := hres.lt
      obtain ⟨len, hlen⟩ : ∃ len, xs[k].length = len := ⟨_, rfl⟩
      rw [hlen] at hcell hbs h256
      have HLEN := Lib.hid hlen
      clear hlen
      go_wp2_with (at_builtin; refine wpList_append_sl (o := ⟨some 20, _, _, _, _, _⟩) _ rfl _ _ 32 rfl (w.heap.size + 2) 5 i5 (.int .u8 0) 1 Try.underlying32 hi5 hz50 hz51 hz52 rfl _ 0 [] rfl (own_empty (by omega) (heap_alloc_new _ _)) D (hkD.alloc _) _ _ _ _ rfl hbs (bv_one _) ?c1 ?c2 ?c3 ?_)
      case c1 => unfold maxLen; omega
      case c2 => omega
      case c3 => simp; omega
      intro A1 c1 w1 hown1 hgr1 hat1
      replace hgr1 : (wr.alloc (.cells #[] 5)).grownBy w1 (some wr.heap.size) := hgr1
      replace hat1 : Value.ownBlock (.slice A1 len c1) = some wr.heap.size ∨ Value.ownBlock (.slice A1 len c1) = some (wr.heap.size + 1) := hat1
      have hG1 : Grow w D w1 D' := Grow.row (hgrow.alloc _) hgr1 (fun g h => by injection h with h; omega) (fun g h => by injection h with h; subst h; exact hgrow.keeps.offNew (Nat.le_refl _))
      obtain ⟨D1, hg1, hle1, hsl1, hof1⟩ := hG1.pub hown1 (by omega) (fun g h => by
        rcases hat1 with e | e
        · rw [e] at h; injection h with h; exact hgrow.keeps.offNew (by omega)
        · rw [e] at h; injection h with h; exact hgrow.keeps.offNew (by omega))
      have hownA : w1.ownsRow (w.heap.size + 2) 32 1 (.slice A' k c') k vs := (hown.alloc _).kept hgr1 (.inr (fun e => by have h := (hown.lt _ e).2; omega))
      have hoD1 : ∀ g, Value.ownBlock (.slice A' k c') = some g → D1.off g := fun g h => hof1 g (hoff g h) (fun e => by
        have h2 := (hown.lt _ h).2
        rcases hat1 with e' | e'
        · rw [e'] at e; injection e with e; omega
        · rw [e'] at e; injection e with e; omega)
      have hb1 : Box w1 D1 w.heap.size 26 #[.slice (some ⟨b, o, none⟩) n c, .int .i64 l, .int .i64 t, .bool s] := ((hbox.alloc _).grown hgr1 (fun e => by injection e with e; omega)).le (hof1 _ hbox.off (fun e => by have h := (hown1.lt _ e).1; omega))
      have hr1 : Box w1 D1 (w.heap.size + 1) 26 #[.slice none 0 0, .int .i64 0, .int .i64 0, .bool false] := ((hres.alloc _).grown hgr1 (fun e => by injection e with e; omega)).le (hof1 _ hres.off (fun e => by have h := (hown1.lt _ e).1; omega))
      have hsz1 := hg1.below.size
      have HH := Lib.hid (And.intro hg1 (And.intro hle1 (And.intro hsl1 (And.intro hoD1 hof1))))
      clear hg1 hle1 hsl1 hoD1 hof1 hat1 hgr1 hG1 q
      go_wp2_with (at_builtin; refine wpList_append_one (o := ⟨some 22, _, _, _, _, _⟩) rfl _ _ 24 rfl (w.heap.size + 2) 32 i3 (.slice none 0 0) 24 Try.underlying24 hi3 hz30 hz31 hz32 rfl _ k vs rfl (hownA.alloc _) w1.heap.size _ rfl (heap_alloc_new _ _) rfl ?d1 ?d2 ?d3 ?_)
      case d1 => unfold maxLen; omega
      case d2 => omega
      case d3 => have := hb1.lt; have := hr1.lt; simp; omega
      intro A2 c3 w2 hown2 hgr2 hat2
      have hobx : ∀ g', g' < w.heap.size + 2 → some g' ≠ Value.ownBlock (.slice A' k c') := fun g' hg' e => by have h := (hownA.lt _ e.symm).1; omega
      have hcb := ((hb1.alloc (.cells #[.slice A1 len c1] 32)).grown hgr2 (hobx _ (by omega))).cell
      go_wp2
      go_roundw
      case rel =>
        obtain ⟨hg1, hle1, hsl1, hoD1, hof1⟩ := HH.out
        refine ⟨k + 1, A2, c3, vs ++ [.slice A1 len c1], D1, by omega, by go_num, rfl, hown2, (hb1.alloc _).grown hgr2 (hobx _ (by omega)), (hr1.alloc _).grown hgr2 (hobx _ (by omega)), Grow.row (hg1.alloc _) hgr2 (fun g h => by have h := (hownA.lt _ h).1; omega) hoD1, off_append (hg1.keeps.alloc (.cells #[.slice A1 len c1] 32)) hoD1 (by rw [World.size_alloc]; exact hat2), by simp [HV.out.1], ?_⟩
        intro j x u ex eu
        rcases Nat.lt_or_ge j k with hj | hj
        · rw [List.getElem?_append_left (by rw [HV.out.1]; exact hj)] at eu
          exact (HV.out.2 j x u ex eu).le hle1
        · rw [List.getElem?_append_right (by rw [HV.out.1]; exact hj)] at eu
          have hjk : j - vs.length = 0 := by
            rcases Nat.eq_zero_or_pos (j - vs.length) with h | h
            · exact h
            · rw [List.getElem?_eq_none (by simp; omega)] at eu; cases eu
          have : j = k := by have := HV.out.1; omega
          subst this
          rw [hjk] at eu
          rw [List.getElem?_eq_getElem hkx] at ex
          injection ex with ex
          injection eu with eu
          subst ex; subst eu
          exact hsl1
      case measure => simp [intOf]; omega
    · obtain rfl : k = n := by omega
      have q2 := hres.cell
      have f1 := hbox.frozen
      have f2 := hres.frozen
      obtain ⟨D2, hg2, hle2, hsl2, hof2⟩ := hgrow.pub hown (by omega) hoff
      have hss : SS D2 (.slice A' k c') xs := ⟨vs, hsl2, by rw [HV.out.1]; exact HN.out.1, fun j x u ex eu => (HV.out.2 j x u ex eu).le hle2⟩
      have hfin := (hg2.setNew (p := ⟨w.heap.size, 0, none⟩) (Nat.le_refl _) (hof2 _ hbox.off (fun e => by have h := (hown.lt _ e).1; dsimp only at h; omega)) (.slice A' k c')).set4 (g := w.heap.size + 1) (by omega) (hof2 _ hres.off (fun e => by have h := (hown.lt _ e).1; omega)) (.slice A' k c') (.int .i64 l) (.int .i64 t) (.bool s)
      have HF := Lib.hid hfin
      clear hfin
      go_wp2
      exact bodyPost_ret (v := .agg #[.slice A' k c', .int .i64 l, .int .i64 t, .bool s]) (by simp [results, Try.results25, go_sem, q2]) rfl ⟨A', k, c', D2, rfl, HF.out, hss⟩
end Go.Proofs.Ytegkmkglagmdiaa
