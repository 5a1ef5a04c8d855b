/-
  What is proved here: hash of a message, one-time public keys, Public.
-/
import Derived.Test.YtohknemfcohhfaaDoorRows
import Derived.Test.YtohknemfcohhfaaDoorBaseC
import Derived.Test.YtohknemfcohhfaaDoorSha
import Derived.Test.YtohknemfcohhfaaDoorDigA
import Derived.Test.YtohknemfcohhfaaDoorDigC
import Derived.Test.YtohknemfcohhfaaDoorDigD
import Derived.Test.YtohknemfcohhfaaDoorDigE
import Derived.Test.YtohknemfcohhfaaDoorDigF
import Derived.Test.YtohknemfcohhfaaDoorDigG
import Derived.Test.YtohknemfcohhfaaDoorDigH
import Derived.Test.YtohknemfcohhfaaDoorDigI
import Derived.Test.YtohknemfcohhfaaDoorDigJ
import Derived.Test.YtohknemfcohhfaaDoorDigK
import Derived.Test.YtohknemfcohhfaaDoorDigL
import Derived.Test.YtohknemfcohhfaaDoorDigM
import Derived.Test.YtohknemfcohhfaaDoorDigN
import Derived.Test.YtohknemfcohhfaaDoorDigO
import Derived.Test.YtohknemfcohhfaaDoorDigP
import Derived.Test.YtohknemfcohhfaaDoorDigQ
import Derived.Test.YtohknemfcohhfaaDoorDigR
import Derived.Test.YtohknemfcohhfaaDoorDigS
import Derived.Test.YtohknemfcohhfaaDoorDigT
import Derived.Test.YtohknemfcohhfaaDoorLawTags
import Derived.Test.YtohknemfcohhfaaDoorSigA
import Derived.Test.YtohknemfcohhfaaDoorSigB
import Derived.Test.YtohknemfcohhfaaDoorSigC
import Derived.Test.YtohknemfcohhfaaDoorSigD
import Derived.Test.YtohknemfcohhfaaDoorTree
import Derived.Test.YtohknemfcohhfaaDoorSign
import Derived.Test.YtohknemfcohhfaaDoorShelf
import Derived.Lib.ConvBytes
import Derived.StillTailTactics
import Derived.Lib.AppendZerosOnto
import Derived.Deep.RegionHeld3
import Derived.Stop.BytesEq
import Derived.Great.BuildSlice
import Derived.Deep.MidRow
import Derived.Deep.RegionLaw
import Derived.Deep.DeepCutAuto
import Derived.Deep.QuietTactic
import Derived.BigQuiet
import Derived.Laws.EntriesVeiled
namespace Go.Proofs.YtohknemfcohhfaaDoor
open Go.RowKit Go.VS
theorem ss_new3 {w : World} {D : Gh} (hk : Keeps D w) {u v z : Value} {x y t : List UInt8} (hu : BS D u x) (hv : BS D v y) (hz : BS D z t) {g : Nat} (hg : g = w.heap.size) : ∃ D', Grow w D (w.alloc (.cells #[u, v, z] 22)) D' ∧ SS D' (.slice (some ⟨g, 0, none⟩) 3 3) [x, y, t] := by
  subst hg
  exact ss_lit hk [u, v, z] [x, y, t] rfl (by simp [maxLen]) (by
    intro j q p ez eq
    match j, ez, eq with
    | 0, ez, eq => simp at ez eq; subst ez; subst eq; exact hu
    | 1, ez, eq => simp at ez eq; subst ez; subst eq; exact hv
    | 2, ez, eq => simp at ez eq; subst ez; subst eq; exact hz
    | j + 3, ez, eq => simp at ez)
theorem bs_new1 {w : World} {D : Gh} (hk : Keeps D w) (x : Int) {g : Nat} (hg : g = w.heap.size) : ∃ D', Grow w D (w.alloc (.cells #[.int .u8 (x % 256)] 5)) D' ∧ BS D' (.slice (some ⟨g, 0, none⟩) 1 1) [b8 x] := by
  subst hg
  have h := BS.new hk [b8 x] 5 (by simp [maxLen]) (w' := w.alloc (.cells #[.int .u8 (x % 256)] 5)) (by simp only [List.map_cons, List.map_nil, bv_b8]; exact heap_alloc_new w _) ((Below.refl _ _).alloc (Nat.le_refl _) _)
  exact h
set_option maxRecDepth 100000 in
set_option maxHeartbeats 1000000 in
theorem hash_c {sh : List UInt8 → List UInt8} (hs : Sh sh) (p : List UInt8) (hp : p.length = 32) (u : Int) (A : Option Addr) (n c : Nat) (msg : List UInt8) (hn : n ≤ 65536) (D : Gh) (w : World) (hk : Keeps D w) (hT : Tab D) (hb : BS D (.slice A n c) msg) :
    Calls Tryd.prog 68 #[dg p, .int .i64 u, .slice A n c] w fun e w' => e = .returned (dg (hashF (tagB sh) p u msg)) ∧ Below w.heap.size w w' := by
  obtain ⟨hn1, hn2, hn3⟩ := hb.len
  have HN := Lib.hid hn1
  have HP := Lib.hid hp
  rw [dg_darr p hp]
  clear hn1 hp
  have hB1 := (Box.new2 hk rfl 26 (darr p)).alloc (.cells (darr []) 26)
  have hB2 := Box.new2 (hk.alloc (.cells (darr p) 26)) (g := w.heap.size + 1) (by simp) 26 (darr [])
  have hG0 : Grow w D ((w.alloc (.cells (darr p) 26)).alloc (.cells (darr []) 26)) D := ((Grow.refl hk).alloc _).alloc _
  obtain ⟨D0, hG0', hle0, hb0, hoff0⟩ := dgBox_bs hG0 hB1 HP.out (Nat.le_refl _)
  have hB2a := hB2.le (hoff0 _ hB2.off (by omega))
  obtain ⟨D1, hG1, hb1⟩ := bs_new1 hG0'.keeps u (g := w.heap.size + 1 + 1) (by simp)
  obtain ⟨D2, hG2, hs2⟩ := ss_new3 hG1.keeps (hb0.le hG1.le) hb1 ((hb.le hG0'.le).le hG1.le) (g := w.heap.size + 1 + 1 + 1) (by simp)
  have hB2' := (hB2a.grow hG1).grow hG2
  have hG3 := (hG0'.trans hG1).trans hG2
  have HL := Lib.hid (show [p, [b8 u], msg].flatten = p ++ ([b8 u] ++ msg) by simp)
  have HLL := Lib.hid (show [p, [b8 u], msg].flatten.length = n + 33 by rw [HL.out, List.length_append, List.length_append, HP.out, HN.out]; simp; omega)
  clear hB1 hB2 hG0 hG1 hG2 hb1 hb0 hoff0 hle0 hB2a hG0'
  go_enter Tryd.func68, Tryd.ntmps68
  go_wp2_with fail
  refine (concat_c _ _ _ [p, [b8 u], msg] D2 _ hG3.keeps hs2 (by rw [HLL.out]; omega) (by omega)).mono ?_
  rintro e w3 ⟨A3, c3, D3, rfl, hG4, hb3⟩
  rw [HLL.out] at hb3 ⊢
  rw [HL.out] at hb3
  have hB2 := hB2'.grow hG4
  have hG5 := hG3.trans hG4
  clear hG3 hs2 hB2' hG4 HL HLL
  have HV := Lib.hid (show hashF (tagB sh) p u msg = tagB sh messageT (p ++ ([b8 u] ++ msg)) from rfl)
  have HS := Lib.hid (fun W hk hT => tag_c hs messageT (by decide) _ _ _ (p ++ ([b8 u] ++ msg)) D3 W hk hb3 (by omega) hT)
  have hr32 := Lib.hid (show (tagB sh messageT (p ++ ([b8 u] ++ msg))).length = 32 from hs.len _)
  generalize hr : tagB sh messageT (p ++ ([b8 u] ++ msg)) = r at *
  clear hr
  rw [dg_darr r hr32.out] at HS
  have hsr : (darr []).size = (darr r).size := by rw [darr_size _ (by simp), darr_size _ (by rw [hr32.out]; omega)]
  have hsr26 := sz26 r hr32.out
  go_wp2_with fail
  refine (HS.out _ hG5.keeps (hT.le hG5.le)).mono ?_
  rintro e w6 ⟨rfl, hb6⟩
  have hB2f := hB2.below hb6 hB2.lt
  have hbel6 := belowVia hb6 hG5.below
  go_wp2_with (first | ((with_reducible show wpList _ _ _ ((⟨_, .store 26 _ _, _, _, _, _⟩ : Oper) :: _) _ _); refine wpList_store_row rfl 26 _ _ rfl (w.heap.size + 1) (darr r) rfl rfl 26 (darr []) (hB2f.heap) (hsr26) (hsr) (darr_one _) ?_))
  refine bodyPost_ret (results_cell_row rfl _ _ _ _ _ _ _ rfl (hB2f.setRow _).heap Tryd.underlying26 rfl hsr26) rfl ⟨?_, belowRow hbel6 (by omega) _⟩
  rw [HV.out, dg_darr r hr32.out]
theorem endsF_len (T : List UInt8 → List UInt8 → List UInt8) (seed : List UInt8) (i : Int) : (endsF T seed i).length = 67 := by simp [endsF]
theorem endsF_at (T : List UInt8 → List UInt8 → List UInt8) (seed : List UInt8) (i : Int) (j : Nat) (h : j < 67) : (endsF T seed i).getD j [] = valF T seed i j 15 := by
  unfold endsF
  rw [List.getD_eq_getElem?_getD, List.getElem?_map, List.getElem?_range h]
  rfl
theorem keysF_take (T : List UInt8 → List UInt8 → List UInt8) (seed : List UInt8) (m k : Nat) (h : k < m) : (keysF T seed m).take (k + 1) = (keysF T seed m).take k ++ [keyF T seed k] := by
  rw [List.take_add_one]
  unfold keysF
  rw [List.getElem?_map, List.getElem?_range h]
  rfl
theorem keysF_all {sh : List UInt8 → List UInt8} (hs : Sh sh) (seed : List UInt8) (m : Nat) : ∀ d ∈ keysF (tagB sh) seed m, d.length = 32 := by
  intro d hd
  unfold keysF at hd
  rw [List.mem_map] at hd
  obtain ⟨i, _, rfl⟩ := hd
  exact hs.len _
set_option maxRecDepth 100000 in
set_option maxHeartbeats 1000000 in
theorem publics_c {sh : List UInt8 → List UInt8} (hs : Sh sh) (A : Option Addr) (n c : Nat) (seed : List UInt8) (hn : n ≤ 1000) (m : Nat) (hm : m ≤ 1000) (u : Int) (D : Gh) (w : World) (hk : Keeps D w) (hT : Tab D) (hb : BS D (.slice A n c) seed) :
    Calls Tryd.prog 66 #[keyV A n c m u] w fun e w' => ∃ A' c' D', e = .returned (.slice A' m c') ∧ Grow w D w' D' ∧ DS D' (.slice A' m c') (keysF (tagB sh) seed m) := by
  have hB := Box.new2 hk rfl 45 #[.slice A n c, .int .i64 m, .int .i64 u]
  have hk0 := hk.alloc (.cells #[.slice A n c, .int .i64 m, .int .i64 u] 45)
  have hbel0 : Below w.heap.size w (w.alloc (.cells #[.slice A n c, .int .i64 m, .int .i64 u] 45)) := (by repeat (first | (with_reducible exact Below.refl _ _) | (with_reducible refine Below.drew ?_) | (with_reducible refine belowDrewN ?_ _) | (with_reducible refine belowAlloc ?_ _) | ((with_reducible refine belowSet2 ?_ ?_); omega) | (with_reducible assumption) | (with_reducible refine belowVia (by assumption) ?_) | (with_reducible refine belowVia (Grow.below (by assumption)) ?_)))
  have hown0 : (w.alloc (.cells #[.slice A n c, .int .i64 m, .int .i64 u] 45)).ownsRow (w.alloc (.cells #[.slice A n c, .int .i64 m, .int .i64 u] 45)).heap.size 26 32 (.slice none 0 0) 0 (flat []) := World.ownsRow_nil _ _ _ _
  have q0 := hB.cell 0
  have q1 := hB.cell 1
  go_enter Tryd.func66, Tryd.ntmps66
  go_wp2_with fail
  generalize w.alloc (.cells #[.slice A n c, .int .i64 m, .int .i64 u] 45) = w0 at *
  clear q0 q1
  go_loopw [2, 6] (fun p y wr => ∃ (k : Nat) (Ak : Option Addr) (ck : Nat), k ≤ m ∧ p = .slice Ak k ck ∧ y = .int .i64 k ∧ wr.ownsRow w0.heap.size 26 32 (.slice Ak k ck) k (flat ((keysF (tagB sh) seed m).take k)) ∧ Grow w0 D wr D) (fun _ y _ => m - (intOf y).toNat)
  case atStart => exact ⟨0, none, 0, by omega, rfl, rfl, hown0, Grow.refl hk0⟩
  case round =>
    clear hown0
    obtain ⟨k, Ak, ck, hkm, rfl, rfl, hown, hG⟩ := hrel
    by_cases hlt : k < m
    · have g1 : (k : Int) < (m : Int) := by omega
      have hkr := hG.keeps
      have hBr := hB.below hG.below hB.lt
      have q0 := hBr.cell 0
      have HONE := Lib.hid (fun W hk => one83_c hs (.agg #[.slice A n c, .int .i64 k]) (endsF (tagB sh) seed k) (endsF_len _ _ _) (fun j hj => by rw [endsF_at _ _ _ _ hj]; exact adv_len hs _ _ _ _ _ (hs.len _)) D W hk hT (fun j W' hj hk' => by rw [endsF_at _ _ _ _ hj]; exact end_c hs A n c seed hn k j D W' hk' hT hb))
      have HTK := Lib.hid (keysF_take (tagB sh) seed m k hlt)
      have hK32 := Lib.hid (show (keyF (tagB sh) seed k).length = 32 from hs.len _)
      rw [show oneF (tagB sh) (endsF (tagB sh) seed k) = keyF (tagB sh) seed k from rfl, dg_darr _ hK32.out] at HONE
      generalize keyF (tagB sh) seed k = r at *
      have hs32 : (darr r).size = 32 := darr_size r (by rw [hK32.out]; omega)
      have hfz := foldz r hK32.out
      go_wp2_with fail
      refine (HONE.out _ hkr).mono ?_
      rintro e w1 ⟨rfl, hb1⟩
      obtain ⟨A5, c5, w5, hrun5, hown5, hG5⟩ := app_step r hK32.out hk0 hown hG hb1 (by omega)
      rw [← HTK.out] at hown5
      have HOWN5 := Lib.hid hown5
      have HG5 := Lib.hid hG5
      clear hown hG hown5 hG5 HTK HONE q0 hBr hkr
      go_wp2_with (at_builtin; refine Lib.wpList_append_run _ rfl _ _ 30 30 rfl _ _ rfl rfl _ _ hrun5 ?_)
      go_roundw
      case rel => exact ⟨k + 1, A5, c5, by omega, rfl, by go_num, HOWN5.out, HG5.out⟩
      case measure => simp [intOf]; omega
    · obtain rfl : k = m := by omega
      have hl := keysF_len (tagB sh) seed k
      rw [show (keysF (tagB sh) seed k).take k = keysF (tagB sh) seed k from List.take_of_length_le (by omega)] at hown
      obtain ⟨D2, hG2, _, hs2, _⟩ := hG.pubN hown (Nat.le_refl _) (fun g h => hk0.offNew (hown.lt g h).1)
      have HP := Lib.hid (show ∃ A' c' D', Value.slice Ak k ck = .slice A' k c' ∧ Grow w D wr D' ∧ DS D' (.slice A' k c') (keysF (tagB sh) seed k) from ⟨Ak, ck, D2, rfl, (Grow.of_below hk hbel0).trans hG2, keysF_all hs seed k, by rw [hl]; exact hs2⟩)
      clear hown hl hG hG2 hs2
      have g1 : ¬ ((k : Int) < (k : Int)) := by omega
      go_wp2
      go_ret
      obtain ⟨A', c', D', e, h2⟩ := HP.out
      exact ⟨A', c', congrArg Ending.returned e, D', h2⟩
set_option maxRecDepth 100000 in
set_option maxHeartbeats 1000000 in
theorem public_ok {sh : List UInt8 → List UInt8} (hs : Sh sh) (A : Option Addr) (n c : Nat) (seed : List UInt8) (m : Nat) (u : Int) (D : Gh) (w : World) (hk : Keeps D w) (hT : Tab D) (hb : BS D (.slice A n c) seed) (hv : validF n m u = true) :
    Calls Tryd.prog 44 #[keyV A n c m u] w fun e w' => e = .returned (.tuple #[dg (treeF (tagB sh) (keysF (tagB sh) seed m)), .int .i64 0]) ∧ Below w.heap.size w w' := by
  have hvv := of_decide_eq_true hv
  obtain ⟨h1, h2, h3, h4, h5, h6⟩ := hvv
  have HV := Lib.hid hv
  clear hv
  have hB0 := (Box.new2 hk rfl 45 #[.slice A n c, .int .i64 m, .int .i64 u]).alloc (.cells (darr []) 26)
  have hB2 := Box.new2 (hk.alloc (.cells #[.slice A n c, .int .i64 m, .int .i64 u] 45)) (g := w.heap.size + 1) (by simp) 26 (darr [])
  have hG0 : Grow w D ((w.alloc (.cells #[.slice A n c, .int .i64 m, .int .i64 u] 45)).alloc (.cells (darr []) 26)) D := ((Grow.refl hk).alloc _).alloc _
  have q0 := hB0.cell 0
  have q1 := hB0.cell 1
  have q2 := hB0.cell 2
  have HVC := Lib.hid (fun W => valid_c A n c (by unfold maxLen; omega) m u W)
  go_enter Tryd.func44, Tryd.ntmps44
  go_wp2_with fail
  refine (HVC.out _).mono ?_
  rintro e w1 ⟨rfl, hb1⟩
  rw [HV.out]
  have hG1 := hG0.trans (Grow.of_below hG0.keeps hb1)
  have hB0a := hB0.below hb1 hB0.lt
  have hB2a := hB2.below hb1 hB2.lt
  clear q0 q1 q2 hB0 hB2 hb1 hG0
  have q0 := hB0a.cell 0
  have q1 := hB0a.cell 1
  have q2 := hB0a.cell 2
  go_wp2_with fail
  refine (publics_c hs A n c seed (by omega) m (by omega) u D w1 hG1.keeps hT hb).mono ?_
  rintro e w2 ⟨A2, c2, D2, rfl, hG2, hds⟩
  have hG3 := hG1.trans hG2
  have hB2b := hB2a.grow hG2
  clear q0 q1 q2 hB0a hB2a hG1
  have HTC := Lib.hid (fun W hk => tree_c hs _ _ _ _ D2 W hk (hT.le hG3.le) hds (by omega))
  have hr32 := Lib.hid (treeF_len hs (keysF (tagB sh) seed m))
  generalize hr : treeF (tagB sh) (keysF (tagB sh) seed m) = r at *
  have HR := Lib.hid hr
  clear hr
  rw [dg_darr r hr32.out] at HTC
  have hsr : (darr []).size = (darr r).size := by rw [darr_size _ (by simp), darr_size _ (by rw [hr32.out]; omega)]
  have hsr26 := sz26 r hr32.out
  go_wp2_with fail
  refine (HTC.out _ hG3.keeps).mono ?_
  rintro e w3 ⟨rfl, hb3⟩
  have hB2f := hB2b.below hb3 hB2b.lt
  have hbel3 := belowVia hb3 hG3.below
  go_wp2_with (first | ((with_reducible show wpList _ _ _ ((⟨_, .store 26 _ _, _, _, _, _⟩ : Oper) :: _) _ _); refine wpList_store_row rfl 26 _ _ rfl (w.heap.size + 1) (darr r) rfl rfl 26 (darr []) (hB2f.heap) (hsr26) (hsr) (darr_one _) ?_))
  refine bodyPost_ret (results_cell_tmp rfl _ _ _ _ _ _ _ _ rfl rfl (hB2f.setRow _).heap Tryd.underlying26 rfl hsr26) rfl ⟨?_, belowRow hbel3 (by omega) _⟩
  rw [HR.out, dg_darr r hr32.out]
  rfl
set_option maxRecDepth 100000 in
set_option maxHeartbeats 1000000 in
theorem public_bad (A : Option Addr) (n c : Nat) (hn : n ≤ maxLen) (m u : Int) (D : Gh) (w : World) (hk : Keeps D w) (hv : validF n m u = false) :
    Calls Tryd.prog 44 #[keyV A n c m u] w fun e w' => e = .returned (.tuple #[dg zeros32, .int .i64 320]) ∧ Below w.heap.size w w' := by
  have HV := Lib.hid hv
  clear hv
  have hB0 := (Box.new2 hk rfl 45 #[.slice A n c, .int .i64 m, .int .i64 u]).alloc (.cells (darr []) 26)
  have hB2 := Box.new2 (hk.alloc (.cells #[.slice A n c, .int .i64 m, .int .i64 u] 45)) (g := w.heap.size + 1) (by simp) 26 (darr [])
  have hG0 : Grow w D ((w.alloc (.cells #[.slice A n c, .int .i64 m, .int .i64 u] 45)).alloc (.cells (darr []) 26)) D := ((Grow.refl hk).alloc _).alloc _
  have q0 := hB0.cell 0
  have q1 := hB0.cell 1
  have q2 := hB0.cell 2
  have HVC := Lib.hid (fun W => valid_c A n c hn m u W)
  go_enter Tryd.func44, Tryd.ntmps44
  go_wp2_with fail
  refine (HVC.out _).mono ?_
  rintro e w1 ⟨rfl, hb1⟩
  rw [HV.out]
  have hB2f := hB2.below hb1 hB2.lt
  have hbel3 := belowVia hb1 hG0.below
  have hz26 := sz26 zeros32 rfl
  rw [← darr_zero] at hz26
  go_wp2_with (refine wpList_store_row rfl 26 _ _ rfl (w.heap.size + 1) (darr []) rfl rfl 26 (darr []) hB2f.heap hz26 rfl (darr_one _) ?_)
  refine bodyPost_ret (results_cell_tmp rfl _ _ _ _ _ _ _ _ rfl rfl (hB2f.setRow _).heap Tryd.underlying26 rfl hz26) rfl ⟨?_, belowRow hbel3 (by omega) _⟩
  rw [dg_darr zeros32 rfl, ← darr_zero]
  rfl
end Go.Proofs.YtohknemfcohhfaaDoor
