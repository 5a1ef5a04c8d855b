/- TopParsed, part 43. -/
import Derived.Test.YticgonfhjcaohaaGreatDoorP40
set_option maxRecDepth 100000
set_option maxHeartbeats 32000000
namespace Go.Proofs.YticgonfhjcaohaaGreatDoor
open Go.RowKit Go.VT _root_.Go.Proofs.Tryz
theorem ow30_typ(w:World)(D:Gh)[hk:Keeps D w][TW w](op:Bool)(x:Bs)(c:C)(a1 a2:Option Addr)(n1 m1 n2 m2:Nat)(rl:Value)(hrl:∃a n m,rl=.slice a n m)(hx:x.length≤100)(hv0:∀w',Keeps D w'→TW w'→Calls prog 82 #[cv c (.slice a2 n2 m2)] w' fun e w''=>e=.returned (.string (str (cW c)))∧Cll none w' w'')(hlen:(aW ⟨op,.typ x c⟩).length≤140737488355328):
  Calls prog 30 #[.agg (axc ⟨op,.typ x c⟩ (.slice a1 n1 m1) (.slice a2 n2 m2) rl)] w fun e w'=>e=.returned (.string (str (aW ⟨op,.typ x c⟩)))∧Cll none w w':=by
 obtain⟨a3,n3,m3,rfl⟩:=hrl
 have G0:=hid hv0
 clear hv0
 have HL:=hid hlen
 obtain⟨k0,hk0⟩:∃n,n=(preN op).length:=⟨_,rfl⟩
 have hk1:k0≤1:=by rw[hk0];cases op<;>simp[preN]
 have HK0:=hid hk0
 obtain⟨W,hW⟩:∃W,W=w.alloc (.cells (axc ⟨op,.typ x c⟩ (.slice a1 n1 m1) (.slice a2 n2 m2) (.slice a3 n3 m3)) 34):=⟨_,rfl⟩
 have hB2:Box W D w.heap.size 34 (axc ⟨op,.typ x c⟩ (.slice a1 n1 m1) (.slice a2 n2 m2) (.slice a3 n3 m3)):=by rw[hW];exact ii
 have hG:Gr none w D W D:=by rw[hW];exact ii
 have hsw:W.heap.size=w.heap.size+1:=by rw[hW];simp
 have HW:=hid hW
 clear hlen hk0 hW
 have c1:W.cell? ⟨w.heap.size,1,none⟩=some (.bool op):=(hB2.held (i:=1) rfl).1
 have:=hG.keeps
 go_enter func30,ntmps30
 repeat((fail_if_success (with_reducible show Code.wp _ (Code.region 1 _ _) _ _ _));go_step)
 rw[←HW.out]
 repeat((fail_if_success (with_reducible show Code.wp _ (Code.seq (Code.region 3 _ _) _) _ _ _));go_step)
 go_cut [4]from 8 (fun v4 wx=>∃(a0:Option Addr)(c0:Nat),v4=.slice a0 k0 c0∧Gr none w D wx D∧Box wx D w.heap.size 34 (axc ⟨op,.typ x c⟩ (.slice a1 n1 m1) (.slice a2 n2 m2) (.slice a3 n3 m3))∧w.heap.size+1≤wx.heap.size∧VT.Own wx D (w.heap.size+1) 9 1 (.slice a0 k0 c0) k0 ((preN op).map fun s=>.string (str s)))
 case first=>
  have hO0:VT.Own W D (w.heap.size+1) 9 1 (.slice none 0 0) 0 []:=⟨⟨by simp,.inl ⟨rfl,rfl⟩⟩,⟨fun g h=>by cases h⟩⟩
  cases op
  ·obtain rfl:k0=0:=HK0.out
   go_wp2_with fail
   go_meet
   case rel=>exact⟨none,0,rfl,hG,hB2,by omega,hO0⟩
  ·obtain rfl:k0=1:=HK0.out
   go_wp2_with fail
   go_meet
   case rel=>have hn:=own_note W D (str noteW) (w.heap.size+1) (by omega);rw[hsw]at hn;have hg5:=hn.2;have hz5:=hn.2.size;exact⟨_,_,rfl,(ii:Gr none w D _ D),@Box.call _ _ D w.heap.size 34 _ none hn.2 hB2 ii,by rw[←hsw];exact hz5,hn.1⟩
 case rest=>
  obtain⟨a0,c0,rfl,hG,hB,hsz,hO⟩:=hcut
  have:=hG.keeps
  have hc0:Cll none w wc:=⟨hG.bl⟩
  have hTr:TW wc:=ii
  have l0:=hB.lt
  have z0:=Box.cell (h:=hB) 0
  have H0:=hid (name83_c x (by omega))
  have hne:NeX w.heap.size (Value.slice a0 k0 c0).ownBlock:=own_ne hO (Nat.lt_succ_self _)
  have hsub:=VT.Own.sub hO none (a:=w) (Nat.le_succ _)
  have hofx:OffX D (Value.slice a0 k0 c0).ownBlock:=⟨fun g hg=>hO.off.out g hg⟩
  have SH:∀W':World,Box W' D w.heap.size 34 (axc ⟨op,.typ x c⟩ (.slice a1 n1 m1) (.slice a2 n2 m2) (.slice a3 n3 m3))→(W'.cell? ⟨w.heap.size,14,none⟩=some (.string (str x))∧W'.cell? ⟨w.heap.size,7,none⟩=some (.int .i64 c.kind)∧W'.cell? ⟨w.heap.size,8,none⟩=some (.string (str c.nm))∧W'.cell? ⟨w.heap.size,9,none⟩=some (.int .i64 c.lo)∧W'.cell? ⟨w.heap.size,10,none⟩=some (.int .i64 c.hi)∧W'.cell? ⟨w.heap.size,11,none⟩=some (.slice a2 n2 m2)):=fun W' hb=>⟨(hb.held (i:=14) rfl).1,(hb.held (i:=7) rfl).1,(hb.held (i:=8) rfl).1,(hb.held (i:=9) rfl).1,(hb.held (i:=10) rfl).1,(hb.held (i:=11) rfl).1⟩
  have HSH:=hid SH
  clear SH
  have hq:=hid (aW_eq (x:=⟨op,.typ x c⟩) (xs:=preN op++[cW c,nameW x]) (args:=[cW c,nameW x]) rfl rfl (by simp) (by simp[join_cons,argsW]))
  go_wp2_with fail
  go_region_held3 (fun W'=>(W'.cell? ⟨w.heap.size,14,none⟩=some (.string (str x))∧W'.cell? ⟨w.heap.size,7,none⟩=some (.int .i64 c.kind)∧W'.cell? ⟨w.heap.size,8,none⟩=some (.string (str c.nm))∧W'.cell? ⟨w.heap.size,9,none⟩=some (.int .i64 c.lo)∧W'.cell? ⟨w.heap.size,10,none⟩=some (.int .i64 c.hi)∧W'.cell? ⟨w.heap.size,11,none⟩=some (.slice a2 n2 m2)))
   (first|(refine HSH.out _ ?_;exact ii;done)|go_keep)
   (first|(go_at_call 83;(first|((with_reducible show Calls _ 83 #[Value.string (str x)] _ _);refine(H0.out _).mono ?_));rintro e w1 ⟨rfl,rfl⟩)|(go_at_call 82;(first|((with_reducible show Calls _ 82 #[Value.agg #[Value.int IntKind.i64 c.kind,_,_,_,_]] _ _);refine(G0.out _ ii ii).mono ?_));rintro e wq ⟨rfl,hcq⟩;have hcqi:=hcq;have hsq:=hcq.size;try simp at hsq)|(refine step_append_N (v:=.slice a0 k0 c0) (D:=D) (news:=[cW c,nameW x].map fun s=>.string (str s)) (by rfl) (.tmp 105) (.tmp 112) 32 (by rfl) underlying32 el9 (by rfl) (h:=by exact ii) (hy:=by rfl) (hl:=rfl) (hc:=fun j u e=>by rw[Nat.zero_add];exact(Box.cell (h:=Box.newAt (D:=D) (by simp)) j).trans (by simpa using e)) (h1:=own_strs_one _) (h63:=by unfold maxLen;omega) (hbytes:=by omega) (hB:=by simp;omega) ?_;intro v5 w5 hO5 hc5;have hc5i:=hc5))
  all_goals
   have hg5:Gr none w D w5 D:=ii
   have:=hg5.keeps
   go_wp2_with fail
   refine(call84_S o_typ (aW ⟨op,.typ x c⟩) (app_own hO5) (by omega) (by omega) hq.out HL.out).mono ?_
   rintro e w6 ⟨rfl,hc6⟩
   go_wp2_with fail
   go_ret
   exact⟨rfl,Bel.c⟩
theorem ow30_dom(w:World)(D:Gh)[hk:Keeps D w][TW w](op:Bool)(r:Bs)(c:C)(a1 a2:Option Addr)(n1 m1 n2 m2:Nat)(rl:Value)(hrl:∃a n m,rl=.slice a n m)(hr:r.length≤100)(hv0:∀w',Keeps D w'→TW w'→Calls prog 82 #[cv c (.slice a2 n2 m2)] w' fun e w''=>e=.returned (.string (str (cW c)))∧Cll none w' w'')(hlen:(aW ⟨op,.dom r c⟩).length≤140737488355328):
  Calls prog 30 #[.agg (axc ⟨op,.dom r c⟩ (.slice a1 n1 m1) (.slice a2 n2 m2) rl)] w fun e w'=>e=.returned (.string (str (aW ⟨op,.dom r c⟩)))∧Cll none w w':=by
 obtain⟨a3,n3,m3,rfl⟩:=hrl
 have G0:=hid hv0
 clear hv0
 have HL:=hid hlen
 obtain⟨k0,hk0⟩:∃n,n=(preN op).length:=⟨_,rfl⟩
 have hk1:k0≤1:=by rw[hk0];cases op<;>simp[preN]
 have HK0:=hid hk0
 obtain⟨W,hW⟩:∃W,W=w.alloc (.cells (axc ⟨op,.dom r c⟩ (.slice a1 n1 m1) (.slice a2 n2 m2) (.slice a3 n3 m3)) 34):=⟨_,rfl⟩
 have hB2:Box W D w.heap.size 34 (axc ⟨op,.dom r c⟩ (.slice a1 n1 m1) (.slice a2 n2 m2) (.slice a3 n3 m3)):=by rw[hW];exact ii
 have hG:Gr none w D W D:=by rw[hW];exact ii
 have hsw:W.heap.size=w.heap.size+1:=by rw[hW];simp
 have HW:=hid hW
 clear hlen hk0 hW
 have c1:W.cell? ⟨w.heap.size,1,none⟩=some (.bool op):=(hB2.held (i:=1) rfl).1
 have:=hG.keeps
 go_enter func30,ntmps30
 repeat((fail_if_success (with_reducible show Code.wp _ (Code.region 1 _ _) _ _ _));go_step)
 rw[←HW.out]
 repeat((fail_if_success (with_reducible show Code.wp _ (Code.seq (Code.region 3 _ _) _) _ _ _));go_step)
 go_cut [4]from 8 (fun v4 wx=>∃(a0:Option Addr)(c0:Nat),v4=.slice a0 k0 c0∧Gr none w D wx D∧Box wx D w.heap.size 34 (axc ⟨op,.dom r c⟩ (.slice a1 n1 m1) (.slice a2 n2 m2) (.slice a3 n3 m3))∧w.heap.size+1≤wx.heap.size∧VT.Own wx D (w.heap.size+1) 9 1 (.slice a0 k0 c0) k0 ((preN op).map fun s=>.string (str s)))
 case first=>
  have hO0:VT.Own W D (w.heap.size+1) 9 1 (.slice none 0 0) 0 []:=⟨⟨by simp,.inl ⟨rfl,rfl⟩⟩,⟨fun g h=>by cases h⟩⟩
  cases op
  ·obtain rfl:k0=0:=HK0.out
   go_wp2_with fail
   go_meet
   case rel=>exact⟨none,0,rfl,hG,hB2,by omega,hO0⟩
  ·obtain rfl:k0=1:=HK0.out
   go_wp2_with fail
   go_meet
   case rel=>have hn:=own_note W D (str noteW) (w.heap.size+1) (by omega);rw[hsw]at hn;have hg5:=hn.2;have hz5:=hn.2.size;exact⟨_,_,rfl,(ii:Gr none w D _ D),@Box.call _ _ D w.heap.size 34 _ none hn.2 hB2 ii,by rw[←hsw];exact hz5,hn.1⟩
 case rest=>
  obtain⟨a0,c0,rfl,hG,hB,hsz,hO⟩:=hcut
  have:=hG.keeps
  have hc0:Cll none w wc:=⟨hG.bl⟩
  have hTr:TW wc:=ii
  have l0:=hB.lt
  have z0:=Box.cell (h:=hB) 0
  have H0:=hid (name83_c r (by omega))
  have hne:NeX w.heap.size (Value.slice a0 k0 c0).ownBlock:=own_ne hO (Nat.lt_succ_self _)
  have hsub:=VT.Own.sub hO none (a:=w) (Nat.le_succ _)
  have hofx:OffX D (Value.slice a0 k0 c0).ownBlock:=⟨fun g hg=>hO.off.out g hg⟩
  have SH:∀W':World,Box W' D w.heap.size 34 (axc ⟨op,.dom r c⟩ (.slice a1 n1 m1) (.slice a2 n2 m2) (.slice a3 n3 m3))→(W'.cell? ⟨w.heap.size,13,none⟩=some (.string (str r))∧W'.cell? ⟨w.heap.size,7,none⟩=some (.int .i64 c.kind)∧W'.cell? ⟨w.heap.size,8,none⟩=some (.string (str c.nm))∧W'.cell? ⟨w.heap.size,9,none⟩=some (.int .i64 c.lo)∧W'.cell? ⟨w.heap.size,10,none⟩=some (.int .i64 c.hi)∧W'.cell? ⟨w.heap.size,11,none⟩=some (.slice a2 n2 m2)):=fun W' hb=>⟨(hb.held (i:=13) rfl).1,(hb.held (i:=7) rfl).1,(hb.held (i:=8) rfl).1,(hb.held (i:=9) rfl).1,(hb.held (i:=10) rfl).1,(hb.held (i:=11) rfl).1⟩
  have HSH:=hid SH
  clear SH
  have hq:=hid (aW_eq (x:=⟨op,.dom r c⟩) (xs:=preN op++[nameW r,cW c]) (args:=[nameW r,cW c]) rfl rfl (by simp) (by simp[join_cons,argsW]))
  go_wp2_with fail
  go_region_held3 (fun W'=>(W'.cell? ⟨w.heap.size,13,none⟩=some (.string (str r))∧W'.cell? ⟨w.heap.size,7,none⟩=some (.int .i64 c.kind)∧W'.cell? ⟨w.heap.size,8,none⟩=some (.string (str c.nm))∧W'.cell? ⟨w.heap.size,9,none⟩=some (.int .i64 c.lo)∧W'.cell? ⟨w.heap.size,10,none⟩=some (.int .i64 c.hi)∧W'.cell? ⟨w.heap.size,11,none⟩=some (.slice a2 n2 m2)))
   (first|(refine HSH.out _ ?_;exact ii;done)|go_keep)
   (first|(go_at_call 83;(first|((with_reducible show Calls _ 83 #[Value.string (str r)] _ _);refine(H0.out _).mono ?_));rintro e w1 ⟨rfl,rfl⟩)|(go_at_call 82;(first|((with_reducible show Calls _ 82 #[Value.agg #[Value.int IntKind.i64 c.kind,_,_,_,_]] _ _);refine(G0.out _ ii ii).mono ?_));rintro e wq ⟨rfl,hcq⟩;have hcqi:=hcq;have hsq:=hcq.size;try simp at hsq)|(refine step_append_N (v:=.slice a0 k0 c0) (D:=D) (news:=[nameW r,cW c].map fun s=>.string (str s)) (by rfl) (.tmp 50) (.tmp 57) 32 (by rfl) underlying32 el9 (by rfl) (h:=by exact ii) (hy:=by rfl) (hl:=rfl) (hc:=fun j u e=>by rw[Nat.zero_add];exact(Box.cell (h:=Box.newAt (D:=D) (by simp)) j).trans (by simpa using e)) (h1:=own_strs_one _) (h63:=by unfold maxLen;omega) (hbytes:=by omega) (hB:=by simp;omega) ?_;intro v5 w5 hO5 hc5;have hc5i:=hc5))
  all_goals
   have hg5:Gr none w D w5 D:=ii
   have:=hg5.keeps
   go_wp2_with fail
   refine(call84_S o_dom (aW ⟨op,.dom r c⟩) (app_own hO5) (by omega) (by omega) hq.out HL.out).mono ?_
   rintro e w6 ⟨rfl,hc6⟩
   go_wp2_with fail
   go_ret
   exact⟨rfl,Bel.c⟩
theorem ow30_sub(w:World)(D:Gh)[hk:Keeps D w][TW w](op:Bool)(l c:C)(a1 a2:Option Addr)(n1 m1 n2 m2:Nat)(rl:Value)(hrl:∃a n m,rl=.slice a n m)(hv0:∀w',Keeps D w'→TW w'→Calls prog 82 #[cv l (.slice a1 n1 m1)] w' fun e w''=>e=.returned (.string (str (cW l)))∧Cll none w' w'')(hv1:∀w',Keeps D w'→TW w'→Calls prog 82 #[cv c (.slice a2 n2 m2)] w' fun e w''=>e=.returned (.string (str (cW c)))∧Cll none w' w'')(hlen:(aW ⟨op,.sub l c⟩).length≤140737488355328):
  Calls prog 30 #[.agg (axc ⟨op,.sub l c⟩ (.slice a1 n1 m1) (.slice a2 n2 m2) rl)] w fun e w'=>e=.returned (.string (str (aW ⟨op,.sub l c⟩)))∧Cll none w w':=by
 obtain⟨a3,n3,m3,rfl⟩:=hrl
 have G0:=hid hv0
 clear hv0
 have G1:=hid hv1
 clear hv1
 have HL:=hid hlen
 obtain⟨k0,hk0⟩:∃n,n=(preN op).length:=⟨_,rfl⟩
 have hk1:k0≤1:=by rw[hk0];cases op<;>simp[preN]
 have HK0:=hid hk0
 obtain⟨W,hW⟩:∃W,W=w.alloc (.cells (axc ⟨op,.sub l c⟩ (.slice a1 n1 m1) (.slice a2 n2 m2) (.slice a3 n3 m3)) 34):=⟨_,rfl⟩
 have hB2:Box W D w.heap.size 34 (axc ⟨op,.sub l c⟩ (.slice a1 n1 m1) (.slice a2 n2 m2) (.slice a3 n3 m3)):=by rw[hW];exact ii
 have hG:Gr none w D W D:=by rw[hW];exact ii
 have hsw:W.heap.size=w.heap.size+1:=by rw[hW];simp
 have HW:=hid hW
 clear hlen hk0 hW
 have c1:W.cell? ⟨w.heap.size,1,none⟩=some (.bool op):=(hB2.held (i:=1) rfl).1
 have:=hG.keeps
 go_enter func30,ntmps30
 repeat((fail_if_success (with_reducible show Code.wp _ (Code.region 1 _ _) _ _ _));go_step)
 rw[←HW.out]
 repeat((fail_if_success (with_reducible show Code.wp _ (Code.seq (Code.region 3 _ _) _) _ _ _));go_step)
 go_cut [4]from 8 (fun v4 wx=>∃(a0:Option Addr)(c0:Nat),v4=.slice a0 k0 c0∧Gr none w D wx D∧Box wx D w.heap.size 34 (axc ⟨op,.sub l c⟩ (.slice a1 n1 m1) (.slice a2 n2 m2) (.slice a3 n3 m3))∧w.heap.size+1≤wx.heap.size∧VT.Own wx D (w.heap.size+1) 9 1 (.slice a0 k0 c0) k0 ((preN op).map fun s=>.string (str s)))
 case first=>
  have hO0:VT.Own W D (w.heap.size+1) 9 1 (.slice none 0 0) 0 []:=⟨⟨by simp,.inl ⟨rfl,rfl⟩⟩,⟨fun g h=>by cases h⟩⟩
  cases op
  ·obtain rfl:k0=0:=HK0.out
   go_wp2_with fail
   go_meet
   case rel=>exact⟨none,0,rfl,hG,hB2,by omega,hO0⟩
  ·obtain rfl:k0=1:=HK0.out
   go_wp2_with fail
   go_meet
   case rel=>have hn:=own_note W D (str noteW) (w.heap.size+1) (by omega);rw[hsw]at hn;have hg5:=hn.2;have hz5:=hn.2.size;exact⟨_,_,rfl,(ii:Gr none w D _ D),@Box.call _ _ D w.heap.size 34 _ none hn.2 hB2 ii,by rw[←hsw];exact hz5,hn.1⟩
 case rest=>
  obtain⟨a0,c0,rfl,hG,hB,hsz,hO⟩:=hcut
  have:=hG.keeps
  have hc0:Cll none w wc:=⟨hG.bl⟩
  have hTr:TW wc:=ii
  have l0:=hB.lt
  have z0:=Box.cell (h:=hB) 0
  have hne:NeX w.heap.size (Value.slice a0 k0 c0).ownBlock:=own_ne hO (Nat.lt_succ_self _)
  have hsub:=VT.Own.sub hO none (a:=w) (Nat.le_succ _)
  have hofx:OffX D (Value.slice a0 k0 c0).ownBlock:=⟨fun g hg=>hO.off.out g hg⟩
  have SH:∀W':World,Box W' D w.heap.size 34 (axc ⟨op,.sub l c⟩ (.slice a1 n1 m1) (.slice a2 n2 m2) (.slice a3 n3 m3))→(W'.cell? ⟨w.heap.size,2,none⟩=some (.int .i64 l.kind)∧W'.cell? ⟨w.heap.size,3,none⟩=some (.string (str l.nm))∧W'.cell? ⟨w.heap.size,4,none⟩=some (.int .i64 l.lo)∧W'.cell? ⟨w.heap.size,5,none⟩=some (.int .i64 l.hi)∧W'.cell? ⟨w.heap.size,6,none⟩=some (.slice a1 n1 m1)∧W'.cell? ⟨w.heap.size,7,none⟩=some (.int .i64 c.kind)∧W'.cell? ⟨w.heap.size,8,none⟩=some (.string (str c.nm))∧W'.cell? ⟨w.heap.size,9,none⟩=some (.int .i64 c.lo)∧W'.cell? ⟨w.heap.size,10,none⟩=some (.int .i64 c.hi)∧W'.cell? ⟨w.heap.size,11,none⟩=some (.slice a2 n2 m2)):=fun W' hb=>⟨(hb.held (i:=2) rfl).1,(hb.held (i:=3) rfl).1,(hb.held (i:=4) rfl).1,(hb.held (i:=5) rfl).1,(hb.held (i:=6) rfl).1,(hb.held (i:=7) rfl).1,(hb.held (i:=8) rfl).1,(hb.held (i:=9) rfl).1,(hb.held (i:=10) rfl).1,(hb.held (i:=11) rfl).1⟩
  have HSH:=hid SH
  clear SH
  have hq:=hid (aW_eq (x:=⟨op,.sub l c⟩) (xs:=preN op++[cW l,cW c]) (args:=[cW l,cW c]) rfl rfl (by simp) (by simp[join_cons,argsW]))
  go_wp2_with fail
  go_region_held3 (fun W'=>(W'.cell? ⟨w.heap.size,2,none⟩=some (.int .i64 l.kind)∧W'.cell? ⟨w.heap.size,3,none⟩=some (.string (str l.nm))∧W'.cell? ⟨w.heap.size,4,none⟩=some (.int .i64 l.lo)∧W'.cell? ⟨w.heap.size,5,none⟩=some (.int .i64 l.hi)∧W'.cell? ⟨w.heap.size,6,none⟩=some (.slice a1 n1 m1)∧W'.cell? ⟨w.heap.size,7,none⟩=some (.int .i64 c.kind)∧W'.cell? ⟨w.heap.size,8,none⟩=some (.string (str c.nm))∧W'.cell? ⟨w.heap.size,9,none⟩=some (.int .i64 c.lo)∧W'.cell? ⟨w.heap.size,10,none⟩=some (.int .i64 c.hi)∧W'.cell? ⟨w.heap.size,11,none⟩=some (.slice a2 n2 m2)))
   (first|(refine HSH.out _ ?_;exact ii;done)|go_keep)
   (first|(go_at_call 82;(first|((with_reducible show Calls _ 82 #[Value.agg #[Value.int IntKind.i64 l.kind,_,_,_,_]] _ _);refine(G0.out _ ii ii).mono ?_)|((with_reducible show Calls _ 82 #[Value.agg #[Value.int IntKind.i64 c.kind,_,_,_,_]] _ _);refine(G1.out _ ii ii).mono ?_));rintro e wq ⟨rfl,hcq⟩;have hcqi:=hcq;have hsq:=hcq.size;try simp at hsq)|(refine step_append_N (v:=.slice a0 k0 c0) (D:=D) (news:=[cW l,cW c].map fun s=>.string (str s)) (by rfl) (.tmp 17) (.tmp 24) 32 (by rfl) underlying32 el9 (by rfl) (h:=by exact ii) (hy:=by rfl) (hl:=rfl) (hc:=fun j u e=>by rw[Nat.zero_add];exact(Box.cell (h:=Box.newAt (D:=D) (by simp)) j).trans (by simpa using e)) (h1:=own_strs_one _) (h63:=by unfold maxLen;omega) (hbytes:=by omega) (hB:=by simp;omega) ?_;intro v5 w5 hO5 hc5;have hc5i:=hc5))
  all_goals
   have hg5:Gr none w D w5 D:=ii
   have:=hg5.keeps
   go_wp2_with fail
   refine(call84_S o_sub (aW ⟨op,.sub l c⟩) (app_own hO5) (by omega) (by omega) hq.out HL.out).mono ?_
   rintro e w6 ⟨rfl,hc6⟩
   go_wp2_with fail
   go_ret
   exact⟨rfl,Bel.c⟩
theorem ow30_equiv(w:World)(D:Gh)[hk:Keeps D w][TW w](op:Bool)(l c:C)(a1 a2:Option Addr)(n1 m1 n2 m2:Nat)(rl:Value)(hrl:∃a n m,rl=.slice a n m)(hv0:∀w',Keeps D w'→TW w'→Calls prog 82 #[cv l (.slice a1 n1 m1)] w' fun e w''=>e=.returned (.string (str (cW l)))∧Cll none w' w'')(hv1:∀w',Keeps D w'→TW w'→Calls prog 82 #[cv c (.slice a2 n2 m2)] w' fun e w''=>e=.returned (.string (str (cW c)))∧Cll none w' w'')(hlen:(aW ⟨op,.equiv l c⟩).length≤140737488355328):
  Calls prog 30 #[.agg (axc ⟨op,.equiv l c⟩ (.slice a1 n1 m1) (.slice a2 n2 m2) rl)] w fun e w'=>e=.returned (.string (str (aW ⟨op,.equiv l c⟩)))∧Cll none w w':=by
 obtain⟨a3,n3,m3,rfl⟩:=hrl
 have G0:=hid hv0
 clear hv0
 have G1:=hid hv1
 clear hv1
 have HL:=hid hlen
 obtain⟨k0,hk0⟩:∃n,n=(preN op).length:=⟨_,rfl⟩
 have hk1:k0≤1:=by rw[hk0];cases op<;>simp[preN]
 have HK0:=hid hk0
 obtain⟨W,hW⟩:∃W,W=w.alloc (.cells (axc ⟨op,.equiv l c⟩ (.slice a1 n1 m1) (.slice a2 n2 m2) (.slice a3 n3 m3)) 34):=⟨_,rfl⟩
 have hB2:Box W D w.heap.size 34 (axc ⟨op,.equiv l c⟩ (.slice a1 n1 m1) (.slice a2 n2 m2) (.slice a3 n3 m3)):=by rw[hW];exact ii
 have hG:Gr none w D W D:=by rw[hW];exact ii
 have hsw:W.heap.size=w.heap.size+1:=by rw[hW];simp
 have HW:=hid hW
 clear hlen hk0 hW
 have c1:W.cell? ⟨w.heap.size,1,none⟩=some (.bool op):=(hB2.held (i:=1) rfl).1
 have:=hG.keeps
 go_enter func30,ntmps30
 repeat((fail_if_success (with_reducible show Code.wp _ (Code.region 1 _ _) _ _ _));go_step)
 rw[←HW.out]
 repeat((fail_if_success (with_reducible show Code.wp _ (Code.seq (Code.region 3 _ _) _) _ _ _));go_step)
 go_cut [4]from 8 (fun v4 wx=>∃(a0:Option Addr)(c0:Nat),v4=.slice a0 k0 c0∧Gr none w D wx D∧Box wx D w.heap.size 34 (axc ⟨op,.equiv l c⟩ (.slice a1 n1 m1) (.slice a2 n2 m2) (.slice a3 n3 m3))∧w.heap.size+1≤wx.heap.size∧VT.Own wx D (w.heap.size+1) 9 1 (.slice a0 k0 c0) k0 ((preN op).map fun s=>.string (str s)))
 case first=>
  have hO0:VT.Own W D (w.heap.size+1) 9 1 (.slice none 0 0) 0 []:=⟨⟨by simp,.inl ⟨rfl,rfl⟩⟩,⟨fun g h=>by cases h⟩⟩
  cases op
  ·obtain rfl:k0=0:=HK0.out
   go_wp2_with fail
   go_meet
   case rel=>exact⟨none,0,rfl,hG,hB2,by omega,hO0⟩
  ·obtain rfl:k0=1:=HK0.out
   go_wp2_with fail
   go_meet
   case rel=>have hn:=own_note W D (str noteW) (w.heap.size+1) (by omega);rw[hsw]at hn;have hg5:=hn.2;have hz5:=hn.2.size;exact⟨_,_,rfl,(ii:Gr none w D _ D),@Box.call _ _ D w.heap.size 34 _ none hn.2 hB2 ii,by rw[←hsw];exact hz5,hn.1⟩
 case rest=>
  obtain⟨a0,c0,rfl,hG,hB,hsz,hO⟩:=hcut
  have:=hG.keeps
  have hc0:Cll none w wc:=⟨hG.bl⟩
  have hTr:TW wc:=ii
  have l0:=hB.lt
  have z0:=Box.cell (h:=hB) 0
  have hne:NeX w.heap.size (Value.slice a0 k0 c0).ownBlock:=own_ne hO (Nat.lt_succ_self _)
  have hsub:=VT.Own.sub hO none (a:=w) (Nat.le_succ _)
  have hofx:OffX D (Value.slice a0 k0 c0).ownBlock:=⟨fun g hg=>hO.off.out g hg⟩
  have SH:∀W':World,Box W' D w.heap.size 34 (axc ⟨op,.equiv l c⟩ (.slice a1 n1 m1) (.slice a2 n2 m2) (.slice a3 n3 m3))→(W'.cell? ⟨w.heap.size,2,none⟩=some (.int .i64 l.kind)∧W'.cell? ⟨w.heap.size,3,none⟩=some (.string (str l.nm))∧W'.cell? ⟨w.heap.size,4,none⟩=some (.int .i64 l.lo)∧W'.cell? ⟨w.heap.size,5,none⟩=some (.int .i64 l.hi)∧W'.cell? ⟨w.heap.size,6,none⟩=some (.slice a1 n1 m1)∧W'.cell? ⟨w.heap.size,7,none⟩=some (.int .i64 c.kind)∧W'.cell? ⟨w.heap.size,8,none⟩=some (.string (str c.nm))∧W'.cell? ⟨w.heap.size,9,none⟩=some (.int .i64 c.lo)∧W'.cell? ⟨w.heap.size,10,none⟩=some (.int .i64 c.hi)∧W'.cell? ⟨w.heap.size,11,none⟩=some (.slice a2 n2 m2)):=fun W' hb=>⟨(hb.held (i:=2) rfl).1,(hb.held (i:=3) rfl).1,(hb.held (i:=4) rfl).1,(hb.held (i:=5) rfl).1,(hb.held (i:=6) rfl).1,(hb.held (i:=7) rfl).1,(hb.held (i:=8) rfl).1,(hb.held (i:=9) rfl).1,(hb.held (i:=10) rfl).1,(hb.held (i:=11) rfl).1⟩
  have HSH:=hid SH
  clear SH
  have hq:=hid (aW_eq (x:=⟨op,.equiv l c⟩) (xs:=preN op++[cW l,cW c]) (args:=[cW l,cW c]) rfl rfl (by simp) (by simp[join_cons,argsW]))
  go_wp2_with fail
  go_region_held3 (fun W'=>(W'.cell? ⟨w.heap.size,2,none⟩=some (.int .i64 l.kind)∧W'.cell? ⟨w.heap.size,3,none⟩=some (.string (str l.nm))∧W'.cell? ⟨w.heap.size,4,none⟩=some (.int .i64 l.lo)∧W'.cell? ⟨w.heap.size,5,none⟩=some (.int .i64 l.hi)∧W'.cell? ⟨w.heap.size,6,none⟩=some (.slice a1 n1 m1)∧W'.cell? ⟨w.heap.size,7,none⟩=some (.int .i64 c.kind)∧W'.cell? ⟨w.heap.size,8,none⟩=some (.string (str c.nm))∧W'.cell? ⟨w.heap.size,9,none⟩=some (.int .i64 c.lo)∧W'.cell? ⟨w.heap.size,10,none⟩=some (.int .i64 c.hi)∧W'.cell? ⟨w.heap.size,11,none⟩=some (.slice a2 n2 m2)))
   (first|(refine HSH.out _ ?_;exact ii;done)|go_keep)
   (first|(go_at_call 82;(first|((with_reducible show Calls _ 82 #[Value.agg #[Value.int IntKind.i64 l.kind,_,_,_,_]] _ _);refine(G0.out _ ii ii).mono ?_)|((with_reducible show Calls _ 82 #[Value.agg #[Value.int IntKind.i64 c.kind,_,_,_,_]] _ _);refine(G1.out _ ii ii).mono ?_));rintro e wq ⟨rfl,hcq⟩;have hcqi:=hcq;have hsq:=hcq.size;try simp at hsq)|(refine step_append_N (v:=.slice a0 k0 c0) (D:=D) (news:=[cW l,cW c].map fun s=>.string (str s)) (by rfl) (.tmp 28) (.tmp 35) 32 (by rfl) underlying32 el9 (by rfl) (h:=by exact ii) (hy:=by rfl) (hl:=rfl) (hc:=fun j u e=>by rw[Nat.zero_add];exact(Box.cell (h:=Box.newAt (D:=D) (by simp)) j).trans (by simpa using e)) (h1:=own_strs_one _) (h63:=by unfold maxLen;omega) (hbytes:=by omega) (hB:=by simp;omega) ?_;intro v5 w5 hO5 hc5;have hc5i:=hc5))
  all_goals
   have hg5:Gr none w D w5 D:=ii
   have:=hg5.keeps
   go_wp2_with fail
   refine(call84_S o_equiv (aW ⟨op,.equiv l c⟩) (app_own hO5) (by omega) (by omega) hq.out HL.out).mono ?_
   rintro e w6 ⟨rfl,hc6⟩
   go_wp2_with fail
   go_ret
   exact⟨rfl,Bel.c⟩
theorem ow30_disj(w:World)(D:Gh)[hk:Keeps D w][TW w](op:Bool)(l c:C)(a1 a2:Option Addr)(n1 m1 n2 m2:Nat)(rl:Value)(hrl:∃a n m,rl=.slice a n m)(hv0:∀w',Keeps D w'→TW w'→Calls prog 82 #[cv l (.slice a1 n1 m1)] w' fun e w''=>e=.returned (.string (str (cW l)))∧Cll none w' w'')(hv1:∀w',Keeps D w'→TW w'→Calls prog 82 #[cv c (.slice a2 n2 m2)] w' fun e w''=>e=.returned (.string (str (cW c)))∧Cll none w' w'')(hlen:(aW ⟨op,.disj l c⟩).length≤140737488355328):
  Calls prog 30 #[.agg (axc ⟨op,.disj l c⟩ (.slice a1 n1 m1) (.slice a2 n2 m2) rl)] w fun e w'=>e=.returned (.string (str (aW ⟨op,.disj l c⟩)))∧Cll none w w':=by
 obtain⟨a3,n3,m3,rfl⟩:=hrl
 have G0:=hid hv0
 clear hv0
 have G1:=hid hv1
 clear hv1
 have HL:=hid hlen
 obtain⟨k0,hk0⟩:∃n,n=(preN op).length:=⟨_,rfl⟩
 have hk1:k0≤1:=by rw[hk0];cases op<;>simp[preN]
 have HK0:=hid hk0
 obtain⟨W,hW⟩:∃W,W=w.alloc (.cells (axc ⟨op,.disj l c⟩ (.slice a1 n1 m1) (.slice a2 n2 m2) (.slice a3 n3 m3)) 34):=⟨_,rfl⟩
 have hB2:Box W D w.heap.size 34 (axc ⟨op,.disj l c⟩ (.slice a1 n1 m1) (.slice a2 n2 m2) (.slice a3 n3 m3)):=by rw[hW];exact ii
 have hG:Gr none w D W D:=by rw[hW];exact ii
 have hsw:W.heap.size=w.heap.size+1:=by rw[hW];simp
 have HW:=hid hW
 clear hlen hk0 hW
 have c1:W.cell? ⟨w.heap.size,1,none⟩=some (.bool op):=(hB2.held (i:=1) rfl).1
 have:=hG.keeps
 go_enter func30,ntmps30
 repeat((fail_if_success (with_reducible show Code.wp _ (Code.region 1 _ _) _ _ _));go_step)
 rw[←HW.out]
 repeat((fail_if_success (with_reducible show Code.wp _ (Code.seq (Code.region 3 _ _) _) _ _ _));go_step)
 go_cut [4]from 8 (fun v4 wx=>∃(a0:Option Addr)(c0:Nat),v4=.slice a0 k0 c0∧Gr none w D wx D∧Box wx D w.heap.size 34 (axc ⟨op,.disj l c⟩ (.slice a1 n1 m1) (.slice a2 n2 m2) (.slice a3 n3 m3))∧w.heap.size+1≤wx.heap.size∧VT.Own wx D (w.heap.size+1) 9 1 (.slice a0 k0 c0) k0 ((preN op).map fun s=>.string (str s)))
 case first=>
  have hO0:VT.Own W D (w.heap.size+1) 9 1 (.slice none 0 0) 0 []:=⟨⟨by simp,.inl ⟨rfl,rfl⟩⟩,⟨fun g h=>by cases h⟩⟩
  cases op
  ·obtain rfl:k0=0:=HK0.out
   go_wp2_with fail
   go_meet
   case rel=>exact⟨none,0,rfl,hG,hB2,by omega,hO0⟩
  ·obtain rfl:k0=1:=HK0.out
   go_wp2_with fail
   go_meet
   case rel=>have hn:=own_note W D (str noteW) (w.heap.size+1) (by omega);rw[hsw]at hn;have hg5:=hn.2;have hz5:=hn.2.size;exact⟨_,_,rfl,(ii:Gr none w D _ D),@Box.call _ _ D w.heap.size 34 _ none hn.2 hB2 ii,by rw[←hsw];exact hz5,hn.1⟩
 case rest=>
  obtain⟨a0,c0,rfl,hG,hB,hsz,hO⟩:=hcut
  have:=hG.keeps
  have hc0:Cll none w wc:=⟨hG.bl⟩
  have hTr:TW wc:=ii
  have l0:=hB.lt
  have z0:=Box.cell (h:=hB) 0
  have hne:NeX w.heap.size (Value.slice a0 k0 c0).ownBlock:=own_ne hO (Nat.lt_succ_self _)
  have hsub:=VT.Own.sub hO none (a:=w) (Nat.le_succ _)
  have hofx:OffX D (Value.slice a0 k0 c0).ownBlock:=⟨fun g hg=>hO.off.out g hg⟩
  have SH:∀W':World,Box W' D w.heap.size 34 (axc ⟨op,.disj l c⟩ (.slice a1 n1 m1) (.slice a2 n2 m2) (.slice a3 n3 m3))→(W'.cell? ⟨w.heap.size,2,none⟩=some (.int .i64 l.kind)∧W'.cell? ⟨w.heap.size,3,none⟩=some (.string (str l.nm))∧W'.cell? ⟨w.heap.size,4,none⟩=some (.int .i64 l.lo)∧W'.cell? ⟨w.heap.size,5,none⟩=some (.int .i64 l.hi)∧W'.cell? ⟨w.heap.size,6,none⟩=some (.slice a1 n1 m1)∧W'.cell? ⟨w.heap.size,7,none⟩=some (.int .i64 c.kind)∧W'.cell? ⟨w.heap.size,8,none⟩=some (.string (str c.nm))∧W'.cell? ⟨w.heap.size,9,none⟩=some (.int .i64 c.lo)∧W'.cell? ⟨w.heap.size,10,none⟩=some (.int .i64 c.hi)∧W'.cell? ⟨w.heap.size,11,none⟩=some (.slice a2 n2 m2)):=fun W' hb=>⟨(hb.held (i:=2) rfl).1,(hb.held (i:=3) rfl).1,(hb.held (i:=4) rfl).1,(hb.held (i:=5) rfl).1,(hb.held (i:=6) rfl).1,(hb.held (i:=7) rfl).1,(hb.held (i:=8) rfl).1,(hb.held (i:=9) rfl).1,(hb.held (i:=10) rfl).1,(hb.held (i:=11) rfl).1⟩
  have HSH:=hid SH
  clear SH
  have hq:=hid (aW_eq (x:=⟨op,.disj l c⟩) (xs:=preN op++[cW l,cW c]) (args:=[cW l,cW c]) rfl rfl (by simp) (by simp[join_cons,argsW]))
  go_wp2_with fail
  go_region_held3 (fun W'=>(W'.cell? ⟨w.heap.size,2,none⟩=some (.int .i64 l.kind)∧W'.cell? ⟨w.heap.size,3,none⟩=some (.string (str l.nm))∧W'.cell? ⟨w.heap.size,4,none⟩=some (.int .i64 l.lo)∧W'.cell? ⟨w.heap.size,5,none⟩=some (.int .i64 l.hi)∧W'.cell? ⟨w.heap.size,6,none⟩=some (.slice a1 n1 m1)∧W'.cell? ⟨w.heap.size,7,none⟩=some (.int .i64 c.kind)∧W'.cell? ⟨w.heap.size,8,none⟩=some (.string (str c.nm))∧W'.cell? ⟨w.heap.size,9,none⟩=some (.int .i64 c.lo)∧W'.cell? ⟨w.heap.size,10,none⟩=some (.int .i64 c.hi)∧W'.cell? ⟨w.heap.size,11,none⟩=some (.slice a2 n2 m2)))
   (first|(refine HSH.out _ ?_;exact ii;done)|go_keep)
   (first|(go_at_call 82;(first|((with_reducible show Calls _ 82 #[Value.agg #[Value.int IntKind.i64 l.kind,_,_,_,_]] _ _);refine(G0.out _ ii ii).mono ?_)|((with_reducible show Calls _ 82 #[Value.agg #[Value.int IntKind.i64 c.kind,_,_,_,_]] _ _);refine(G1.out _ ii ii).mono ?_));rintro e wq ⟨rfl,hcq⟩;have hcqi:=hcq;have hsq:=hcq.size;try simp at hsq)|(refine step_append_N (v:=.slice a0 k0 c0) (D:=D) (news:=[cW l,cW c].map fun s=>.string (str s)) (by rfl) (.tmp 39) (.tmp 46) 32 (by rfl) underlying32 el9 (by rfl) (h:=by exact ii) (hy:=by rfl) (hl:=rfl) (hc:=fun j u e=>by rw[Nat.zero_add];exact(Box.cell (h:=Box.newAt (D:=D) (by simp)) j).trans (by simpa using e)) (h1:=own_strs_one _) (h63:=by unfold maxLen;omega) (hbytes:=by omega) (hB:=by simp;omega) ?_;intro v5 w5 hO5 hc5;have hc5i:=hc5))
  all_goals
   have hg5:Gr none w D w5 D:=ii
   have:=hg5.keeps
   go_wp2_with fail
   refine(call84_S o_disj (aW ⟨op,.disj l c⟩) (app_own hO5) (by omega) (by omega) hq.out HL.out).mono ?_
   rintro e w6 ⟨rfl,hc6⟩
   go_wp2_with fail
   go_ret
   exact⟨rfl,Bel.c⟩
end Go.Proofs.YticgonfhjcaohaaGreatDoor
