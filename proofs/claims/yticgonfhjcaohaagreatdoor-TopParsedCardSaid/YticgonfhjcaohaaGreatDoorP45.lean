/- TopParsed, part 45. -/
import Derived.Test.YticgonfhjcaohaaGreatDoorP43
set_option maxRecDepth 100000
set_option maxHeartbeats 32000000
namespace Go.Proofs.YticgonfhjcaohaaGreatDoor
open Go.RowKit Go.VT _root_.Go.Proofs.Tryz
theorem SV_first{D:Gh}{l:List Bs}{a:Option Addr}{n m:Nat}(h:SV D l (.slice a n m))(h0:0<l.length):∃b o,a=some ⟨b,o,none⟩∧∀j x,l[j]? =some x→D b (o+j)=some (.string (str x)):=by
 obtain⟨_,a',c,hv,_,_,_,h4⟩:=h
 cases hv
 obtain⟨b,o,rfl,hc⟩:=h4 h0
 exact⟨b,o,rfl,fun j x e=>hc j _ (by rw[List.getElem?_map,e];rfl)⟩
theorem ow30_rsub(w:World)(D:Gh)[hk:Keeps D w][TW w](op:Bool)(r s:Bs)(a1 a2:Option Addr)(n1 m1 n2 m2:Nat)(rl:Value)(hrl:∃a n m,rl=.slice a n m)(hr:r.length≤100)(hs:s.length≤100)(hS:SV D [r] rl)(hlen:(aW ⟨op,.rsub r s⟩).length≤140737488355328):
  Calls prog 30 #[.agg (axc ⟨op,.rsub r s⟩ (.slice a1 n1 m1) (.slice a2 n2 m2) rl)] w fun e w'=>e=.returned (.string (str (aW ⟨op,.rsub r s⟩)))∧Cll none w w':=by
 obtain⟨a3,n3,m3,rfl⟩:=hrl
 obtain rfl:n3=1:=(SV_len hS).1
 obtain⟨b,o,rfl,hD⟩:=SV_first hS (by simp)
 have hD0:D b o=some (.string (str r)):=hD 0 r rfl
 clear hD hS
 have HL:=hid hlen
 obtain⟨k0,hk0⟩:∃n,n=(preN op).length:=⟨_,rfl⟩
 have hk1:k0≤1:=by rw[hk0];cases op<;>simp[preN]
 have HK0:=hid hk0
 obtain⟨W,hW⟩:∃W,W=w.alloc (.cells (axc ⟨op,.rsub r s⟩ (.slice a1 n1 m1) (.slice a2 n2 m2) (.slice (some ⟨b,o,none⟩) 1 m3)) 34):=⟨_,rfl⟩
 have hB2:Box W D w.heap.size 34 (axc ⟨op,.rsub r s⟩ (.slice a1 n1 m1) (.slice a2 n2 m2) (.slice (some ⟨b,o,none⟩) 1 m3)):=by rw[hW];exact ii
 have hG:Gr none w D W D:=by rw[hW];exact ii
 have hsw:W.heap.size=w.heap.size+1:=by rw[hW];simp
 have HW:=hid hW
 clear hlen hk0 hW
 have c1:W.cell? ⟨w.heap.size,1,none⟩=some (.bool op):=(hB2.held (i:=1) rfl).1
 have:=hG.keeps
 go_enter func30,ntmps30
 repeat((fail_if_success (with_reducible show Code.wp _ (Code.region 1 _ _) _ _ _));go_step)
 rw[←HW.out]
 repeat((fail_if_success (with_reducible show Code.wp _ (Code.seq (Code.region 3 _ _) _) _ _ _));go_step)
 go_cut [4]from 8 (fun v4 wx=>∃(a0:Option Addr)(c0:Nat),v4=.slice a0 k0 c0∧Gr none w D wx D∧Box wx D w.heap.size 34 (axc ⟨op,.rsub r s⟩ (.slice a1 n1 m1) (.slice a2 n2 m2) (.slice (some ⟨b,o,none⟩) 1 m3))∧w.heap.size+1≤wx.heap.size∧VT.Own wx D (w.heap.size+1) 9 1 (.slice a0 k0 c0) k0 ((preN op).map fun s=>.string (str s)))
 case first=>
  have hO0:VT.Own W D (w.heap.size+1) 9 1 (.slice none 0 0) 0 []:=⟨⟨by simp,.inl ⟨rfl,rfl⟩⟩,⟨fun g h=>by cases h⟩⟩
  cases op
  ·obtain rfl:k0=0:=HK0.out
   go_wp2_with fail
   go_meet
   case rel=>exact⟨none,0,rfl,hG,hB2,by omega,hO0⟩
  ·obtain rfl:k0=1:=HK0.out
   go_wp2_with fail
   go_meet
   case rel=>have hn:=own_note W D (str noteW) (w.heap.size+1) (by omega);rw[hsw]at hn;have hg5:=hn.2;have hz5:=hn.2.size;exact⟨_,_,rfl,(ii:Gr none w D _ D),@Box.call _ _ D w.heap.size 34 _ none hn.2 hB2 ii,by rw[←hsw];exact hz5,hn.1⟩
 case rest=>
  obtain⟨a0,c0,rfl,hG,hB,hsz,hO⟩:=hcut
  have:=hG.keeps
  have hc0:Cll none w wc:=⟨hG.bl⟩
  have hTr:TW wc:=ii
  have l0:=hB.lt
  have z0:=Box.cell (h:=hB) 0
  have H0:=hid (name83_c r (by omega))
  have H1:=hid (name83_c s (by omega))
  have hne:NeX w.heap.size (Value.slice a0 k0 c0).ownBlock:=own_ne hO (Nat.lt_succ_self _)
  have hsub:=VT.Own.sub hO none (a:=w) (Nat.le_succ _)
  have hofx:OffX D (Value.slice a0 k0 c0).ownBlock:=⟨fun g hg=>hO.off.out g hg⟩
  have SH:∀W':World,Box W' D w.heap.size 34 (axc ⟨op,.rsub r s⟩ (.slice a1 n1 m1) (.slice a2 n2 m2) (.slice (some ⟨b,o,none⟩) 1 m3))→Keeps D W'→(W'.cell? ⟨w.heap.size,12,none⟩=some (.slice (some ⟨b,o,none⟩) 1 m3)∧W'.cell? ⟨b,o,none⟩=some (.string (str r))∧W'.cell? ⟨w.heap.size,13,none⟩=some (.string (str s))):=fun W' hb hk=>⟨(hb.held (i:=12) rfl).1,hk.out _ _ _ hD0,(hb.held (i:=13) rfl).1⟩
  have HSH:=hid SH
  clear SH
  have hq:=hid (aW_eq (x:=⟨op,.rsub r s⟩) (xs:=preN op++[nameW r,nameW s]) (args:=[nameW r,nameW s]) rfl rfl (by simp) (by simp[join_cons,argsW]))
  go_wp2_with fail
  go_region_held3 (fun W'=>(W'.cell? ⟨w.heap.size,12,none⟩=some (.slice (some ⟨b,o,none⟩) 1 m3)∧W'.cell? ⟨b,o,none⟩=some (.string (str r))∧W'.cell? ⟨w.heap.size,13,none⟩=some (.string (str s))))
   (first|(refine HSH.out _ ?_ ?_<;>exact ii;done)|go_keep)
   (first|(go_at_call 83;(first|((with_reducible show Calls _ 83 #[Value.string (str r)] _ _);refine(H0.out _).mono ?_)|((with_reducible show Calls _ 83 #[Value.string (str s)] _ _);refine(H1.out _).mono ?_));rintro e w1 ⟨rfl,rfl⟩)|(refine step_append_N (v:=.slice a0 k0 c0) (D:=D) (news:=[nameW r,nameW s].map fun s=>.string (str s)) (by rfl) (.tmp 61) (.tmp 70) 32 (by rfl) underlying32 el9 (by rfl) (h:=by exact ii) (hy:=by rfl) (hl:=rfl) (hc:=fun j u e=>by rw[Nat.zero_add];exact(Box.cell (h:=Box.newAt (D:=D) (by simp)) j).trans (by simpa using e)) (h1:=own_strs_one _) (h63:=by unfold maxLen;omega) (hbytes:=by omega) (hB:=by simp;omega) ?_;intro v5 w5 hO5 hc5;have hc5i:=hc5))
  all_goals
   have hg5:Gr none w D w5 D:=ii
   have:=hg5.keeps
   go_wp2_with fail
   refine(call84_S o_rsub (aW ⟨op,.rsub r s⟩) (app_own hO5) (by omega) (by omega) hq.out HL.out).mono ?_
   rintro e w6 ⟨rfl,hc6⟩
   go_wp2_with fail
   go_ret
   exact⟨rfl,⟨hg5.bl.trans hc6.out⟩⟩
theorem ow30_chain(w:World)(D:Gh)[hk:Keeps D w][TW w](op:Bool)(l:List Bs)(s:Bs)(a1 a2:Option Addr)(n1 m1 n2 m2:Nat)(rl:Value)(hrl:∃a n m,rl=.slice a n m)(hl:∀r∈l,r.length≤100)(hs:s.length≤100)(h0:0<l.length)(h4:l.length≤4)(hS:SV D l rl)(hlen:(aW ⟨op,.chain l s⟩).length≤140737488355328):
  Calls prog 30 #[.agg (axc ⟨op,.chain l s⟩ (.slice a1 n1 m1) (.slice a2 n2 m2) rl)] w fun e w'=>e=.returned (.string (str (aW ⟨op,.chain l s⟩)))∧Cll none w w':=by
 obtain⟨a3,n3,m3,rfl⟩:=hrl
 obtain⟨hn3,hm3,_⟩:=SV_len hS
 obtain⟨b,o,rfl,hD⟩:=SV_first hS h0
 rw[←hn3]at h0 h4
 have HD:=hid hD
 have HN3:=hid hn3
 have HLL:=hid hl
 clear hD hS hn3 hl
 have HL:=hid hlen
 obtain⟨k0,hk0⟩:∃n,n=(preN op).length:=⟨_,rfl⟩
 have hk1:k0≤1:=by rw[hk0];cases op<;>simp[preN]
 have HK0:=hid hk0
 obtain⟨W,hW⟩:∃W,W=w.alloc (.cells (axc ⟨op,.chain l s⟩ (.slice a1 n1 m1) (.slice a2 n2 m2) (.slice (some ⟨b,o,none⟩) n3 m3)) 34):=⟨_,rfl⟩
 have hB2:Box W D w.heap.size 34 (axc ⟨op,.chain l s⟩ (.slice a1 n1 m1) (.slice a2 n2 m2) (.slice (some ⟨b,o,none⟩) n3 m3)):=by rw[hW];exact ii
 have hG:Gr none w D W D:=by rw[hW];exact ii
 have hsw:W.heap.size=w.heap.size+1:=by rw[hW];simp
 have HW:=hid hW
 clear hlen hk0 hW
 have c1:W.cell? ⟨w.heap.size,1,none⟩=some (.bool op):=(hB2.held (i:=1) rfl).1
 have:=hG.keeps
 go_enter func30,ntmps30
 repeat((fail_if_success (with_reducible show Code.wp _ (Code.region 1 _ _) _ _ _));go_step)
 rw[←HW.out]
 repeat((fail_if_success (with_reducible show Code.wp _ (Code.seq (Code.region 3 _ _) _) _ _ _));go_step)
 go_cut [4]from 8 (fun v4 wx=>∃(a0:Option Addr)(c0:Nat),v4=.slice a0 k0 c0∧Gr none w D wx D∧Box wx D w.heap.size 34 (axc ⟨op,.chain l s⟩ (.slice a1 n1 m1) (.slice a2 n2 m2) (.slice (some ⟨b,o,none⟩) n3 m3))∧w.heap.size+1≤wx.heap.size∧VT.Own wx D (w.heap.size+1) 9 1 (.slice a0 k0 c0) k0 ((preN op).map fun s=>.string (str s)))
 case first=>
  have hO0:VT.Own W D (w.heap.size+1) 9 1 (.slice none 0 0) 0 []:=⟨⟨by simp,.inl ⟨rfl,rfl⟩⟩,⟨fun g h=>by cases h⟩⟩
  cases op
  ·obtain rfl:k0=0:=HK0.out
   go_wp2_with fail
   go_meet
   case rel=>exact⟨none,0,rfl,hG,hB2,by omega,hO0⟩
  ·obtain rfl:k0=1:=HK0.out
   go_wp2_with fail
   go_meet
   case rel=>have hn:=own_note W D (str noteW) (w.heap.size+1) (by omega);rw[hsw]at hn;have hg5:=hn.2;have hz5:=hn.2.size;exact⟨_,_,rfl,(ii:Gr none w D _ D),@Box.call _ _ D w.heap.size 34 _ none hn.2 hB2 ii,by rw[←hsw];exact hz5,hn.1⟩
 case rest=>
  obtain⟨a0,c0,rfl,hG,hB,hsz,hO⟩:=hcut
  have:=hG.keeps
  have hc0:Cll none w wc:=⟨hG.bl⟩
  have hTr:TW wc:=ii
  have l0:=hB.lt
  have z0:=Box.cell (h:=hB) 0
  have z12:=Box.cell (h:=hB) 12
  obtain⟨B5,hB5⟩:∃B,B=wc.heap.size:=⟨_,rfl⟩
  have hO50:VT.Own wc D B5 9 1 (.slice none 0 0) 0 []:=by rw[hB5];exact VT.Own.nil _ _ _ _
  have hzB:B5≤wc.heap.size:=by omega
  have hk0B:∀k,(Value.slice a0 k0 c0).ownBlock=some k→k<B5:=fun k hk=>by rw[hB5];exact(VT.Own.lt hO k hk).2
  have HK0B:=hid hk0B
  have hlB:w.heap.size<B5:=by omega
  obtain⟨nm,hnm⟩:∃nm:Nat→List Bs,∀i,nm i=(l.take i).map nameW:=⟨_,fun _=>rfl⟩
  have HNM:=hid hnm
  clear hB5 hnm hk0B
  go_wp2_with fail
  go_loopg [5,77] n3 (fun gk v5 v77 wr=>∃i:Nat,v77=.int .i64 i∧gk+i=n3∧Gr none w D wr D∧Box wr D w.heap.size 34 (axc ⟨op,.chain l s⟩ (.slice a1 n1 m1) (.slice a2 n2 m2) (.slice (some ⟨b,o,none⟩) n3 m3))∧VT.Own wr D (w.heap.size+1) 9 1 (.slice a0 k0 c0) k0 ((preN op).map fun s=>.string (str s))∧VT.Own wr D B5 9 1 v5 i ((nm i).map fun s=>.string (str s))∧B5≤wr.heap.size)
  case atStart=>exact⟨0,rfl,rfl,hG,hB,hO,by rw[HNM.out];exact hO50,hzB⟩
  case round=>
   clear hB hO hO50 hG z0 z12 l0 hsz
   obtain⟨i,rfl,hgk,hG,hB,hO,hO5,hz⟩:=hrel
   have:=hG
   have:=hG.keeps
   have:=hB
   have l0:=hB.lt
   have hap:VT.Apart (.slice a0 k0 c0) u5.ownBlock:=⟨fun k hk e=>by have:=HK0B.out k hk;have:=(VT.Own.lt hO5 k e.symm).1;omega⟩
   have hsub5:=VT.Own.sub hO5 none (a:=w) (by omega)
   have hofx5:OffX D u5.ownBlock:=⟨fun g hg=>hO5.off.out g hg⟩
   have hne5:NeX w.heap.size u5.ownBlock:=own_ne hO5 hlB
   by_cases hi:i<n3
   ·obtain⟨r,hr⟩:∃r,l[i]? =some r:=⟨_,List.getElem?_eq_getElem (by rw[←HN3.out];exact hi)⟩
    have r0:=Keeps.out (D:=D) (w:=wr) _ _ _ (HD.out i r hr)
    have r1:=Keeps.lt (D:=D) (w:=wr) (HD.out i r hr)
    have H0:=hid (name83_c r (by have:=HLL.out r (List.mem_of_getElem? hr);omega))
    have HN1:Hid (nm (i+1)=nm i++[nameW r]):=hid (by rw[HNM.out,HNM.out,List.take_add_one,hr];simp)
    have hi':(i:Int)<(n3:Int):=by omega
    clear hr
    go_wp2_with fail
    refine(H0.out _).mono ?_
    rintro e w1 ⟨rfl,rfl⟩
    have hOx:∀o,VT.Own (w1.alloc o) D B5 9 1 u5 i ((nm i).map fun s=>.string (str s)):=fun o=>ii
    have hBx:∀s,Box (w1.alloc (.cells #[.string s] 9)) D w1.heap.size 9 #[.string s]:=fun _=>ii
    go_wp2_with (at_builtin;refine wp_append_1 (v:=u5) rfl (.tmp 81) (.tmp 84) 32 rfl underlying32 el9 rfl (hOx _) rfl (hBx _) rfl (own_strs_one [nameW r]) (by simp[maxLen];omega) (by omega) (by simp;omega) ?_;intro v6 w6 hO6 hc6)
    have hc6i:=hc6
    have hG6:Gr none w D w6 D:=ii
    have hB6:Box w6 D w.heap.size 34 (axc ⟨op,.chain l s⟩ (.slice a1 n1 m1) (.slice a2 n2 m2) (.slice (some ⟨b,o,none⟩) n3 m3)):=ii
    have hO4:VT.Own w6 D (w.heap.size+1) 9 1 (.slice a0 k0 c0) k0 ((preN op).map fun s=>.string (str s)):=ii
    have hz6:=hc6.out.size
    go_wp2_with fail
    go_roundg (gk-1)
    case measure=>omega
    case rel=>exact⟨i+1,by simp,by omega,hG6,hB6,hO4,by rw[HN1.out,List.map_append];exact hO6,by simp at hz6;omega⟩
   ·obtain rfl:i=n3:=by omega
    have hi':¬(i:Int)<(i:Int):=by omega
    have hfin:nm i=l.map nameW:=by rw[HNM.out,List.take_of_length_le (by have:=HN3.out;omega)]
    rw[hfin]at hO5
    clear hfin
    obtain⟨a5,c5,rfl⟩:=own_form hO5
    have hTr:TW wr:=TW.call (w:=w) (hc:=⟨hG.bl⟩)
    have H1:=hid (name83_c s (by omega))
    have hne:NeX w.heap.size (Value.slice a0 k0 c0).ownBlock:=own_ne hO (Nat.lt_succ_self _)
    have hsub:=VT.Own.sub hO none (a:=w) (Nat.le_succ _)
    have hofx:OffX D (Value.slice a0 k0 c0).ownBlock:=⟨fun g hg=>hO.off.out g hg⟩
    have SH:∀W':World,Box W' D w.heap.size 34 (axc ⟨op,.chain l s⟩ (.slice a1 n1 m1) (.slice a2 n2 m2) (.slice (some ⟨b,o,none⟩) i m3))→(W'.cell? ⟨w.heap.size,13,none⟩=some (.string (str s))):=fun W' hb=>(hb.held (i:=13) rfl).1
    have HSH:=hid SH
    clear SH
    have hcw:o_chain++40::(Lib.join (l.map nameW) [32]++[41])=chainW l:=rfl
    have hcl:(chainW l).length≤140737488355328:=by have:=HL.out;simp[aW,argsW]at this;omega
    have HCW:=hid hcw
    have HCL:=hid hcl
    have hq:=hid (aW_eq (x:=⟨op,.chain l s⟩) (xs:=preN op++[chainW l,nameW s]) (args:=[chainW l,nameW s]) rfl rfl (by simp) (by simp[join_cons,argsW]))
    clear hcw hcl
    go_wp2_with fail
    go_region_held3 (fun W'=>(W'.cell? ⟨w.heap.size,13,none⟩=some (.string (str s))))
     (first|(refine HSH.out _ ?_;exact ii;done)|go_keep)
     (first|(go_at_call 83;((with_reducible show Calls _ 83 #[Value.string (str s)] _ _);refine(H1.out _).mono ?_);rintro e w1 ⟨rfl,rfl⟩)|(go_at_call 84;refine(call84_S (D:=D) (B:=B5) (v:=.slice a5 i c5) (n:=i) (xs:=l.map nameW) o_chain (chainW l) (by exact ii) (by omega) (by omega) HCW.out HCL.out).mono ?_;rintro e wq ⟨rfl,hcq⟩;have hcqi:=hcq;have hsq:=hcq.size;try simp at hsq)|(refine step_append_N (v:=.slice a0 k0 c0) (D:=D) (news:=[chainW l,nameW s].map fun s=>.string (str s)) (by rfl) (.tmp 87) (.tmp 93) 32 (by rfl) underlying32 el9 (by rfl) (h:=by exact ii) (hy:=by rfl) (hl:=rfl) (hc:=fun j u e=>by rw[Nat.zero_add];exact(Box.cell (h:=Box.newAt (D:=D) (by simp)) j).trans (by simpa using e)) (h1:=own_strs_one _) (h63:=by unfold maxLen;omega) (hbytes:=by omega) (hB:=by simp;omega) ?_;intro v5 w5 hO5 hc5;have hc5i:=hc5))
    all_goals
     have hg5:Gr none w D w5 D:=ii
     have:=hg5.keeps
     go_wp2_with fail
     refine(call84_S o_rsub (aW ⟨op,.chain l s⟩) (app_own hO5) (by omega) (by omega) hq.out HL.out).mono ?_
     rintro e w6 ⟨rfl,hc6⟩
     go_wp2_with fail
     go_ret
     exact⟨rfl,⟨hg5.bl.trans hc6.out⟩⟩
end Go.Proofs.YticgonfhjcaohaaGreatDoor
