/- TopParsed, part 25. -/
import Derived.Test.YticgonfhjcaohaaGreatDoorP22
set_option maxRecDepth 100000
set_option maxHeartbeats 32000000
namespace Go.Proofs.YticgonfhjcaohaaGreatDoor
open Go.RowKit Go.VT _root_.Go.Proofs.Tryz
def stList(p:PC):List (Bs×Value):=[(w_domain,.func (Fn.func 38) #[p.ptr] #[]),(w_role,.func (Fn.func 39) #[p.ptr] #[]),(w_chain,.func (Fn.func 40) #[p.ptr] #[]),(w_reflexive,.func (Fn.func 41) #[p.ptr] #[]),(w_type,.func (Fn.func 42) #[p.ptr] #[]),(w_link,.func (Fn.func 43) #[p.ptr] #[])]
class PM(w:World)(p:PC):Prop where
 out:∃m es,p.M=.map (some m)∧MB w m es∧es.toList.map (fun e=>(e.key,e.val))=(stList p).map (fun x=>(Value.string (str x.1),x.2))∧m≠p.g
section
variable{w w':World}{p:PC}
instance PM_drew[h:PM w p]:PM w.drew p:=let⟨m,es,a,_b,c⟩:=h.out;⟨m,es,a,ii,c⟩
instance PM_drewN(n:Nat)[h:PM w p]:PM (w.drewN n) p:=let⟨m,es,a,_b,c⟩:=h.out;⟨m,es,a,ii,c⟩
instance PM_alloc(o:Obj)[h:PM w p]:PM (w.alloc o) p:=let⟨m,es,a,_b,c⟩:=h.out;⟨m,es,a,ii,c⟩
instance PM_set(b:Addr)(u:Value)[h:PM w p]:PM (w.setCell b u) p:=let⟨m,es,a,_b,c⟩:=h.out;⟨m,es,a,ii,c⟩
instance PM_row(g:Nat)(cs:Array Value)[h:PM w p]:PM (w.setRow g cs) p:=let⟨m,es,a,_b,c⟩:=h.out;⟨m,es,a,ii,c⟩
instance PM_call[hc:Cll none w w'][h:PM w p]:PM w' p:=let⟨m,es,a,_b,c⟩:=h.out;⟨m,es,a,MB.call none,c⟩
instance PM_callg[hc:Cll (some p.g) w w'][h:PM w p]:PM w' p:=let⟨m,es,a,_b,c⟩:=h.out;⟨m,es,a,have:NeX m (some p.g):=⟨fun e=>c.2 (Option.some.inj e)⟩;MB.call (some p.g),c⟩
end
theorem zero102(w:World):(zeroValue 102).run prog w=.ok .nilFunc w:=by kernel_rfl
def ASpec(w:World)(D:Gh)(p:PC)(k:Nat)(R:Option (Ax×List Tk))(e:Ending)(w':World):Prop:=match R with
 |some x=>ARet w D p k x.1 x.2 e w'
 |none=>Bad w D p k e w'
theorem as_no{w w':World}{D D':Gh}{p:PC}{k k':Nat}{R:Option (Ax×List Tk)}{e:Ending}(hR:Hid (R=none))(he:Fault e)(hg:Gr (some p.g) w D w' D')(hP:PS w' D' p k')(hk:k≤k'):ASpec w D p k R e w':=by
 rw[hR.out];exact bad_ret he Gr.g hP hk
theorem as_ret{w W:World}{D D':Gh}{p:PC}{k k':Nat}{x:Ax}{R:Option (Ax×List Tk)}{lp rp rl:Value}(hR:Hid (R=some (x,p.ts k')))(h:AV D' x lp rp rl)(hg:Gr (some p.g) w D W D')(hP:PS W D' p k')(hk:k<k'):ASpec w D p k R (.returned (.agg (axc x lp rp rl))) W:=by
 rw[hR.out];exact⟨_,_,_,D',k',rfl,h,Gr.g,hP,rfl,hk⟩
theorem axiom_c(N:Nat)(w:World)(D:Gh)(p:PC)(k:Nat)(hN:2*p.toks.length+2≤N)[Keeps D w][hP:PS w D p k][hT:TS D p][hM:PM w p]:
  Calls prog 46 #[p.ptr] w (ASpec w D p k (pAxiom N (p.ts k))):=by
 obtain⟨R,hR⟩:∃R,R=pAxiom N (p.ts k):=⟨_,rfl⟩
 rw[←hR]
 have HR:=hid hR
 clear hR
 have hb:=Box.lt (h:=hP.box)
 have hn:NeX w.heap.size (some p.g):=ne_size hb 0
 have:=hP.box.off
 go_enter func46,ntmps46
 repeat((fail_if_success (with_reducible show Code.wp _ (Code.region 1 _ _) _ _ _));go_step)
 go_cut [3]from 7 (fun v wx=>∃(op:Bool)(k1:Nat),v=.bool op∧op=decide (hd (p.ts k)=w_open)∧p.ts k1=(if op then(p.ts k).tail else p.ts k)∧k≤k1∧Gr (some p.g) w D wx D∧PS wx D p k1∧Box wx D w.heap.size 34 axz∧PM wx p)
 case first=>
  go_wp2_with fail
  by_cases h1:hd (p.ts k)=w_open
  ·refine(skip_yes _ D p k w_open h1 (by simp)).mono ?_
   rintro e w1 ⟨rfl,hc1,hP1⟩
   go_wp2
   go_meet
   case rel=>exact⟨true,k+1,rfl,by simp[h1],by simp[p.tail_ts],by omega,ii,hP1,ii,ii⟩
  ·refine(skip_no _ D p k w_open h1).mono ?_
   rintro e w1 ⟨rfl,hc1⟩
   go_wp2
   go_meet
   case rel=>exact⟨false,k,rfl,by simp[h1],by simp,by omega,ii,ii,ii,ii⟩
 case rest=>
  obtain⟨op,k1,rfl,hop,hts,hk1,hG1,hP1,hB1,hM1⟩:=hcut
  have HA:=hid (And.intro hop hts)
  clear hop hts
  have:=hG1.keeps
  repeat((fail_if_success (with_reducible show Code.wp _ (Code.region 2 _ _) _ _ _));go_step)
  go_cut [4]from 9 (fun v wx=>∃(pr:Bool)(k2:Nat),v=.bool pr∧Hid (pr=(!op&&decide (hd (p.ts k1)=w_private))∧p.ts k2=(if pr then(p.ts k1).tail else p.ts k1))∧k≤k2∧Gr (some p.g) w D wx D∧PS wx D p k2∧Box wx D w.heap.size 34 axz∧PM wx p)
  case first=>
   cases op with
   |true=>
    go_wp2
    go_meet
    case rel=>exact⟨false,k1,rfl,hid (by simp),by omega,ii,ii,ii,ii⟩
   |false=>
    go_wp2_with fail
    by_cases h1:hd (p.ts k1)=w_private
    ·refine(skip_yes _ D p k1 w_private h1 (by simp)).mono ?_
     rintro e w1 ⟨rfl,hc1,hP2⟩
     go_wp2
     go_meet
     case rel=>exact⟨true,k1+1,rfl,hid (by simp[h1,p.tail_ts]),by omega,ii,hP2,ii,ii⟩
    ·refine(skip_no _ D p k1 w_private h1).mono ?_
     rintro e w1 ⟨rfl,hc1⟩
     go_wp2
     go_meet
     case rel=>exact⟨false,k1,rfl,hid (by simp[h1]),by omega,ii,ii,ii,ii⟩
  case rest=>
   obtain⟨pr,k2,rfl,hpr,hk2,hG2,hP2,hB2,hM2⟩:=hcut
   obtain⟨R0,hR0⟩:∃R0,R0=pStat N (p.ts k2):=⟨_,rfl⟩
   have HR2:Hid (R=R0.bind fun(x,r)=>some (⟨if x.roley then !pr else op,x⟩,r)):=by
    refine hid ?_
    rw[HR.out,hR0]
    obtain⟨h1,h2⟩:=HA.out
    obtain⟨h3,h4⟩:=hpr.out
    simp only[pAxiom,←h1,←h2,←h3,←h4]
   have HR0:=hid hR0
   clear hR0 HR HA hpr
   have:=hG2.keeps
   repeat((fail_if_success (with_reducible show Code.wp _ (Code.seq (Code.region 3 _ _) _) _ _ _));go_step)
   go_cut []from 15 (fun wx=>∃(x:K)(r:List Tk)(lp rp rl:Value)(D':Gh)(k':Nat),Hid (R0=some (x,p.ts k'))∧AV D' ⟨false,x⟩ lp rp rl∧Gr (some p.g) w D wx D'∧PS wx D' p k'∧Box wx D' w.heap.size 34 (axc ⟨false,x⟩ lp rp rl)∧k<k')
   case first=>
    obtain⟨m,es,hM,hMB,hes,hmg⟩:=hM2.out
    obtain⟨t,ht⟩:∃t,p.toks[k2]? =some t:=⟨_,List.getElem?_eq_getElem hP2.lt⟩
    have hht:=hid (p.hd_ts ht)
    have c2:wc.cell? ⟨p.g,2,none⟩=some (.map (some m)):=hM▸@Box.cell _ _ _ _ _ hP2.box 2
    have SH:Hid (∀W,PS W D p k2→W.cell? ⟨p.g,2,none⟩=some (.map (some m))):=fun W h=>hM▸@Box.cell _ _ _ _ _ h.box 2
    have f1:=fld54_1
    clear hM2
    have hlook:=fun(W:World)(h:MB W m es)=>run_lookup_str (P:=prog) underlying99 underlying9 zero102 h hes t.text
    have:NeX m none:=NeX.none m
    repeat((fail_if_success (with_reducible show Code.wp _ (Code.region 3 _ _) _ _ _));go_step)
    go_region_held3 (fun W=>W.cell? ⟨p.g,2,none⟩=some (.map (some m)))
     (first|(refine SH.out _ ?_;exact ii;done)|go_keep)
     (first|(go_at_call 15;refine(token_c _ D p k2).mono ?_;rintro e w3 ⟨⟨t',ht',rfl⟩,hc3⟩;obtain rfl:=tok_text _ _ p k2 ht' ht;have hlk:=hlook w3 ii))
    have hsx:hd (p.ts k2)=t'.text:=hht.out
    have HT':=hid ht
    have hPz:PS w3 D p k2:=ii
    have hBz:Box w3 D w.heap.size 34 axz:=ii
    have hGz:Gr (some p.g) w D w3 D:=ii
    clear hlook ht SH c2 hlk
    generalize t'.text=s at*
    have c1:=@Box.held _ _ _ _ _ hPz.box 1 (.int .i64 k2) rfl
    have b1:=Box.lt (h:=hPz.box)
    have hl3:=hT.lim.2.2
    by_cases h0:s=w_domain
    ·have hl:=hd_lt (D:=D) (hsx.trans h0) (by simp)
     have hR0:R0=(pName (p.ts (k2+1))).bind fun(s,r)=>(pConcept N r).bind fun(c,r)=>some (K.dom s c,r):=by
      rw[HR0.out]
      unfold pStat
      rw[if_pos (hsx.trans h0),p.tail_ts]
     have e1:lookS (stList p) s=some (.func (Fn.func 38) #[p.ptr] #[]):=by rw[h0];rfl
     simp only[e1,Option.getD_some,Option.isSome_some]
     clear e1
     have HR1:=hid hR0
     clear hR0 HR0
     clear h0 hsx hht
     have hPn:=hPz.next hl
     have:=hP2.box.off
     have hBn:Box (w3.setCell ⟨p.g,1,none⟩ (.int .i64 ((k2:Int)+1))) D w.heap.size 34 axz:=ii
     have hGn:Gr (some p.g) w D (w3.setCell ⟨p.g,1,none⟩ (.int .i64 ((k2:Int)+1))) D:=ii
     go_wp2_with fail
     generalize w3.setCell ⟨p.g,1,none⟩ (.int .i64 ((k2:Int)+1))=W4 at*
     have:=hGn.keeps
     refine((domain_c N _ D p (k2+1) hN).mono (fun e w' q=>(show KSpec W4 D p (k2+1) R0 e w' by rw[HR1.out];exact q))).mono ?_
     clear HR1
     intro e w5 h5
     rcases R0 with _|⟨x,r⟩
     ·obtain⟨⟨_,_,rfl⟩,D5,k5,hg5,hk5,hP5⟩:=h5
      go_wp2
      exact⟨rfl,as_no HR2 ⟨_,_,rfl⟩ (ii:Gr (some p.g) w D w5 D5) hP5 (by omega)⟩
     ·obtain⟨lp,rp,rl,D5,k5,rfl,hav,hg5,hP5,hr5,hk5⟩:=h5
      obtain⟨n1,hn1⟩:∃n,n=(oP (⟨false,x⟩:Ax).k.left).length:=⟨_,rfl⟩
      obtain⟨n2,hn2⟩:∃n,n=(oP (⟨false,x⟩:Ax).k.right).length:=⟨_,rfl⟩
      obtain⟨n3,hn3⟩:∃n,n=(⟨false,x⟩:Ax).k.roles.length:=⟨_,rfl⟩
      obtain⟨a1,m1,rfl,_,_⟩:=PV.form hav.l
      obtain⟨a2,m2,rfl,_,_⟩:=PV.form hav.r
      obtain⟨a3,m3,rfl,_,_⟩:=SlN.form hav.s
      rw[←hn1,←hn2,←hn3]at hav
      rw[←hn1,←hn2,←hn3]
      clear hn1 hn2 hn3
      have hB5:Box w5 D5 w.heap.size 34 axz:=ii
      have:=hB5.off
      have:=hP5.box.off
      have:=hg5.keeps
      go_wp2_with (((with_reducible show wpList _ _ _ ((⟨_,.store 34 _ _,_,_,_,_⟩:Oper)::_) _ _);refine wpList_storeTo rfl 34 _ _ rfl rfl (w.heap.size) ((axc ⟨false,x⟩ (.slice a1 n1 m1) (.slice a2 n2 m2) (.slice a3 n3 m3))) rfl rfl _ (axz) (hB5.heap) (hz34) rfl (axc_one _ _ _ _ _ _ _ _ _ _) ?_))
      go_meet
      case rel=>exact⟨x,r,.slice a1 n1 m1,.slice a2 n2 m2,.slice a3 n3 m3,D5,k5,hid (by rw[hr5]),hav,ii,ii,ii,by omega⟩
    by_cases h1:s=w_role
    ·have hl:=hd_lt (D:=D) (hsx.trans h1) (by simp)
     have hR0:R0=(pName (p.ts (k2+1))).bind fun(s,r)=>(wantT w_sub r).bind fun r=>(pName r).bind fun(t,r)=>some (K.rsub s t,r):=by
      rw[HR0.out]
      unfold pStat
      rw[if_neg (show¬hd (p.ts k2)=w_domain from fun e=>h0 (hsx.symm.trans e)),if_pos (hsx.trans h1),p.tail_ts]
     have e1:lookS (stList p) s=some (.func (Fn.func 39) #[p.ptr] #[]):=by rw[h1];rfl
     simp only[e1,Option.getD_some,Option.isSome_some]
     clear e1
     have HR1:=hid hR0
     clear hR0 HR0
     clear h0 h1 hsx hht
     have hPn:=hPz.next hl
     have:=hP2.box.off
     have hBn:Box (w3.setCell ⟨p.g,1,none⟩ (.int .i64 ((k2:Int)+1))) D w.heap.size 34 axz:=ii
     have hGn:Gr (some p.g) w D (w3.setCell ⟨p.g,1,none⟩ (.int .i64 ((k2:Int)+1))) D:=ii
     go_wp2_with fail
     generalize w3.setCell ⟨p.g,1,none⟩ (.int .i64 ((k2:Int)+1))=W4 at*
     have:=hGn.keeps
     refine((role_c _ D p (k2+1)).mono (fun e w' q=>(show KSpec W4 D p (k2+1) R0 e w' by rw[HR1.out];exact q))).mono ?_
     clear HR1
     intro e w5 h5
     rcases R0 with _|⟨x,r⟩
     ·obtain⟨⟨_,_,rfl⟩,D5,k5,hg5,hk5,hP5⟩:=h5
      go_wp2
      exact⟨rfl,as_no HR2 ⟨_,_,rfl⟩ (ii:Gr (some p.g) w D w5 D5) hP5 (by omega)⟩
     ·obtain⟨lp,rp,rl,D5,k5,rfl,hav,hg5,hP5,hr5,hk5⟩:=h5
      obtain⟨n1,hn1⟩:∃n,n=(oP (⟨false,x⟩:Ax).k.left).length:=⟨_,rfl⟩
      obtain⟨n2,hn2⟩:∃n,n=(oP (⟨false,x⟩:Ax).k.right).length:=⟨_,rfl⟩
      obtain⟨n3,hn3⟩:∃n,n=(⟨false,x⟩:Ax).k.roles.length:=⟨_,rfl⟩
      obtain⟨a1,m1,rfl,_,_⟩:=PV.form hav.l
      obtain⟨a2,m2,rfl,_,_⟩:=PV.form hav.r
      obtain⟨a3,m3,rfl,_,_⟩:=SlN.form hav.s
      rw[←hn1,←hn2,←hn3]at hav
      rw[←hn1,←hn2,←hn3]
      clear hn1 hn2 hn3
      have hB5:Box w5 D5 w.heap.size 34 axz:=ii
      have:=hB5.off
      have:=hP5.box.off
      have:=hg5.keeps
      go_wp2_with (((with_reducible show wpList _ _ _ ((⟨_,.store 34 _ _,_,_,_,_⟩:Oper)::_) _ _);refine wpList_storeTo rfl 34 _ _ rfl rfl (w.heap.size) ((axc ⟨false,x⟩ (.slice a1 n1 m1) (.slice a2 n2 m2) (.slice a3 n3 m3))) rfl rfl _ (axz) (hB5.heap) (hz34) rfl (axc_one _ _ _ _ _ _ _ _ _ _) ?_))
      go_meet
      case rel=>exact⟨x,r,.slice a1 n1 m1,.slice a2 n2 m2,.slice a3 n3 m3,D5,k5,hid (by rw[hr5]),hav,ii,ii,ii,by omega⟩
    by_cases h2:s=w_chain
    ·have hl:=hd_lt (D:=D) (hsx.trans h2) (by simp)
     have hR0:R0=(pName (p.ts (k2+1))).bind fun(s,r)=>(pName r).bind fun(t,r)=>(pRest 2 [s,t] r).bind fun(l,r)=>(wantT w_sub r).bind fun r=>(pName r).bind fun(t,r)=>some (K.chain l t,r):=by
      rw[HR0.out]
      unfold pStat
      rw[if_neg (show¬hd (p.ts k2)=w_domain from fun e=>h0 (hsx.symm.trans e)),if_neg (show¬hd (p.ts k2)=w_role from fun e=>h1 (hsx.symm.trans e)),if_pos (hsx.trans h2),p.tail_ts]
     have e1:lookS (stList p) s=some (.func (Fn.func 40) #[p.ptr] #[]):=by rw[h2];rfl
     simp only[e1,Option.getD_some,Option.isSome_some]
     clear e1
     have HR1:=hid hR0
     clear hR0 HR0
     clear h0 h1 h2 hsx hht
     have hPn:=hPz.next hl
     have:=hP2.box.off
     have hBn:Box (w3.setCell ⟨p.g,1,none⟩ (.int .i64 ((k2:Int)+1))) D w.heap.size 34 axz:=ii
     have hGn:Gr (some p.g) w D (w3.setCell ⟨p.g,1,none⟩ (.int .i64 ((k2:Int)+1))) D:=ii
     go_wp2_with fail
     generalize w3.setCell ⟨p.g,1,none⟩ (.int .i64 ((k2:Int)+1))=W4 at*
     have:=hGn.keeps
     refine((chain_c _ D p (k2+1)).mono (fun e w' q=>(show KSpec W4 D p (k2+1) R0 e w' by rw[HR1.out];exact q))).mono ?_
     clear HR1
     intro e w5 h5
     rcases R0 with _|⟨x,r⟩
     ·obtain⟨⟨_,_,rfl⟩,D5,k5,hg5,hk5,hP5⟩:=h5
      go_wp2
      exact⟨rfl,as_no HR2 ⟨_,_,rfl⟩ (ii:Gr (some p.g) w D w5 D5) hP5 (by omega)⟩
     ·obtain⟨lp,rp,rl,D5,k5,rfl,hav,hg5,hP5,hr5,hk5⟩:=h5
      obtain⟨n1,hn1⟩:∃n,n=(oP (⟨false,x⟩:Ax).k.left).length:=⟨_,rfl⟩
      obtain⟨n2,hn2⟩:∃n,n=(oP (⟨false,x⟩:Ax).k.right).length:=⟨_,rfl⟩
      obtain⟨n3,hn3⟩:∃n,n=(⟨false,x⟩:Ax).k.roles.length:=⟨_,rfl⟩
      obtain⟨a1,m1,rfl,_,_⟩:=PV.form hav.l
      obtain⟨a2,m2,rfl,_,_⟩:=PV.form hav.r
      obtain⟨a3,m3,rfl,_,_⟩:=SlN.form hav.s
      rw[←hn1,←hn2,←hn3]at hav
      rw[←hn1,←hn2,←hn3]
      clear hn1 hn2 hn3
      have hB5:Box w5 D5 w.heap.size 34 axz:=ii
      have:=hB5.off
      have:=hP5.box.off
      have:=hg5.keeps
      go_wp2_with (((with_reducible show wpList _ _ _ ((⟨_,.store 34 _ _,_,_,_,_⟩:Oper)::_) _ _);refine wpList_storeTo rfl 34 _ _ rfl rfl (w.heap.size) ((axc ⟨false,x⟩ (.slice a1 n1 m1) (.slice a2 n2 m2) (.slice a3 n3 m3))) rfl rfl _ (axz) (hB5.heap) (hz34) rfl (axc_one _ _ _ _ _ _ _ _ _ _) ?_))
      go_meet
      case rel=>exact⟨x,r,.slice a1 n1 m1,.slice a2 n2 m2,.slice a3 n3 m3,D5,k5,hid (by rw[hr5]),hav,ii,ii,ii,by omega⟩
    by_cases h3:s=w_reflexive
    ·have hl:=hd_lt (D:=D) (hsx.trans h3) (by simp)
     have hR0:R0=(pName (p.ts (k2+1))).bind fun(s,r)=>some (K.refl s,r):=by
      rw[HR0.out]
      unfold pStat
      rw[if_neg (show¬hd (p.ts k2)=w_domain from fun e=>h0 (hsx.symm.trans e)),if_neg (show¬hd (p.ts k2)=w_role from fun e=>h1 (hsx.symm.trans e)),if_neg (show¬hd (p.ts k2)=w_chain from fun e=>h2 (hsx.symm.trans e)),if_pos (hsx.trans h3),p.tail_ts]
     have e1:lookS (stList p) s=some (.func (Fn.func 41) #[p.ptr] #[]):=by rw[h3];rfl
     simp only[e1,Option.getD_some,Option.isSome_some]
     clear e1
     have HR1:=hid hR0
     clear hR0 HR0
     clear h0 h1 h2 h3 hsx hht
     have hPn:=hPz.next hl
     have:=hP2.box.off
     have hBn:Box (w3.setCell ⟨p.g,1,none⟩ (.int .i64 ((k2:Int)+1))) D w.heap.size 34 axz:=ii
     have hGn:Gr (some p.g) w D (w3.setCell ⟨p.g,1,none⟩ (.int .i64 ((k2:Int)+1))) D:=ii
     go_wp2_with fail
     generalize w3.setCell ⟨p.g,1,none⟩ (.int .i64 ((k2:Int)+1))=W4 at*
     have:=hGn.keeps
     refine((reflexive_c _ D p (k2+1)).mono (fun e w' q=>(show KSpec W4 D p (k2+1) R0 e w' by rw[HR1.out];exact q))).mono ?_
     clear HR1
     intro e w5 h5
     rcases R0 with _|⟨x,r⟩
     ·obtain⟨⟨_,_,rfl⟩,D5,k5,hg5,hk5,hP5⟩:=h5
      go_wp2
      exact⟨rfl,as_no HR2 ⟨_,_,rfl⟩ (ii:Gr (some p.g) w D w5 D5) hP5 (by omega)⟩
     ·obtain⟨lp,rp,rl,D5,k5,rfl,hav,hg5,hP5,hr5,hk5⟩:=h5
      obtain⟨n1,hn1⟩:∃n,n=(oP (⟨false,x⟩:Ax).k.left).length:=⟨_,rfl⟩
      obtain⟨n2,hn2⟩:∃n,n=(oP (⟨false,x⟩:Ax).k.right).length:=⟨_,rfl⟩
      obtain⟨n3,hn3⟩:∃n,n=(⟨false,x⟩:Ax).k.roles.length:=⟨_,rfl⟩
      obtain⟨a1,m1,rfl,_,_⟩:=PV.form hav.l
      obtain⟨a2,m2,rfl,_,_⟩:=PV.form hav.r
      obtain⟨a3,m3,rfl,_,_⟩:=SlN.form hav.s
      rw[←hn1,←hn2,←hn3]at hav
      rw[←hn1,←hn2,←hn3]
      clear hn1 hn2 hn3
      have hB5:Box w5 D5 w.heap.size 34 axz:=ii
      have:=hB5.off
      have:=hP5.box.off
      have:=hg5.keeps
      go_wp2_with (((with_reducible show wpList _ _ _ ((⟨_,.store 34 _ _,_,_,_,_⟩:Oper)::_) _ _);refine wpList_storeTo rfl 34 _ _ rfl rfl (w.heap.size) ((axc ⟨false,x⟩ (.slice a1 n1 m1) (.slice a2 n2 m2) (.slice a3 n3 m3))) rfl rfl _ (axz) (hB5.heap) (hz34) rfl (axc_one _ _ _ _ _ _ _ _ _ _) ?_))
      go_meet
      case rel=>exact⟨x,r,.slice a1 n1 m1,.slice a2 n2 m2,.slice a3 n3 m3,D5,k5,hid (by rw[hr5]),hav,ii,ii,ii,by omega⟩
    by_cases h4:s=w_type
    ·have hl:=hd_lt (D:=D) (hsx.trans h4) (by simp)
     have hR0:R0=(pName (p.ts (k2+1))).bind fun(s,r)=>(pConcept N r).bind fun(c,r)=>some (K.typ s c,r):=by
      rw[HR0.out]
      unfold pStat
      rw[if_neg (show¬hd (p.ts k2)=w_domain from fun e=>h0 (hsx.symm.trans e)),if_neg (show¬hd (p.ts k2)=w_role from fun e=>h1 (hsx.symm.trans e)),if_neg (show¬hd (p.ts k2)=w_chain from fun e=>h2 (hsx.symm.trans e)),if_neg (show¬hd (p.ts k2)=w_reflexive from fun e=>h3 (hsx.symm.trans e)),if_pos (hsx.trans h4),p.tail_ts]
     have e1:lookS (stList p) s=some (.func (Fn.func 42) #[p.ptr] #[]):=by rw[h4];rfl
     simp only[e1,Option.getD_some,Option.isSome_some]
     clear e1
     have HR1:=hid hR0
     clear hR0 HR0
     clear h0 h1 h2 h3 h4 hsx hht
     have hPn:=hPz.next hl
     have:=hP2.box.off
     have hBn:Box (w3.setCell ⟨p.g,1,none⟩ (.int .i64 ((k2:Int)+1))) D w.heap.size 34 axz:=ii
     have hGn:Gr (some p.g) w D (w3.setCell ⟨p.g,1,none⟩ (.int .i64 ((k2:Int)+1))) D:=ii
     go_wp2_with fail
     generalize w3.setCell ⟨p.g,1,none⟩ (.int .i64 ((k2:Int)+1))=W4 at*
     have:=hGn.keeps
     refine((typing_c N _ D p (k2+1) hN).mono (fun e w' q=>(show KSpec W4 D p (k2+1) R0 e w' by rw[HR1.out];exact q))).mono ?_
     clear HR1
     intro e w5 h5
     rcases R0 with _|⟨x,r⟩
     ·obtain⟨⟨_,_,rfl⟩,D5,k5,hg5,hk5,hP5⟩:=h5
      go_wp2
      exact⟨rfl,as_no HR2 ⟨_,_,rfl⟩ (ii:Gr (some p.g) w D w5 D5) hP5 (by omega)⟩
     ·obtain⟨lp,rp,rl,D5,k5,rfl,hav,hg5,hP5,hr5,hk5⟩:=h5
      obtain⟨n1,hn1⟩:∃n,n=(oP (⟨false,x⟩:Ax).k.left).length:=⟨_,rfl⟩
      obtain⟨n2,hn2⟩:∃n,n=(oP (⟨false,x⟩:Ax).k.right).length:=⟨_,rfl⟩
      obtain⟨n3,hn3⟩:∃n,n=(⟨false,x⟩:Ax).k.roles.length:=⟨_,rfl⟩
      obtain⟨a1,m1,rfl,_,_⟩:=PV.form hav.l
      obtain⟨a2,m2,rfl,_,_⟩:=PV.form hav.r
      obtain⟨a3,m3,rfl,_,_⟩:=SlN.form hav.s
      rw[←hn1,←hn2,←hn3]at hav
      rw[←hn1,←hn2,←hn3]
      clear hn1 hn2 hn3
      have hB5:Box w5 D5 w.heap.size 34 axz:=ii
      have:=hB5.off
      have:=hP5.box.off
      have:=hg5.keeps
      go_wp2_with (((with_reducible show wpList _ _ _ ((⟨_,.store 34 _ _,_,_,_,_⟩:Oper)::_) _ _);refine wpList_storeTo rfl 34 _ _ rfl rfl (w.heap.size) ((axc ⟨false,x⟩ (.slice a1 n1 m1) (.slice a2 n2 m2) (.slice a3 n3 m3))) rfl rfl _ (axz) (hB5.heap) (hz34) rfl (axc_one _ _ _ _ _ _ _ _ _ _) ?_))
      go_meet
      case rel=>exact⟨x,r,.slice a1 n1 m1,.slice a2 n2 m2,.slice a3 n3 m3,D5,k5,hid (by rw[hr5]),hav,ii,ii,ii,by omega⟩
    by_cases h5:s=w_link
    ·have hl:=hd_lt (D:=D) (hsx.trans h5) (by simp)
     have hR0:R0=(pName (p.ts (k2+1))).bind fun(a,r)=>(pName r).bind fun(s,r)=>(pName r).bind fun(b,r)=>some (K.link a s b,r):=by
      rw[HR0.out]
      unfold pStat
      rw[if_neg (show¬hd (p.ts k2)=w_domain from fun e=>h0 (hsx.symm.trans e)),if_neg (show¬hd (p.ts k2)=w_role from fun e=>h1 (hsx.symm.trans e)),if_neg (show¬hd (p.ts k2)=w_chain from fun e=>h2 (hsx.symm.trans e)),if_neg (show¬hd (p.ts k2)=w_reflexive from fun e=>h3 (hsx.symm.trans e)),if_neg (show¬hd (p.ts k2)=w_type from fun e=>h4 (hsx.symm.trans e)),if_pos (hsx.trans h5),p.tail_ts]
     have e1:lookS (stList p) s=some (.func (Fn.func 43) #[p.ptr] #[]):=by rw[h5];rfl
     simp only[e1,Option.getD_some,Option.isSome_some]
     clear e1
     have HR1:=hid hR0
     clear hR0 HR0
     clear h0 h1 h2 h3 h4 h5 hsx hht
     have hPn:=hPz.next hl
     have:=hP2.box.off
     have hBn:Box (w3.setCell ⟨p.g,1,none⟩ (.int .i64 ((k2:Int)+1))) D w.heap.size 34 axz:=ii
     have hGn:Gr (some p.g) w D (w3.setCell ⟨p.g,1,none⟩ (.int .i64 ((k2:Int)+1))) D:=ii
     go_wp2_with fail
     generalize w3.setCell ⟨p.g,1,none⟩ (.int .i64 ((k2:Int)+1))=W4 at*
     have:=hGn.keeps
     refine((link_c _ D p (k2+1)).mono (fun e w' q=>(show KSpec W4 D p (k2+1) R0 e w' by rw[HR1.out];exact q))).mono ?_
     clear HR1
     intro e w5 h5
     rcases R0 with _|⟨x,r⟩
     ·obtain⟨⟨_,_,rfl⟩,D5,k5,hg5,hk5,hP5⟩:=h5
      go_wp2
      exact⟨rfl,as_no HR2 ⟨_,_,rfl⟩ (ii:Gr (some p.g) w D w5 D5) hP5 (by omega)⟩
     ·obtain⟨lp,rp,rl,D5,k5,rfl,hav,hg5,hP5,hr5,hk5⟩:=h5
      obtain⟨n1,hn1⟩:∃n,n=(oP (⟨false,x⟩:Ax).k.left).length:=⟨_,rfl⟩
      obtain⟨n2,hn2⟩:∃n,n=(oP (⟨false,x⟩:Ax).k.right).length:=⟨_,rfl⟩
      obtain⟨n3,hn3⟩:∃n,n=(⟨false,x⟩:Ax).k.roles.length:=⟨_,rfl⟩
      obtain⟨a1,m1,rfl,_,_⟩:=PV.form hav.l
      obtain⟨a2,m2,rfl,_,_⟩:=PV.form hav.r
      obtain⟨a3,m3,rfl,_,_⟩:=SlN.form hav.s
      rw[←hn1,←hn2,←hn3]at hav
      rw[←hn1,←hn2,←hn3]
      clear hn1 hn2 hn3
      have hB5:Box w5 D5 w.heap.size 34 axz:=ii
      have:=hB5.off
      have:=hP5.box.off
      have:=hg5.keeps
      go_wp2_with (((with_reducible show wpList _ _ _ ((⟨_,.store 34 _ _,_,_,_,_⟩:Oper)::_) _ _);refine wpList_storeTo rfl 34 _ _ rfl rfl (w.heap.size) ((axc ⟨false,x⟩ (.slice a1 n1 m1) (.slice a2 n2 m2) (.slice a3 n3 m3))) rfl rfl _ (axz) (hB5.heap) (hz34) rfl (axc_one _ _ _ _ _ _ _ _ _ _) ?_))
      go_meet
      case rel=>exact⟨x,r,.slice a1 n1 m1,.slice a2 n2 m2,.slice a3 n3 m3,D5,k5,hid (by rw[hr5]),hav,ii,ii,ii,by omega⟩
    have hR0:R0=(pConcept N (p.ts k2)).bind fun(l,r)=>
       if hd r=w_sub then(pConcept N r.tail).bind fun(c,r)=>some (K.sub l c,r)
       else if hd r=w_same then(pConcept N r.tail).bind fun(c,r)=>some (K.equiv l c,r)
       else if hd r=w_disjoint then(pConcept N r.tail).bind fun(c,r)=>some (K.disj l c,r)
       else none:=by
     rw[HR0.out]
     unfold pStat
     rw[if_neg (show¬hd (p.ts k2)=w_domain from fun e=>h0 (hsx.symm.trans e)),if_neg (show¬hd (p.ts k2)=w_role from fun e=>h1 (hsx.symm.trans e)),if_neg (show¬hd (p.ts k2)=w_chain from fun e=>h2 (hsx.symm.trans e)),if_neg (show¬hd (p.ts k2)=w_reflexive from fun e=>h3 (hsx.symm.trans e)),if_neg (show¬hd (p.ts k2)=w_type from fun e=>h4 (hsx.symm.trans e)),if_neg (show¬hd (p.ts k2)=w_link from fun e=>h5 (hsx.symm.trans e))]
    have e1:lookS (stList p) s=none:=by simp only[lookS,stList];rw[if_neg (fun e=>h0 e.symm),if_neg (fun e=>h1 e.symm),if_neg (fun e=>h2 e.symm),if_neg (fun e=>h3 e.symm),if_neg (fun e=>h4 e.symm),if_neg (fun e=>h5 e.symm)]
    simp only[e1,Option.getD_none,Option.isSome_none]
    clear e1
    have HR1:=hid hR0
    clear hR0 HR0
    clear h0 h1 h2 h3 h4 h5 hsx hht
    have:=hP2.box.off
    have:=hGz.keeps
    go_wp2_with fail
    refine((inclusion_c N w3 D p k2 hN).mono (fun e w' q=>(show KSpec w3 D p k2 R0 e w' by rw[HR1.out];exact q))).mono ?_
    clear HR1
    intro e w5 h5
    rcases R0 with _|⟨x,r⟩
    ·obtain⟨⟨_,_,rfl⟩,D5,k5,hg5,hk5,hP5⟩:=h5
     go_wp2
     exact⟨rfl,as_no HR2 ⟨_,_,rfl⟩ (ii:Gr (some p.g) w D w5 D5) hP5 (by omega)⟩
    ·obtain⟨lp,rp,rl,D5,k5,rfl,hav,hg5,hP5,hr5,hk5⟩:=h5
     obtain⟨n1,hn1⟩:∃n,n=(oP (⟨false,x⟩:Ax).k.left).length:=⟨_,rfl⟩
     obtain⟨n2,hn2⟩:∃n,n=(oP (⟨false,x⟩:Ax).k.right).length:=⟨_,rfl⟩
     obtain⟨n3,hn3⟩:∃n,n=(⟨false,x⟩:Ax).k.roles.length:=⟨_,rfl⟩
     obtain⟨a1,m1,rfl,_,_⟩:=PV.form hav.l
     obtain⟨a2,m2,rfl,_,_⟩:=PV.form hav.r
     obtain⟨a3,m3,rfl,_,_⟩:=SlN.form hav.s
     rw[←hn1,←hn2,←hn3]at hav
     rw[←hn1,←hn2,←hn3]
     clear hn1 hn2 hn3
     have hB5:Box w5 D5 w.heap.size 34 axz:=ii
     have:=hB5.off
     have:=hP5.box.off
     have:=hg5.keeps
     go_wp2_with (((with_reducible show wpList _ _ _ ((⟨_,.store 34 _ _,_,_,_,_⟩:Oper)::_) _ _);refine wpList_storeTo rfl 34 _ _ rfl rfl (w.heap.size) ((axc ⟨false,x⟩ (.slice a1 n1 m1) (.slice a2 n2 m2) (.slice a3 n3 m3))) rfl rfl _ (axz) (hB5.heap) (hz34) rfl (axc_one _ _ _ _ _ _ _ _ _ _) ?_))
     go_meet
     case rel=>exact⟨x,r,.slice a1 n1 m1,.slice a2 n2 m2,.slice a3 n3 m3,D5,k5,hid (by rw[hr5]),hav,ii,ii,ii,by omega⟩
   case rest=>
    obtain⟨x,r,lp,rp,rl,D6,k6,hx,hav,hG6,hP6,hB6,hk6⟩:=hcut
    have HR6:Hid (R=some (⟨if x.roley then !pr else op,x⟩,p.ts k6)):=by
     refine hid ?_
     rw[HR2.out,hx.out];rfl
    clear hx HR2 HR0
    generalize wc=W6 at*
    obtain⟨n1,hn1⟩:∃n,n=(oP (⟨false,x⟩:Ax).k.left).length:=⟨_,rfl⟩
    obtain⟨n2,hn2⟩:∃n,n=(oP (⟨false,x⟩:Ax).k.right).length:=⟨_,rfl⟩
    obtain⟨n3,hn3⟩:∃n,n=(⟨false,x⟩:Ax).k.roles.length:=⟨_,rfl⟩
    obtain⟨a1,m1,rfl,_,_⟩:=PV.form hav.l
    obtain⟨a2,m2,rfl,_,_⟩:=PV.form hav.r
    obtain⟨a3,m3,rfl,_,_⟩:=SlN.form hav.s
    rw[←hn1,←hn2,←hn3]at hav hB6
    clear hn1 hn2 hn3
    have:=hG6.keeps
    have:=hB6.off
    have:=hP6.box.off
    have c0:W6.cell? ⟨w.heap.size,0,none⟩=some (.int .i64 x.kind):=Box.cell (h:=hB6) 0
    repeat((fail_if_success (with_reducible show Code.wp _ (Code.seq (Code.region 8 _ _) _) _ _ _));go_step)
    go_cut [3]from 38 (fun v wx=>v=.bool (if x.roley then !pr else op)∧wx=W6)
    case first=>
     have hk5:((x.kind==5)=true∧x.roley=true)∨((x.kind==5)=false∧(x.kind==6)=true∧x.roley=true)∨((x.kind==5)=false∧(x.kind==6)=false∧(x.kind==7)=true∧x.roley=true)∨((x.kind==5)=false∧(x.kind==6)=false∧(x.kind==7)=false∧x.roley=false):=by
      cases x<;>simp[K.kind,K.roley]
     clear hP6 hB6 hG6
     rcases hk5 with⟨h5,hr⟩|⟨h5,h6,hr⟩|⟨h5,h6,h7,hr⟩|⟨h5,h6,h7,hr⟩
     all_goals
      go_wp2
      go_meet
      case rel=>exact⟨by rw[hr];rfl,rfl⟩
    case rest=>
     obtain⟨rfl,rfl⟩:=hcut
     generalize(if x.roley=true then !pr else op)=ob at*
     have c1:=Box.held (h:=hB6) (i:=1) rfl
     have hs6:=Box.lt (h:=hB6)
     clear c0
     have hn1:New w w.heap.size:=ii
     go_wp2_with ((with_reducible show wpList _ _ _ ((⟨some 48,_,_,_,_,_⟩:Oper)::_) _ _);refine stopL ?_)
     obtain⟨W7,hW7⟩:∃W7,W7=wc.setCell ⟨w.heap.size,1,none⟩ (.bool ob):=⟨_,rfl⟩
     have hB7:Box W7 D6 w.heap.size 34 (axc ⟨ob,x⟩ (.slice a1 n1 m1) (.slice a2 n2 m2) (.slice a3 n3 m3)):=hW7▸(ii:Box (wc.setCell ⟨w.heap.size,1,none⟩ (.bool ob)) D6 w.heap.size 34 _)
     have hP7:PS W7 D6 p k6:=hW7▸ii
     have hG7:Gr (some p.g) w D W7 D6:=hW7▸ii
     rw[←hW7]
     clear hW7
     unfold Stop
     go_wp2_with (first|((with_reducible show wpList _ _ _ ((⟨_,.load 34 _,_,_,_,_⟩:Oper)::_) _ _);refine wpList_load_row rfl 34 _ rfl (w.heap.size) rfl (34) _ (0,0) _ (hB7.heap) underlying34 rfl (hz34) ?_)|((with_reducible show wpList _ _ _ ((⟨_,.store 34 _ _,_,_,_,_⟩:Oper)::_) _ _);refine wpList_storeTo rfl 34 _ _ rfl rfl (w.heap.size) ((axc ⟨ob,x⟩ (.slice a1 n1 m1) (.slice a2 n2 m2) (.slice a3 n3 m3))) rfl rfl _ ((axc ⟨ob,x⟩ (.slice a1 n1 m1) (.slice a2 n2 m2) (.slice a3 n3 m3))) (hB7.heap) (hz34) rfl (axc_one _ _ _ _ _ _ _ _ _ _) ?_))
     have hB8:Box (W7.setRow w.heap.size (axc ⟨ob,x⟩ (.slice a1 n1 m1) (.slice a2 n2 m2) (.slice a3 n3 m3))) D6 w.heap.size 34 (axc ⟨ob,x⟩ (.slice a1 n1 m1) (.slice a2 n2 m2) (.slice a3 n3 m3)):=ii
     refine bodyPost_ret (v:=.agg (axc ⟨ob,x⟩ (.slice a1 n1 m1) (.slice a2 n2 m2) (.slice a3 n3 m3))) ?_ rfl ?_
     ·exact hB8.result rfl rfl underlying34 rfl hz34
     ·exact as_ret (D':=D6) HR6 ⟨hav.l,hav.r,hav.s⟩ ii ii hk6
end Go.Proofs.YticgonfhjcaohaaGreatDoor
