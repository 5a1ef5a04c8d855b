/- TopParsed, part 37. -/
import Derived.Test.YticgonfhjcaohaaGreatDoorP35
set_option maxRecDepth 100000
set_option maxHeartbeats 32000000
namespace Go.Proofs.YticgonfhjcaohaaGreatDoor
open Go.RowKit Go.VT _root_.Go.Proofs.Tryz
theorem item_of(p:OC)(ks:List Bs)(k:K)(hm:PMs ks)(hK:KOk ks k)(r:List KT)(iri:Value)(op:Bool)(ax:Value):∃f,lookS (itemsO p) (kW k)=some (.func (Fn.func f) #[p.ptr] #[])∧(f=89∨f=90∨f=91∨f=92∨f=93∨f=94∨f=95∨f=96)∧
  ∀(w:World)(D:Gh),Keeps D w→OS w D p ks false ((if op then noteT else[])++(argsT k++tR::r)) iri false ax→Calls prog f #[p.ptr] w (IRead w D p ks k (tR::r) iri op ax):=by
 cases k with
 |sub l c=>exact⟨89,rfl,by simp,fun w D hk h=>sub_o w D p ks l c r hm hK iri op ax h⟩
 |equiv l c=>exact⟨90,rfl,by simp,fun w D hk h=>equiv_o w D p ks l c r hm hK iri op ax h⟩
 |disj l c=>exact⟨91,rfl,by simp,fun w D hk h=>disj_o w D p ks l c r hm hK iri op ax h⟩
 |dom s c=>exact⟨92,rfl,by simp,fun w D hk h=>dom_o w D p ks s c r hm hK iri op ax h⟩
 |rsub q s=>exact⟨93,rfl,by simp,fun w D hk h=>rsub_o w D p ks q s r hm hK iri op ax h⟩
 |chain l s=>exact⟨93,rfl,by simp,fun w D hk h=>chain_o w D p ks l s r hm hK iri op ax h⟩
 |refl s=>exact⟨94,rfl,by simp,fun w D hk h=>refl_o w D p ks s r hm hK iri op ax h⟩
 |typ a c=>exact⟨95,rfl,by simp,fun w D hk h=>typ_o w D p ks a c r hm hK iri op ax h⟩
 |link a s b=>exact⟨96,rfl,by simp,fun w D hk h=>link_o w D p ks a s b r hm hK iri op ax h⟩
theorem OS.setOpen{w:World}{D:Gh}{p:OC}{ks:List Bs}{pk:Bool}{ts:List KT}{iri:Value}{op:Bool}{ax:Value}[Keeps D w](h:OS w D p ks pk ts iri op ax)(b:Bool):Gro (some p.g) w D (w.setCell ⟨p.g,5,none⟩ (.bool b)) D∧OS (w.setCell ⟨p.g,5,none⟩ (.bool b)) D p ks pk ts iri b ax∧w.cell? ⟨p.g,5,none⟩=some (.bool op)∧w.frozen? ⟨p.g,5,none⟩=false:=by
 obtain⟨i,v,hs,hb⟩:=h.st
 have:=h.off
 have hb':Box (w.setCell ⟨p.g,5,none⟩ (.bool b)) D p.g 93 (orow p i v iri b ax):=by simpa using@Box.set_ _ D p.g 93 _ 5 (.bool b) hb
 have hg:Gro (some p.g) w D (w.setCell ⟨p.g,5,none⟩ (.bool b)) D:=Gr.g
 exact⟨hg,h.to hg hs hb',hb.held (i:=5) rfl⟩
theorem OS.setAx{w:World}{D:Gh}{p:OC}{ks:List Bs}{pk:Bool}{ts:List KT}{iri:Value}{op:Bool}{ax:Value}[Keeps D w](h:OS w D p ks pk ts iri op ax)(b:Value):Gro (some p.g) w D (w.setCell ⟨p.g,6,none⟩ b) D∧OS (w.setCell ⟨p.g,6,none⟩ b) D p ks pk ts iri op b∧w.cell? ⟨p.g,6,none⟩=some ax∧w.frozen? ⟨p.g,6,none⟩=false:=by
 obtain⟨i,v,hs,hb⟩:=h.st
 have:=h.off
 have hb':Box (w.setCell ⟨p.g,6,none⟩ b) D p.g 93 (orow p i v iri op b):=by simpa using@Box.set_ _ D p.g 93 _ 6 b hb
 have hg:Gro (some p.g) w D (w.setCell ⟨p.g,6,none⟩ b) D:=Gr.g
 exact⟨hg,h.to hg hs hb',hb.held (i:=6) rfl⟩
theorem item_o(w:World)(D:Gh)(p:OC)(ks:List Bs)(pk:Bool)(x:Ax)(rest:List KT)(hr:rest≠[])(hm:PMs ks)(hK:KOk ks x.k)(hchk:chkK x.k=0)(iri:Value)(op0:Bool)(a0:Option Addr)(n c0:Nat)(xs:List (Ax×Value×Value×Value))(a:World)(A:Gh)(B:Nat)(hn:n<1024)
  [hk:Keeps D w] [hT:TB D] (h:OS w D p ks pk (aT x++rest) iri op0 (.slice a0 n c0)) (hO:VT.Own w D B 34 16 (.slice a0 n c0) n (xs.flatMap arow)) (hG:Gr none a A w D) (ha:a.heap.size≤p.g) (haB:a.heap.size≤B) (hls:p.g<B∧p.mp<B∧p.mi<B∧p.mc<B) (hBw:B≤w.heap.size):
  Calls prog 109 #[p.ptr] w fun e w'=>∃(D':Gh)(a1:Option Addr)(c1:Nat)(lp rp rl:Value),e=.returned (.tuple #[])∧Gr none a A w' D'∧Le D D'∧B≤w'.heap.size∧OS w' D' p ks false rest iri x.op (.slice a1 (n+1) c1)∧VT.Own w' D' B 34 16 (.slice a1 (n+1) c1) (n+1) ((xs++[(x,lp,rp,rl)]).flatMap arow)∧AV D' x lp rp rl:=by
 obtain⟨f,hf1,hf2,hf3⟩:=item_of p ks x.k hm hK rest iri x.op (.slice a0 n c0)
 obtain⟨v,hv⟩:∃v,v=Value.func (Fn.func f) #[p.ptr] #[]:=⟨_,rfl⟩
 rw[←hv]at hf1
 have hof:=h.off
 have hw:=hK.wf
 have H1:=hid (peek_o w D p ks pk 4 (kW x.k) _ iri op0 (.slice a0 n c0) h)
 have HF:=hid hf2
 have HV:=hid hv
 have HC:=hid hf3
 have HL:=hid hf1
 clear h hf1 hf2 hf3 hv
 go_enter func109,ntmps109
 go_wp2_with fail
 refine H1.out.mono ?_
 rintro e w1 ⟨a1,D1,rfl,hg1,hO1⟩
 have:=hg1.keeps
 have:New a p.g:=⟨ha⟩
 have hap:Apart (.slice a0 n c0) (some p.g):=hO.apart hls.1
 have o1:VT.Own w1 D1 B 34 16 (.slice a0 n c0) n (xs.flatMap arow):=ii
 have g1:Gr none a A w1 D1:=ii
 obtain⟨q,hq⟩:∃q,q=w1.heap.size:=⟨_,rfl⟩
 obtain⟨W1,hW1⟩:∃W,W=w1.alloc (.cells #[.int .i64 4,.string (str (kW x.k)),.int .i64 a1] 152):=⟨_,rfl⟩
 have hc1:Gro none w1 D1 W1 D1:=by rw[hW1];exact Gr.g
 have hOW:=hO1.gro hc1
 have:=hc1.keeps
 have g2:Gr none a A W1 D1:=ii
 have o2:VT.Own W1 D1 B 34 16 (.slice a0 n c0) n (xs.flatMap arow):=ii
 have b2:Box W1 D1 q 152 #[.int .i64 4,.string (str (kW x.k)),.int .i64 a1]:=by rw[hW1,hq];exact ii
 have hq1:p.g<q:=by rw[hq];exact hO1.lt
 have hq2:B≤q:=by rw[hq];have:=hg1.bl.size;omega
 have n2:NeX q (some p.g):=neGt' hq1
 have HW1:=hid hW1
 have HQ:=hid hq
 have KS:=hid (fun(W':World)(hb:Bel none W1 W')=>(by
  have hc:Cll none W1 W':=⟨hb.out⟩
  have hb':=@Box.call W1 W' D1 q 152 _ none hc b2 ii
  have hO':=hOW.n0 hc
  have:=run_look_ok (P:=prog) underlying90 underlying9 (z:=.nilFunc) (fun _=>by kernel_rfl) hO'.mi (kW x.k)
  rw[HL.out]at this
  exact⟨hO'.cells.2.2.2.1,Box.cell (h:=hb') 1,this⟩:W'.cell? ⟨p.g,7,none⟩=some (.map (some p.mi))∧W'.cell? ⟨q,1,none⟩=some (.string (str (kW x.k)))∧(Instr.lookup 90 (.map (some p.mi)) (.string (str (kW x.k))) true).run prog W'=.ok (.tuple #[v,.bool true]) W'))
 clear hW1 hq hO1 g1 o1
 go_wp2_with fail
 rw[←HQ.out,←HW1.out]
 go_region_held3 (fun W'=>W'.cell? ⟨p.g,7,none⟩=some (.map (some p.mi))∧W'.cell? ⟨q,1,none⟩=some (.string (str (kW x.k)))∧(Instr.lookup 90 (.map (some p.mi)) (.string (str (kW x.k))) true).run prog W'=.ok (.tuple #[v,.bool true]) W')
  (first|(refine KS.out _ ?_;exact ii;done)|go_keep) (fail)
 have hc2:Cll none W1 W1.drew:=Bel.c
 have hO2:=hOW.n0 hc2
 have H3:=hid (fun(_:Unit)=>pass_o W1.drew D1 p ks 4 (kW x.k) _ (by simp) iri op0 (.slice a0 n c0) hO2)
 clear hOW hO2 KS HL
 go_wp2_with fail
 refine(fail_ok _ _).mono ?_
 rintro e w2 ⟨rfl,rfl⟩
 go_wp2_with fail
 refine(H3.out ()).mono ?_
 rintro e w3 ⟨rfl,hg3,hO3⟩
 have:=hg3.keeps
 have H4:=hid (fun(_:Unit)=>want_o w3 D1 p ks false 1 [40] _ (by simp) iri op0 (.slice a0 n c0) hO3)
 clear hO3
 go_wp2_with fail
 refine(H4.out ()).mono ?_
 rintro e w4 ⟨D4,rfl,hg4,hO4⟩
 have:=hg4.keeps
 have b3:Box w3 D1 q 152 #[.int .i64 4,.string (str (kW x.k)),.int .i64 a1]:=ii
 have b4:Box w4 D4 q 152 #[.int .i64 4,.string (str (kW x.k)),.int .i64 a1]:=ii
 have o3:VT.Own w3 D1 B 34 16 (.slice a0 n c0) n (xs.flatMap arow):=ii
 have o4:VT.Own w4 D4 B 34 16 (.slice a0 n c0) n (xs.flatMap arow):=ii
 have g3:Gr none a A w3 D1:=ii
 have g4:Gr none a A w4 D4:=ii
 obtain⟨hg5,hO5,z5,z6⟩:=hO4.setOpen false
 have hl4:=hO4.lt
 obtain⟨W5,hW5⟩:∃W,W=w4.setCell ⟨p.g,5,none⟩ (.bool false):=⟨_,rfl⟩
 rw[←hW5]at hg5 hO5
 have HW5:=hid hW5
 have:=hg5.keeps
 have b5:Box W5 D4 q 152 #[.int .i64 4,.string (str (kW x.k)),.int .i64 a1]:=ii
 have o5:VT.Own W5 D4 B 34 16 (.slice a0 n c0) n (xs.flatMap arow):=ii
 have g5:Gr none a A W5 D4:=ii
 have hO5':OS W5 D4 p ks false ((if x.op then noteT else[])++(argsT x.k++tR::rest)) iri false (.slice a0 n c0):=by
  have:=hO5;simpa[aT]using this
 have hl5:B≤W5.heap.size:=by
  have h1:=hg1.bl.size
  have h2:w4.heap.size=W5.heap.size:=by rw[HW5.out];simp[World.setCell]
  have h3:=hg4.bl.size
  have h4:=hg3.bl.size
  have h5:q<w3.heap.size:=b3.lt
  omega
 have hle:Le D D4:=by
  refine⟨fun b o v e=>?_⟩
  exact hg4.le.out _ _ _ (hg1.le.out _ _ _ e)
 have hT4:TB D4:=ii
 clear hO5 hW5 hO4 b2 b3 b4 o2 o3 o4 g2 g3 g4 hg1 hg3 hg4 hc1 hc2
 go_wp2_with (first|((with_reducible show wpList _ _ _ ((⟨some 29,_,_,_,_,_⟩:Oper)::_) _ _);refine stopL ?_))
 unfold Stop
 repeat((fail_if_success (with_reducible show Code.wp _ (Code.region 6 _ _) _ _ _));go_step)
 rw[←HW5.out]
 clear HW5 z5 z6
 go_cut [5]from 31 (fun v5 wx=>∃(D6:Gh)(pk6:Bool),AxL D6 [⟨false,x.k⟩] v5∧Gr none a A wx D6∧Le D4 D6∧OS wx D6 p ks pk6 (tR::rest) iri x.op (.slice a0 n c0)∧Box wx D6 q 152 #[.int .i64 4,.string (str (kW x.k)),.int .i64 a1]∧VT.Own wx D6 B 34 16 (.slice a0 n c0) n (xs.flatMap arow)∧B≤wx.heap.size)
 case first=>
  have H6:=hid (fun(_:Unit)=>HC.out W5 D4 hg5.keeps hO5')
  clear hO5' HC
  obtain rfl:=HV.out
  rcases HF.out with rfl|rfl|rfl|rfl|rfl|rfl|rfl|rfl
  all_goals
   clear HF HV
   go_wp2_with fail
   refine(H6.out ()).mono ?_
   rintro e w6 ⟨v6,D6,pk6,rfl,hx6,hg6,hO6⟩
   go_wp2_with fail
   go_meet
   case rel=>exact⟨D6,pk6,hx6,ii,hg6.le,hO6,ii,ii,Nat.le_trans hl5 hg6.bl.size⟩
 case rest=>
  obtain⟨D6,pk6,hx6,g6,hle6,hO6,b6,o6,hl6⟩:=hcut
  have:=g6.keeps
  obtain⟨ys,hys,hsl,hav⟩:=hx6
  obtain⟨y,lp,rp,rl,rfl,rfl⟩:∃y lp rp rl,ys=[(y,lp,rp,rl)]∧y=⟨false,x.k⟩:=by
   rcases ys with _|⟨⟨y,lp,rp,rl⟩,_|⟨z,zs⟩⟩
   ·cases hys
   ·exact⟨y,lp,rp,rl,rfl,by simpa using hys⟩
   ·simp at hys
  have hv6:AV D6 ⟨false,x.k⟩ lp rp rl:=hav _ (List.mem_singleton.2 rfl)
  clear hys hav
  obtain⟨nl,hnl⟩:∃n,n=(oP x.k.left).length:=⟨_,rfl⟩
  obtain⟨nr,hnr⟩:∃n,n=(oP x.k.right).length:=⟨_,rfl⟩
  obtain⟨ns,hns⟩:∃n,n=x.k.roles.length:=⟨_,rfl⟩
  obtain⟨hvl,hvr,hvs⟩:=hv6
  dsimp only at hvl hvr hvs
  obtain⟨al,ml,rfl,_,_⟩:=PV.form hvl
  obtain⟨ar,mr,rfl,_,_⟩:=PV.form hvr
  obtain⟨av,ms,rfl,_,_⟩:=SlN.form hvs
  have hvx:AV D6 x (.slice al (oP x.k.left).length ml) (.slice ar (oP x.k.right).length mr) (.slice av x.k.roles.length ms):=⟨hvl,hvr,hvs⟩
  obtain⟨_,a7,c7,rfl,_,_,_,hcl⟩:=hsl
  obtain⟨b7,o7,rfl,hcm⟩:=hcl (by simp)
  have hcD:∀j u,(axc ⟨false,x.k⟩ (.slice al nl ml) (.slice ar nr mr) (.slice av ns ms))[j]? =some u→D6 b7 (o7+j)=some u:=fun j u e=>hcm j u (by
   rw[List.flatMap_cons,List.flatMap_nil,List.append_nil,arow,Array.getElem?_toList,←hnl,←hnr,←hns];exact e)
  rw[←hnl,←hnr,←hns]at hvx
  have HCD:=hid hcD
  have HVX:=hid hvx
  have H7:=hid (fun(_:Unit)=>want_o wc D6 p ks pk6 1 [41] rest hr iri x.op (.slice a0 n c0) hO6)
  clear hcl hcm hcD hvx hvl hvr hvs hnl hnr hns hO6
  go_wp2_with fail
  refine(H7.out ()).mono ?_
  rintro e w7 ⟨D7,rfl,hg7,hO7⟩
  have:=hg7.keeps
  have g7:Gr none a A w7 D7:=ii
  have o7':VT.Own w7 D7 B 34 16 (.slice a0 n c0) n (xs.flatMap arow):=ii
  have b7':Box w7 D7 q 152 #[.int .i64 4,.string (str (kW x.k)),.int .i64 a1]:=ii
  have hl7:B≤w7.heap.size:=Nat.le_trans hl6 hg7.bl.size
  have hle7:Le D D7:=⟨fun b o v e=>hg7.le.out _ _ _ (hle6.out _ _ _ (hle.out _ _ _ e))⟩
  have hc:∀j u,(axc ⟨false,x.k⟩ (.slice al nl ml) (.slice ar nr mr) (.slice av ns ms))[j]? =some u→w7.cell? ⟨b7,o7+j,none⟩=some u:=fun j u e=>Keeps.out (D:=D7) _ _ _ (hg7.le.out _ _ _ (HCD.out j u e))
  have hv7:AV D7 x (.slice al nl ml) (.slice ar nr mr) (.slice av ns ms):=by have:=hg7.le;exact HVX.out.le
  clear hg7 o6 b6 g6 HCD HVX
  go_wp2_with fail
  go_loopg [37] (1:Nat) (fun gk v wr=>∃i:Nat,gk+i=1∧v=.int .i64 i∧((i=0∧wr=w7)∨(i=1∧∃(a1:Option Addr)(c1:Nat),Gr none a A wr D7∧B≤wr.heap.size∧Hid (OS wr D7 p ks false rest iri x.op (.slice a1 (n+1) c1))∧VT.Own wr D7 B 34 16 (.slice a1 (n+1) c1) (n+1) ((xs++[(x,Value.slice al nl ml,Value.slice ar nr mr,Value.slice av ns ms)]).flatMap arow))))
  case atStart=>exact⟨0,rfl,rfl,.inl ⟨rfl,rfl⟩⟩
  case round=>
   obtain⟨i,hgk,rfl,hv⟩:=hrel
   rcases hv with⟨rfl,rfl⟩|⟨rfl,a8,c8,g8,hl8,hO8,o8⟩
   ·have HO7:=hid (fun(_:Unit)=>hO7)
    have k5:=hO7.cells.2.1
    clear hO7
    have cc0:wr.cell? ⟨b7,o7,none⟩=some (.int .i64 x.k.kind):=hc 0 _ rfl
    have c1:wr.cell? ⟨b7,o7+1,none⟩=some (.bool false):=hc 1 _ rfl
    have c2:wr.cell? ⟨b7,o7+2,none⟩=some (.int .i64 (oK x.k.left)):=hc 2 _ rfl
    have c3:wr.cell? ⟨b7,o7+3,none⟩=some (.string (str (oN x.k.left))):=hc 3 _ rfl
    have c4:wr.cell? ⟨b7,o7+4,none⟩=some (.int .i64 (oLo x.k.left)):=hc 4 _ rfl
    have c5:wr.cell? ⟨b7,o7+5,none⟩=some (.int .i64 (oHi x.k.left)):=hc 5 _ rfl
    have c6:wr.cell? ⟨b7,o7+6,none⟩=some (.slice al nl ml):=hc 6 _ rfl
    have c7:wr.cell? ⟨b7,o7+7,none⟩=some (.int .i64 (oK x.k.right)):=hc 7 _ rfl
    have c8:wr.cell? ⟨b7,o7+8,none⟩=some (.string (str (oN x.k.right))):=hc 8 _ rfl
    have c9:wr.cell? ⟨b7,o7+9,none⟩=some (.int .i64 (oLo x.k.right)):=hc 9 _ rfl
    have c10:wr.cell? ⟨b7,o7+10,none⟩=some (.int .i64 (oHi x.k.right)):=hc 10 _ rfl
    have c11:wr.cell? ⟨b7,o7+11,none⟩=some (.slice ar nr mr):=hc 11 _ rfl
    have c12:wr.cell? ⟨b7,o7+12,none⟩=some (.slice av ns ms):=hc 12 _ rfl
    have c13:wr.cell? ⟨b7,o7+13,none⟩=some (.string (str x.k.role)):=hc 13 _ rfl
    have c14:wr.cell? ⟨b7,o7+14,none⟩=some (.string (str x.k.a)):=hc 14 _ rfl
    have c15:wr.cell? ⟨b7,o7+15,none⟩=some (.string (str x.k.b)):=hc 15 _ rfl
    have hbl:b7<wr.heap.size:=World.block_lt_of_cell? wr _ cc0
    have hpl:p.g<wr.heap.size:=(HO7.out ()).lt
    clear hc
    obtain⟨t7,ht7⟩:∃t,t=wr.heap.size:=⟨_,rfl⟩
    have HT7:=hid ht7
    have hna:NeX t7 (Value.slice a0 n c0).ownBlock:=⟨fun e=>by have:=(o7'.lt t7 e.symm).2;omega⟩
    clear ht7
    obtain⟨W8,hW8⟩:∃W,W=wr.alloc (.cells #[.int .i64 x.k.kind,.bool x.op,.int .i64 (oK x.k.left),.string (str (oN x.k.left)),.int .i64 (oLo x.k.left),.int .i64 (oHi x.k.left),.slice al nl ml,.int .i64 (oK x.k.right),.string (str (oN x.k.right)),.int .i64 (oLo x.k.right),.int .i64 (oHi x.k.right),.slice ar nr mr,.slice av ns ms,.string (str x.k.role),.string (str x.k.a),.string (str x.k.b)] 34):=⟨_,rfl⟩
    have g8:Gr none a A W8 D7:=by rw[hW8];exact ii
    have:=g8.keeps
    have hc8:Gro none wr D7 W8 D7:=by rw[hW8];exact Gr.g
    have hO8:=(HO7.out ()).gro hc8
    have o8:VT.Own W8 D7 B 34 16 (.slice a0 n c0) n (xs.flatMap arow):=by rw[hW8];exact ii
    have b8:Box W8 D7 t7 34 #[.int .i64 x.k.kind,.bool x.op,.int .i64 (oK x.k.left),.string (str (oN x.k.left)),.int .i64 (oLo x.k.left),.int .i64 (oHi x.k.left),.slice al nl ml,.int .i64 (oK x.k.right),.string (str (oN x.k.right)),.int .i64 (oLo x.k.right),.int .i64 (oHi x.k.right),.slice ar nr mr,.slice av ns ms,.string (str x.k.role),.string (str x.k.a),.string (str x.k.b)]:=by rw[hW8];exact newAtO HT7.out.symm
    have hlt7:B≤t7:=by rw[HT7.out];exact hl7
    have hB8:=b8.heap
    have HW8:=hid hW8
    clear hW8 o7' b7' g7
    go_wp2_with (first|((with_reducible show wpList _ _ _ ((⟨some 46,_,_,_,_,_⟩:Oper)::_) _ _);rw[←HT7.out,←HW8.out];refine stopL ?_))
    unfold Stop
    clear HW8 HT7 cc0 c1 c2 c3 c4 c5 c6 c7 c8 c9 c10 c11 c12 c13 c14 c15 hbl hpl k5
    go_wp2_with (first|((with_reducible show wpList _ _ _ ((⟨_,.load 34 _,_,_,_,_⟩:Oper)::_) _ _);refine wpList_load_row rfl 34 _ rfl (t7) rfl (34) _ (0,0) _ (hB8) underlying34 rfl (hz34) ?_))
    refine(checkAxiom_c W8 D7 x (.slice al nl ml) (.slice ar nr mr) (.slice av ns ms) hv7 hw).mono ?_
    rintro e w9 ⟨rfl,hc9⟩
    have hO9:=hO8.n0 hc9
    rw[hchk]
    have b9:Box w9 D7 t7 34 #[.int .i64 x.k.kind,.bool x.op,.int .i64 (oK x.k.left),.string (str (oN x.k.left)),.int .i64 (oLo x.k.left),.int .i64 (oHi x.k.left),.slice al nl ml,.int .i64 (oK x.k.right),.string (str (oN x.k.right)),.int .i64 (oLo x.k.right),.int .i64 (oHi x.k.right),.slice ar nr mr,.slice av ns ms,.string (str x.k.role),.string (str x.k.a),.string (str x.k.b)]:=ii
    have o9:VT.Own w9 D7 B 34 16 (.slice a0 n c0) n (xs.flatMap arow):=ii
    have g9:Gr none a A w9 D7:=ii
    have:=g9.keeps
    have k6:=hO9.cells.2.2.1
    have hl9:B≤w9.heap.size:=Nat.le_trans (Nat.le_trans hlt7 (Nat.le_of_lt b8.lt)) hc9.size
    obtain⟨W10,hW10⟩:∃W,W=(w9.alloc (.cells #[.int .i64 x.k.kind,.bool x.op,.int .i64 (oK x.k.left),.string (str (oN x.k.left)),.int .i64 (oLo x.k.left),.int .i64 (oHi x.k.left),.slice al nl ml,.int .i64 (oK x.k.right),.string (str (oN x.k.right)),.int .i64 (oLo x.k.right),.int .i64 (oHi x.k.right),.slice ar nr mr,.slice av ns ms,.string (str x.k.role),.string (str x.k.a),.string (str x.k.b)] 34)).drew:=⟨_,rfl⟩
    have hcA:Gro none w9 D7 W10 D7:=by rw[hW10];exact Gr.g
    have hO10:=hO9.gro hcA
    have g10:Gr none a A W10 D7:=by rw[hW10];exact ii
    have:=g10.keeps
    have b10:Box W10 D7 t7 34 #[.int .i64 x.k.kind,.bool x.op,.int .i64 (oK x.k.left),.string (str (oN x.k.left)),.int .i64 (oLo x.k.left),.int .i64 (oHi x.k.left),.slice al nl ml,.int .i64 (oK x.k.right),.string (str (oN x.k.right)),.int .i64 (oLo x.k.right),.int .i64 (oHi x.k.right),.slice ar nr mr,.slice av ns ms,.string (str x.k.role),.string (str x.k.a),.string (str x.k.b)]:=by rw[hW10];exact ii
    have o10:VT.Own W10 D7 B 34 16 (.slice a0 n c0) n (xs.flatMap arow):=by rw[hW10];exact ii
    have n10:Box W10 D7 w9.heap.size 34 #[.int .i64 x.k.kind,.bool x.op,.int .i64 (oK x.k.left),.string (str (oN x.k.left)),.int .i64 (oLo x.k.left),.int .i64 (oHi x.k.left),.slice al nl ml,.int .i64 (oK x.k.right),.string (str (oN x.k.right)),.int .i64 (oLo x.k.right),.int .i64 (oHi x.k.right),.slice ar nr mr,.slice av ns ms,.string (str x.k.role),.string (str x.k.a),.string (str x.k.b)]:=by rw[hW10];exact@Box.drew _ D7 _ 34 _ (Box.new w9 D7 34 _)
    have hl10:B≤W10.heap.size:=Nat.le_trans hl9 hcA.bl.size
    obtain⟨v11,w11,hrun,o11,hc11⟩:=run_append_N (P:=prog) (t:=24) (ty:=24) underlying24 el34 o10 (b:=w9.heap.size) (o:=0) (m:=1) (c:=1) (news:=(#[.int .i64 x.k.kind,.bool x.op,.int .i64 (oK x.k.left),.string (str (oN x.k.left)),.int .i64 (oLo x.k.left),.int .i64 (oHi x.k.left),.slice al nl ml,.int .i64 (oK x.k.right),.string (str (oN x.k.right)),.int .i64 (oLo x.k.right),.int .i64 (oHi x.k.right),.slice ar nr mr,.slice av ns ms,.string (str x.k.role),.string (str x.k.a),.string (str x.k.b)]:Array Value).toList) (by simp) (fun j u hu=>by rw[Nat.zero_add,Box.cell (D:=D7)];simpa using hu) (by intro u hu;simp only[List.mem_cons,List.not_mem_nil,or_false]at hu;rcases hu with rfl|rfl|rfl|rfl|rfl|rfl|rfl|rfl|rfl|rfl|rfl|rfl|rfl|rfl|rfl|rfl<;>rfl) (by unfold maxLen;omega) (by omega) hl10
    obtain⟨a11,m11,rfl⟩:=own_form o11
    have:=o10.off
    have hgA:Gro (Value.slice a0 n c0).ownBlock W10 D7 w11 D7:=Gr.g
    have hlt:=fun k e=>(o10.lt k e).1
    have hO11:=OS.own hO10 hls hlt hgA
    have:VT.Sub (Value.slice a0 n c0).ownBlock none a:=o10.sub none haB
    have g11:Gr none a A w11 D7:=ii
    have:=g11.keeps
    have b11:Box w11 D7 t7 34 _:=@Box.call W10 w11 D7 t7 34 _ _ hc11 b10 hna
    have k6b:=hO10.cells.2.2.1
    have k6c:=hO11.cells.2.2.1
    obtain⟨hg12,hO12,k6d,k6e⟩:=hO11.setAx (.slice a11 (n+1) m11)
    have hpl:=hO11.lt
    have b12:Box (w11.setCell ⟨p.g,6,none⟩ (.slice a11 (n+1) m11)) D7 t7 34 _:=Box.far (h:=b11) (by omega) _
    have HW10:=hid hW10
    clear hW10 hB8
    go_wp2_with fail
    refine wp_region_held_drew (S:=fun W'=>W'.heap[t7]? =some (.cells #[.int .i64 x.k.kind,.bool x.op,.int .i64 (oK x.k.left),.string (str (oN x.k.left)),.int .i64 (oLo x.k.left),.int .i64 (oHi x.k.left),.slice al nl ml,.int .i64 (oK x.k.right),.string (str (oN x.k.right)),.int .i64 (oLo x.k.right),.int .i64 (oHi x.k.right),.slice ar nr mr,.slice av ns ms,.string (str x.k.role),.string (str x.k.a),.string (str x.k.b)] 34 (0,0))) (by kernel_rfl) (b9.heap) (fun hHeld=>?_)
    refine wpAnyH_take (i:=0) (v:=?_) rfl (by kernel_rfl) (by kernel_rfl) (by kernel_rfl) (fun _ _ _ h=>h) (Or.inl ⟨by rfl,?_⟩) hHeld ?_
    rotate_left
    ·(intro wz hSw;(try dsimp only at hSw);go_simp;try with_reducible rfl)
    simp only[Act.put,List.getElem_toArray,List.getElem_cons_zero,List.setIfInBounds_toArray,List.set_cons_zero,List.set_cons_succ]
    refine wpAnyH_take (i:=1) (v:=?_) rfl (by kernel_rfl) (by kernel_rfl) (by kernel_rfl) (fun _ _ _ h=>h) (Or.inl ⟨by rfl,?_⟩) hHeld ?_
    rotate_left
    ·(intro wz hSw;(try dsimp only at hSw);go_simp;try with_reducible rfl)
    simp only[Act.put,List.getElem_toArray,List.getElem_cons_zero,List.getElem_cons_succ,List.setIfInBounds_toArray,List.set_cons_zero,List.set_cons_succ]
    refine wpAnyH_take (i:=2) (v:=?_) rfl (by kernel_rfl) (by kernel_rfl) (by kernel_rfl) (fun _ _ _ h=>h) (Or.inl ⟨by rfl,?_⟩) hHeld ?_
    rotate_left
    ·(intro wz hSw;(try dsimp only at hSw);go_simp;try with_reducible rfl)
    simp only[Act.put,List.getElem_toArray,List.getElem_cons_zero,List.getElem_cons_succ,List.setIfInBounds_toArray,List.set_cons_zero,List.set_cons_succ]
    refine wpAnyH_take (i:=3) (v:=?_) rfl (by kernel_rfl) (by kernel_rfl) (by kernel_rfl) (fun _ _ _ h=>h) (Or.inl ⟨by rfl,?_⟩) hHeld ?_
    rotate_left
    ·(intro wz hSw;(try dsimp only at hSw);go_simp;try with_reducible rfl)
    simp only[Act.put,List.getElem_toArray,List.getElem_cons_zero,List.getElem_cons_succ,List.setIfInBounds_toArray,List.set_cons_zero,List.set_cons_succ]
    refine wpAnyH_take (i:=5) rfl (by kernel_rfl) (by kernel_rfl) (by kernel_rfl) (fun _ _ _ h=>h) (yieldsIf_row (by rfl) 34 _ rfl _ rfl 34 _ _ (fun w h=>h) (underlying34) rfl (hz34)) hHeld ?_
    simp only[Act.put,List.getElem_toArray,List.getElem_cons_zero,List.getElem_cons_succ,List.setIfInBounds_toArray,List.set_cons_zero,List.set_cons_succ]
    refine wpAnyH_ready (rs:=[4,6]) (by kernel_rfl) (by simp) (AllReadyH.cons rfl (fun K' hK=>?_) (AllReadyH.cons rfl (fun K' hK=>?_) AllReadyH.nil))
    ·go_simp
     refine hK.out _ _ (b9.heap) (fun hHeld=>?_)
     clear hK K'
     refine wpAnyH_ready (rs:=[6]) (by kernel_rfl) (by simp) (AllReadyH.cons rfl (fun K' hK=>?_) AllReadyH.nil)
     go_simp
     rw[←HW10.out]
     refine hK.out _ _ (b10.heap) (fun hHeld=>?_)
     clear hK K'
     refine wpAnyH_ready (rs:=[7]) (by kernel_rfl) (by simp) (AllReadyH.cons rfl (fun K' hK=>?_) AllReadyH.nil)
     refine step_append_run (by rfl) _ _ 24 24 (by rfl) _ _ (by rfl) (by rfl) _ _ hrun ?_
     refine hK.out _ _ (b11.heap) (fun hHeld=>?_)
     clear hK K'
     refine wpAnyH_take (i:=8) (v:=?_) rfl (by kernel_rfl) (by kernel_rfl) (by kernel_rfl) (fun _ _ _ h=>h) (Or.inl ⟨by rfl,?_⟩) hHeld ?_
     rotate_left
     ·(intro wz hSw;(try dsimp only at hSw);go_simp;try with_reducible rfl)
     simp only[Act.put,List.getElem_toArray,List.getElem_cons_zero,List.getElem_cons_succ,List.setIfInBounds_toArray,List.set_cons_zero,List.set_cons_succ]
     refine wpAnyH_take (i:=9) (v:=?_) rfl (by kernel_rfl) (by kernel_rfl) (by kernel_rfl) (fun _ _ _ h=>h) (Or.inl ⟨by rfl,?_⟩) hHeld ?_
     rotate_left
     ·(intro wz hSw;(try dsimp only at hSw);go_simp;try with_reducible rfl)
     simp only[Act.put,List.getElem_toArray,List.getElem_cons_zero,List.getElem_cons_succ,List.setIfInBounds_toArray,List.set_cons_zero,List.set_cons_succ]
     refine wpAnyH_ready (rs:=[10]) (by kernel_rfl) (by simp) (AllReadyH.cons rfl (fun K' hK=>?_) AllReadyH.nil)
     go_simp
     refine hK.out _ _ (b12.heap) (fun hHeld=>?_)
     clear hK K'
     refine wpAnyH_done (by kernel_rfl) ?_ _
     go_wp2_with fail
     go_roundg 0
     case measure=>omega
     case rel=>
      have:=hO11.off
      refine⟨1,rfl,rfl,.inr ⟨rfl,a11,m11,ii,by rw[show(w11.setCell ⟨p.g,6,none⟩ (.slice a11 (n+1) m11)).heap.size=w11.heap.size from by simp[World.setCell]];exact Nat.le_trans hl10 hgA.bl.size,hid hO12,?_⟩⟩
      rw[List.flatMap_append]
      have hap11:=o11.apart hls.1
      exact VT.Own.far (h:=o11) (fun e=>hap11.out _ e rfl) _
    ·go_simp
     rw[←HW10.out]
     refine hK.out _ _ (b10.heap) (fun hHeld=>?_)
     clear hK K'
     refine wpAnyH_ready (rs:=[4]) (by kernel_rfl) (by simp) (AllReadyH.cons rfl (fun K' hK=>?_) AllReadyH.nil)
     go_simp
     refine hK.out _ _ (b10.heap) (fun hHeld=>?_)
     clear hK K'
     refine wpAnyH_ready (rs:=[7]) (by kernel_rfl) (by simp) (AllReadyH.cons rfl (fun K' hK=>?_) AllReadyH.nil)
     refine step_append_run (by rfl) _ _ 24 24 (by rfl) _ _ (by rfl) (by rfl) _ _ hrun ?_
     refine hK.out _ _ (b11.heap) (fun hHeld=>?_)
     clear hK K'
     refine wpAnyH_take (i:=8) (v:=?_) rfl (by kernel_rfl) (by kernel_rfl) (by kernel_rfl) (fun _ _ _ h=>h) (Or.inl ⟨by rfl,?_⟩) hHeld ?_
     rotate_left
     ·(intro wz hSw;(try dsimp only at hSw);go_simp;try with_reducible rfl)
     simp only[Act.put,List.getElem_toArray,List.getElem_cons_zero,List.getElem_cons_succ,List.setIfInBounds_toArray,List.set_cons_zero,List.set_cons_succ]
     refine wpAnyH_take (i:=9) (v:=?_) rfl (by kernel_rfl) (by kernel_rfl) (by kernel_rfl) (fun _ _ _ h=>h) (Or.inl ⟨by rfl,?_⟩) hHeld ?_
     rotate_left
     ·(intro wz hSw;(try dsimp only at hSw);go_simp;try with_reducible rfl)
     simp only[Act.put,List.getElem_toArray,List.getElem_cons_zero,List.getElem_cons_succ,List.setIfInBounds_toArray,List.set_cons_zero,List.set_cons_succ]
     refine wpAnyH_ready (rs:=[10]) (by kernel_rfl) (by simp) (AllReadyH.cons rfl (fun K' hK=>?_) AllReadyH.nil)
     go_simp
     refine hK.out _ _ (b12.heap) (fun hHeld=>?_)
     clear hK K'
     refine wpAnyH_done (by kernel_rfl) ?_ _
     go_wp2_with fail
     go_roundg 0
     case measure=>omega
     case rel=>
      have:=hO11.off
      refine⟨1,rfl,rfl,.inr ⟨rfl,a11,m11,ii,by rw[show(w11.setCell ⟨p.g,6,none⟩ (.slice a11 (n+1) m11)).heap.size=w11.heap.size from by simp[World.setCell]];exact Nat.le_trans hl10 hgA.bl.size,hid hO12,?_⟩⟩
      rw[List.flatMap_append]
      have hap11:=o11.apart hls.1
      exact VT.Own.far (h:=o11) (fun e=>hap11.out _ e rfl) _
   ·have k6:=hO8.out.cells.2.2.1
    have hpl:=hO8.out.lt
    have hnn:(n:Int)+1≤1024:=by omega
    go_wp2_with fail
    go_end0
    exact⟨D7,a8,c8,_,_,_,rfl,g8,hle7,hl8,hO8.out,o8,hv7⟩
end Go.Proofs.YticgonfhjcaohaaGreatDoor
namespace Go.Proofs.YticgonfhjcaohaaGreatDoor
open Go.RowKit Go.VT _root_.Go.Proofs.Tryz
theorem OS.setIri{w:World}{D:Gh}{p:OC}{ks:List Bs}{pk:Bool}{ts:List KT}{iri:Value}{op:Bool}{ax:Value}[Keeps D w](h:OS w D p ks pk ts iri op ax)(b:Value):Gro (some p.g) w D (w.setCell ⟨p.g,4,none⟩ b) D∧OS (w.setCell ⟨p.g,4,none⟩ b) D p ks pk ts b op ax∧w.cell? ⟨p.g,4,none⟩=some iri∧w.frozen? ⟨p.g,4,none⟩=false:=by
 obtain⟨i,v,hs,hb⟩:=h.st
 have:=h.off
 have hb':Box (w.setCell ⟨p.g,4,none⟩ b) D p.g 93 (orow p i v b op ax):=by simpa using@Box.set_ _ D p.g 93 _ 4 b hb
 have hg:Gro (some p.g) w D (w.setCell ⟨p.g,4,none⟩ b) D:=Gr.g
 exact⟨hg,h.to hg hs hb',hb.held (i:=4) rfl⟩
theorem OS.note{w:World}{D:Gh}{p:OC}{ks:List Bs}{pk:Bool}{ts:List KT}{iri:Value}{op:Bool}{ax:Value}(h:OS w D p ks pk ts iri op ax)(hd:p.mi≠p.mp∧p.mc≠p.mp){s:Bs}(hs:¬s∈ks):
  ∃w',(Instr.mapUpdate 89 (.map (some p.mp)) (.string (str s)) (.bool true)).run prog w=.ok () w'∧Cll (some p.mp) w w'∧OS w' D p (ks++[s]) pk ts iri op ax:=by
 obtain⟨w',h1,h2,h3⟩:=run_insert_new (P:=prog) underlying89 underlying9 h.mp (lookS_pm_no hs) (.bool true)
 obtain⟨i,v,hst,hb⟩:=h.st
 have hne:=h.mp.ne hb
 have:NeX p.g (some p.mp):=⟨fun e=>hne (Option.some.inj e).symm⟩
 refine⟨w',h1,h3,⟨⟨i,v,hst,Box.call w w' D p.g 93 _ (some p.mp)⟩,by rw[pmOf,List.map_append];exact h2,h.mi.of (h3.out.block _ h.mi.lt (fun e=>hd.1 (Option.some.inj e))),h.mc.of (h3.out.block _ h.mc.lt (fun e=>hd.2 (Option.some.inj e))),h.hn,h.lim,h.byt⟩⟩
theorem off_gro{X:Option Nat}{w w':World}{D D':Gh}{g:Nat}(h:Gro X w D w' D')(k:Off D g∧g<w.heap.size):Off D' g∧g<w'.heap.size:=
 ⟨⟨fun o=>(h.old g k.2 o).trans (k.1.out o)⟩,Nat.lt_of_lt_of_le k.2 h.bl.size⟩
theorem prefix_w(w:World)(D:Gh)(p:OC)(ks:List Bs)(pk:Bool)(wd s:Bs)(b0 b1 b2:Bool)(n:Nat)(rest:List KT)(hr:rest≠[])(hwl:wd.length=n+1)(hn:n≤100000)(hidx:Lib.indexByte wd 58=(n:Int))(h0:((str wd).toList==[58])=b0)(hlt:b0=false→∃c q,wd=c::q∧letterB c=true)
  (h1:((str wd).toList==[111,119,108,58])=b1) (h1':b1=true→60::(s++[62])=o_owliri) (h2:((str wd).toList==[120,115,100,58])=b2) (h2':b2=true→60::(s++[62])=o_xsdiri) (hs:s.length≤100000) (hks:¬wd∈ks) (iri:Value) (op:Bool) (ax:Value)
  (a:World) (A:Gh) (hd:p.mi≠p.mp∧p.mc≠p.mp) (ha:a.heap.size≤p.g∧a.heap.size≤p.mp) [hk:Keeps D w] (hG:Gr none a A w D) (hof:Off D p.mp) (hmp:p.mp<w.heap.size) (h:OS w D p ks pk ((4,o_prefix)::tL::(4,wd)::(1,[61])::(2,60::(s++[62]))::tR::rest) iri op ax):
  Calls prog 104 #[p.ptr] w fun e w'=>∃D':Gh,e=.returned (.tuple #[])∧Gr none a A w' D'∧Off D' p.mp∧w.heap.size≤w'.heap.size∧Le D D'∧OS w' D' p (ks++[wd]) false rest (if b0 then .string (str s)else iri) op ax:=by
 have hsz:(str wd).size=n+1:=by rw[str_size,hwl]
 have HI:=hid (fun w=>strings_Index_one (str wd) 58 w)
 rw[str_data,hidx]at HI
 obtain⟨c,q,hcq⟩:∃c q,wd=c::q:=by
  rcases wd with _|⟨c,q⟩
  ·simp at hwl
  ·exact⟨c,q,rfl⟩
 have hg0:=str_get0 c q
 rw[←hcq]at hg0
 have hlet:b0=false→letterB c=true:=fun e=>by
  obtain⟨c',q',e1,e2⟩:=hlt e
  rw[hcq]at e1;cases e1;exact e2
 have hLet:b0=false→∀w:World,Calls prog 157 #[.int .u8 (c.toNat:Int)] w fun e' w'=>e'=.returned (.bool true)∧w=w':=fun e w=>(isLetterO_c c w).mono fun e' w' h=>⟨by rw[h.1,hlet e],h.2⟩
 have HLet:=hid hLet
 clear hLet
 obtain⟨t,ht⟩:∃t,t=60::(s++[62]):=⟨_,rfl⟩
 obtain⟨m,hm⟩:∃m,m=s.length:=⟨_,rfl⟩
 have htz:(str t).size=m+2:=by rw[str_size,ht,hm];simp
 have hex:(str t).extract 1 (m+2-1)=str s:=by rw[ht,str_extract,hm];simp
 have hex2:(str t).extract 1 (m+1)=str s:=hex
 rw[←ht]at h h1' h2'
 rw[←hm]at hs
 have k1:b1=true→((str t).toList==[60,104,116,116,112,58,47,47,119,119,119,46,119,51,46,111,114,103,47,50,48,48,50,47,48,55,47,111,119,108,35,62])=true:=fun e=>by rw[str_toList,h1' e];rfl
 have k2:b2=true→((str t).toList==[60,104,116,116,112,58,47,47,119,119,119,46,119,51,46,111,114,103,47,50,48,48,49,47,88,77,76,83,99,104,101,109,97,35,62])=true:=fun e=>by rw[str_toList,h2' e];rfl
 have K1:=hid k1
 have K2:=hid k2
 have H1:=hid (fun(_:Unit)=>want_o w D p ks pk 4 o_prefix _ (by simp) iri op ax h)
 have hpof:=h.off
 have HKS:=hid hks
 have hcz:(c.toNat:Int)<256:=by have:=c.toNat_lt;omega
 clear h hwl hidx hlt h1' h2' ht hm hcq hlet k1 k2 hks
 go_enter func104,ntmps104
 go_wp2_with fail
 refine(H1.out ()).mono ?_
 rintro e w1 ⟨D1,rfl,hg1,hO1⟩
 have:=hg1.keeps
 have H2:=hid (fun(_:Unit)=>want_o w1 D1 p ks false 1 [40] _ (by simp) iri op ax hO1)
 clear hO1
 go_wp2_with fail
 refine(H2.out ()).mono ?_
 rintro e w2 ⟨D2,rfl,hg2,hO2⟩
 have:=hg2.keeps
 have H3:=hid (fun(_:Unit)=>peek_o w2 D2 p ks false 4 wd _ iri op ax hO2)
 clear hO2
 have f0:=fld152_0
 have f1:=fld152_1
 go_wp2_with fail
 refine(H3.out ()).mono ?_
 rintro e w3 ⟨a3,D3,rfl,hg3,hO3⟩
 have:=hg3.keeps
 have H4:=hid (fun(_:Unit)=>peek_o w3 D3 p ks true 4 wd _ iri op ax hO3)
 clear hO3
 go_wp2_with fail
 refine(H4.out ()).mono ?_
 rintro e w4 ⟨a4,D4,rfl,hg4,hO4⟩
 have:=hg4.keeps
 have c3:=hO4.cells.1
 have hl:=look_pm_no hO4.mp HKS.out
 have H5:=hid (fun(_:Unit)=>pass_o w4 D4 p ks 4 wd _ (by simp) iri op ax hO4)
 clear hO4
 cases b0
 all_goals
  go_wp2_with (first|(go_at_call 156;refine(HI.out _).mono ?_;rintro e w4 ⟨rfl,rfl⟩)|(go_at_call 157;refine(HLet.out (by simp) _).mono ?_;rintro e w4 ⟨rfl,rfl⟩))
  refine(fail_ok _ _).mono ?_
  rintro e w4 ⟨rfl,rfl⟩
  go_wp2_with fail
  refine(H5.out ()).mono ?_
  rintro e w5 ⟨rfl,hg5,hO5⟩
  have:=hg5.keeps
  have H6:=hid (fun(_:Unit)=>want_o w5 D4 p ks false 1 [61] _ (by simp) iri op ax hO5)
  clear hO5 hl c3
  go_wp2_with fail
  refine(H6.out ()).mono ?_
  rintro e w6 ⟨D6,rfl,hg6,hO6⟩
  have:=hg6.keeps
  have H7:=hid (fun(_:Unit)=>peek_o w6 D6 p ks false 2 t _ iri op ax hO6)
  clear hO6
  go_wp2_with fail
  refine(H7.out ()).mono ?_
  rintro e w7 ⟨a7,D7,rfl,hg7,hO7⟩
  have:=hg7.keeps
  have H8:=hid (fun(_:Unit)=>peek_o w7 D7 p ks true 2 t _ iri op ax hO7)
  clear hO7
  go_wp2_with fail
  refine(H8.out ()).mono ?_
  rintro e w8 ⟨a8,D8,rfl,hg8,hO8⟩
  have:=hg8.keeps
  have H9:=hid (fun(_:Unit)=>pass_o w8 D8 p ks 2 t _ (by simp) iri op ax hO8)
  clear hO8
  have kk1:=K1.out
  have kk2:=K2.out
  cases b1
  all_goals
   cases b2
  all_goals
   try have e1:=kk1 rfl
   try have e2:=kk2 rfl
   clear kk1 kk2
   go_wp2_with fail
   refine(fail_ok _ _).mono ?_
   rintro e w8 ⟨rfl,rfl⟩
   go_wp2_with fail
   refine(H9.out ()).mono ?_
   rintro e w9 ⟨rfl,hg9,hO9⟩
   have:=hg9.keeps
   have H10:=hid (fun(_:Unit)=>want_o w9 D8 p ks false 1 [41] _ hr iri op ax hO9)
   clear hO9
   go_wp2_with fail
   refine(H10.out ()).mono ?_
   rintro e w10 ⟨D10,rfl,hg10,hO10⟩
   have:=hg10.keeps
   have hoff:=off_gro hg10 (off_gro hg9 (off_gro hg8 (off_gro hg7 (off_gro hg6 (off_gro hg5 (off_gro hg4 (off_gro hg3 (off_gro hg2 (off_gro hg1 ⟨hof,hmp⟩)))))))))
   have hsz10:w.heap.size≤w10.heap.size:=Nat.le_trans hg1.bl.size (Nat.le_trans hg2.bl.size (Nat.le_trans hg3.bl.size (Nat.le_trans hg4.bl.size (Nat.le_trans hg5.bl.size (Nat.le_trans hg6.bl.size (Nat.le_trans hg7.bl.size (Nat.le_trans hg8.bl.size (Nat.le_trans hg9.bl.size hg10.bl.size))))))))
   have hle10:Le D D10:=⟨fun b o v e=>hg10.le.out _ _ _ (hg8.le.out _ _ _ (hg7.le.out _ _ _ (hg6.le.out _ _ _ (hg4.le.out _ _ _ (hg3.le.out _ _ _ (hg2.le.out _ _ _ (hg1.le.out _ _ _ e)))))))⟩
   have:New a p.g:=⟨ha.1⟩
   have:New a p.mp:=⟨ha.2⟩
   have g1:Gr none a A w1 D1:=ii
   have g2:Gr none a A w2 D2:=ii
   have g3:Gr none a A w3 D3:=ii
   have g4:Gr none a A w4 D4:=ii
   have g5:Gr none a A w5 D4:=ii
   have g6:Gr none a A w6 D6:=ii
   have g7:Gr none a A w7 D7:=ii
   have g8:Gr none a A w8 D8:=ii
   have g9:Gr none a A w9 D8:=ii
   have g10:Gr none a A w10 D10:=ii
   have c10:=hO10.cells.1
   obtain⟨w11,hrun,hc11,hO11⟩:=hO10.note hd HKS.out
   have:=hoff.1
   have:Keeps D10 w11:=Keeps.call (some p.mp) D10 w10 w11
   have g11:Gr none a A w11 D10:=ii
   have hsz11:w.heap.size≤w11.heap.size:=Nat.le_trans hsz10 hc11.size
   clear hg1 hg2 hg3 hg4 hg5 hg6 hg7 hg8 hg9 hg10 hO10 g1 g2 g3 g4 g5 g6 g7 g8 g9
   obtain⟨hg12,hO12,i1,i2⟩:=hO11.setIri (.string (str s))
   have HO11:=hid hO11
   have HO12:=hid hO12
   have:=hO11.off
   have hl11:=hO11.lt
   have g12:Gr none a A (w11.setCell ⟨p.g,4,none⟩ (.string (str s))) D10:=ii
   clear hO11 hO12
   go_wp2_with fail
   go_end0
   first
    |exact⟨rfl,D10,g11,hoff.1,hsz11,hle10,HO11.out⟩
    |exact⟨rfl,D10,g12,hoff.1,by simpa[World.setCell]using hsz11,hle10,HO12.out⟩
end Go.Proofs.YticgonfhjcaohaaGreatDoor
