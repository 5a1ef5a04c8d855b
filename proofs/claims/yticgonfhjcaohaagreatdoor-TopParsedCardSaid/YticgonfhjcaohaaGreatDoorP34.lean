/- TopParsed, part 34. -/
import Derived.Test.YticgonfhjcaohaaGreatDoorP17
import Derived.Test.YticgonfhjcaohaaGreatDoorP31
import Derived.Test.YticgonfhjcaohaaGreatDoorP33
set_option maxRecDepth 100000
set_option maxHeartbeats 32000000
namespace Go.Proofs.YticgonfhjcaohaaGreatDoor
open Go.RowKit Go.VT _root_.Go.Proofs.Tryz
theorem tkrow_at(xs:List Tk)(j:Nat)(x:Tk)(h:xs[j]? =some x)(i:Nat)(u:Value)(hu:(tkrow x)[i]? =some u):(xs.flatMap tkrow)[j*3+i]? =some u:=by
 induction xs generalizing j with
 |nil=>simp at h
 |cons y r ih=>
  rw[List.flatMap_cons]
  have hi:i<3:=by
   rcases Nat.lt_or_ge i 3 with hi|hi
   ·exact hi
   ·rw[List.getElem?_eq_none (by simpa[tkrow]using hi)]at hu;cases hu
  cases j with
  |zero=>
   obtain rfl:y=x:=by simpa using h
   rw[List.getElem?_append_left (by simp[tkrow];omega),Nat.zero_mul,Nat.zero_add];exact hu
  |succ j=>
   rw[List.getElem?_append_right (by simp[tkrow];omega)]
   have e:(j+1)*3+i-(tkrow y).length=j*3+i:=by simp[tkrow];omega
   rw[e];exact ih j (by simpa using h)
theorem ts_of{D:Gh}{ts:List Tk}{b o c n k:Nat}{g:Nat}{M:Value}(h:SlN D 3 (.slice (some ⟨b,o,none⟩) n c) (ts.length+1) ((ts++[(⟨4,[],k⟩:Tk)]).flatMap tkrow))(hok:∀t∈ts,tokOk t)(hl:ts.length≤65536):
  TS D ⟨g,b,o,c,M,ts++[⟨4,[],k⟩]⟩:=by
 obtain⟨_,a',c',hv,h1,h2,h3,h4⟩:=h
 cases hv
 obtain⟨b',o',ha,hx⟩:=h4 (by omega)
 cases ha
 have lst:∀(j:Nat)(t:Tk),(ts++[(⟨4,[],k⟩:Tk)])[j]? =some t→(j<ts.length∧t∈ts)∨(j=ts.length∧t=⟨4,[],k⟩):=fun j t e=>by
  rcases Nat.lt_or_ge j ts.length with hj|hj
  ·rw[List.getElem?_append_left hj]at e
   exact .inl ⟨hj,List.mem_of_getElem? e⟩
  ·rw[List.getElem?_append_right hj]at e
   have hz:j-ts.length=0:=by
    rcases Nat.eq_zero_or_pos (j-ts.length)with h|h
    ·exact h
    ·rw[List.getElem?_eq_none (by simp;omega)]at e;cases e
   rw[hz]at e
   exact .inr ⟨by omega,by simpa using e.symm⟩
 have mem:∀t∈ts++[(⟨4,[],k⟩:Tk)],t∈ts∨t=⟨4,[],k⟩:=fun t h=>by simpa using h
 refine⟨fun j t e=>?_,fun j t e=>?_,fun j t e=>?_,⟨by simpa using h1,by unfold maxLen at h2;omega,by simp;omega⟩,fun t h h1=>?_,fun t h h2=>?_,fun t h=>?_,fun j t e=>?_⟩
 ·exact hx _ _ (tkrow_at _ j t e 0 _ rfl)
 ·have:=hx _ _ (tkrow_at _ j t e 1 _ rfl);rw[←Nat.add_assoc]at this;exact this
 ·have:=hx _ _ (tkrow_at _ j t e 2 _ rfl);rw[←Nat.add_assoc]at this;exact this
 ·rcases mem t h with h|rfl
  ·exact(hok t h).1
  ·simp at h1
 ·rcases mem t h with h|rfl
  ·exact(hok t h).2.2.1 h2
  ·simp at h2
 ·rcases mem t h with h|rfl
  ·exact(hok t h).2.2.2
  ·simp
 ·rcases lst j t e with⟨hj,ht⟩|⟨rfl,rfl⟩
  ·have:=hok t ht
   constructor
   ·constructor
    ·intro h;exact absurd h this.1
    ·intro h;simp at h;omega
   ·constructor
    ·intro h;exact absurd h this.2.1
    ·intro h;simp at h;omega
  ·simp
structure DocI(N:Nat)(toks:List Tk)(k:Nat)(l:List Ax)(more:Nat):Prop where
 good:∀y∈l,VT.Good y
 tok:(tokD l).length+(toks.drop k).length≤toks.length
 full:∀n L,pDoc N n toks=some L→more=0∧∃n' l',pDoc N n' (toks.drop k)=some l'∧L=l++l'
theorem DocI.start(N:Nat)(toks:List Tk):DocI N toks 0 [] 0:=⟨by simp,by simp[tokD],fun n L h=>⟨rfl,n,L,by simpa using h,rfl⟩⟩
theorem pDoc_cons{N n:Nat}{ts:List Tk}{t:Tk}{r:List Tk}{l':List Ax}(ht:ts=t::r)(hk:t.kind≠4)(h:pDoc N n ts=some l'):∃n',((pItemT N ts).bind fun(y,r)=>(pDoc N n' r).map (y:: ·))=some l':=by
 subst ht
 cases n with
 |zero=>simp[pDoc]at h
 |succ n=>
  rw[pDoc]at h
  simp only[hk,if_false]at h
  exact⟨n,h⟩
theorem DocI.yes{N:Nat}{toks:List Tk}{k k':Nat}{l:List Ax}{more:Nat}(h:DocI N toks k l more){t:Tk}(ht:toks[k]? =some t)(hk:t.kind≠4){y:Ax}(hi:pItemT N (toks.drop k)=some (y,toks.drop k')):DocI N toks k' (l++[y]) more:=by
 obtain⟨g1,g2⟩:=item_facts hi
 refine⟨fun z hz=>?_,?_,fun n L hL=>?_⟩
 ·rcases List.mem_append.1 hz with hz|hz
  ·exact h.good z hz
  ·rw[List.mem_singleton.1 hz];exact g1
 ·have:=h.tok
  have e:(tokD (l++[y])).length=(tokD l).length+((tokA y).length+1):=by simp[tokD]
  omega
 ·obtain⟨h0,n',l',h1,rfl⟩:=h.full n L hL
  obtain⟨hl,e⟩:=List.getElem?_eq_some_iff.1 ht
  obtain⟨n2,h2⟩:=pDoc_cons (by rw[List.drop_eq_getElem_cons hl,e]) hk h1
  rw[hi]at h2
  simp only[Option.bind_some,Option.map_eq_some_iff]at h2
  obtain⟨q,hq,rfl⟩:=h2
  exact⟨h0,n2,q,hq,by simp⟩
theorem DocI.no{N:Nat}{toks:List Tk}{k k':Nat}{l:List Ax}{more:Nat}(h:DocI N toks k l more){t:Tk}(ht:toks[k]? =some t)(hk:t.kind≠4)(hi:pItemT N (toks.drop k)=none)(hkk:k≤k')(m:Nat):DocI N toks k' l m:=by
 refine⟨h.good,?_,fun n L hL=>?_⟩
 ·have:=h.tok
  rw[List.length_drop]at this⊢
  omega
 ·obtain⟨h0,n',l',h1,rfl⟩:=h.full n L hL
  obtain⟨hl,e⟩:=List.getElem?_eq_some_iff.1 ht
  obtain⟨n2,h2⟩:=pDoc_cons (by rw[List.drop_eq_getElem_cons hl,e]) hk h1
  rw[hi]at h2
  simp at h2
theorem DocI.done{N:Nat}{toks:List Tk}{k:Nat}{l:List Ax}{more:Nat}(h:DocI N toks k l more){t:Tk}(ht:toks[k]? =some t)(hk:t.kind=4):∀n L,pDoc N n toks=some L→more=0∧L=l:=by
 intro n L hL
 obtain⟨h0,n',l',h1,rfl⟩:=h.full n L hL
 obtain⟨hl,e⟩:=List.getElem?_eq_some_iff.1 ht
 rw[List.drop_eq_getElem_cons hl,e]at h1
 cases n' with
 |zero=>simp[pDoc]at h1
 |succ n=>
  rw[pDoc]at h1
  simp only[hk,if_true,Option.some.injEq]at h1
  exact⟨h0,by rw[←h1];simp⟩
def arow(x:Ax×Value×Value×Value):List Value:=(axc x.1 x.2.1 x.2.2.1 x.2.2.2).toList
theorem arow_len(xs:List (Ax×Value×Value×Value)):(xs.flatMap arow).length=xs.length*16:=by
 induction xs with
 |nil=>rfl
 |cons x r ih=>simp only[List.flatMap_cons,List.length_append,List.length_cons,ih,arow,List.length_nil];omega
def AxL(D:Gh)(l:List Ax)(v:Value):Prop:=∃xs:List (Ax×Value×Value×Value),xs.map (·.1)=l∧SlN D 16 v l.length (xs.flatMap arow)∧∀x∈xs,AV D x.1 x.2.1 x.2.2.1 x.2.2.2
end Go.Proofs.YticgonfhjcaohaaGreatDoor
namespace Go.Proofs.YticgonfhjcaohaaGreatDoor
open Go.RowKit Go.VT _root_.Go.Proofs.Tryz
theorem argsT_hd(k:K)(r:List KT):∃i s q,argsT k++r=(i,s)::q∧s≠o_ann:=by
 have hn:∀s,nameW s≠o_ann:=fun s e=>by
  unfold nameW at e
  split at e
  ·rename_i h;rw[e]at h;exact absurd h (by decide)
  ·cases e
 have hc:∀c:C,∃s q,cT c=(4,s)::q∧s≠o_ann:=fun c=>by
  cases c<;>simp only[cT]
  ·exact⟨_,_,rfl,by decide⟩
  ·exact⟨_,_,rfl,by decide⟩
  ·exact⟨_,_,rfl,hn _⟩
  ·exact⟨_,_,rfl,by decide⟩
  ·exact⟨_,_,rfl,by decide⟩
  ·exact⟨_,_,rfl,by decide⟩
  ·exact⟨_,_,rfl,by decide⟩
 cases k with
 |sub l c=>obtain⟨s,q,e,h⟩:=hc l;exact⟨4,s,q++cT c++r,by rw[argsT,e];simp,h⟩
 |equiv l c=>obtain⟨s,q,e,h⟩:=hc l;exact⟨4,s,q++cT c++r,by rw[argsT,e];simp,h⟩
 |disj l c=>obtain⟨s,q,e,h⟩:=hc l;exact⟨4,s,q++cT c++r,by rw[argsT,e];simp,h⟩
 |dom s c=>exact⟨4,_,_,rfl,hn _⟩
 |rsub s t=>exact⟨4,_,_,rfl,hn _⟩
 |chain l s=>exact⟨4,_,_,rfl,by decide⟩
 |refl s=>exact⟨4,_,_,rfl,hn _⟩
 |typ a c=>obtain⟨s,q,e,h⟩:=hc c;exact⟨4,s,q++[tN a]++r,by rw[argsT,e];simp,h⟩
 |link a s b=>exact⟨4,_,_,rfl,hn _⟩
theorem notes_o(w:World)(D:Gh)(p:OC)(ks:List Bs)(op:Bool)(i:Int)(s:Bs)(q:List KT)(hs:s≠o_ann)(h58:[58]∈ks)(iri:Value)(ax:Value)[hk:Keeps D w](h:OS w D p ks false ((if op then noteT else[])++(i,s)::q) iri false ax):
  Calls prog 150 #[p.ptr] w fun e w'=>∃D':Gh,e=.returned (.tuple #[])∧Gro (some p.g) w D w' D'∧OS w' D' p ks true ((i,s)::q) iri op ax:=by
 have HS:=hid (fun(_:Unit)=>h)
 have hof:=h.off
 clear h
 go_enter func150,ntmps150
 go_wp2_with fail
 go_loopg [2] (if op then 1 else 0) (fun gk v wr=>∃(D':Gh)(st:Bool),gk=(if st then 1 else 0)∧Gr (some p.g) w D wr D'∧Hid (OS wr D' p ks false ((if st then noteT else[])++(i,s)::q) iri (op&& !st) ax)∧(st=true→op=true))
 case atStart=>exact⟨D,op,rfl,ii,hid (by have:=HS.out ();cases op<;>exact this),fun h=>h⟩
 case round=>
  obtain⟨D',st,hgk,hG,HO,hst⟩:=hrel
  have:=hG.keeps
  cases st with
  |false=>
   have hO:OS wr D' p ks false ((i,s)::q) iri op ax:=by have:=HO.out;simpa using this
   have H1:=hid (fun(_:Unit)=>is_not wr D' p ks false i s o_ann hs q iri op ax hO)
   clear HO hO hst
   go_wp2_with fail
   refine(H1.out ()).mono ?_
   rintro e w1 ⟨D1,rfl,hg1,hO1⟩
   go_wp2_with fail
   go_end0
   exact⟨D1,rfl,Gr.g,hO1⟩
  |true=>
   obtain rfl:=hst rfl
   have hO:OS wr D' p ks false ((4,o_ann)::tL::tN w_open::(3,o_true)::tR::(i,s)::q) iri false ax:=HO.out
   have H1:=hid (fun(_:Unit)=>is_yes wr D' p ks false 4 o_ann _ iri false ax hO)
   clear HO hO hst
   go_wp2_with fail
   refine(H1.out ()).mono ?_
   rintro e w1 ⟨D1,rfl,hg1,hO1⟩
   have:=hg1.keeps
   have H2:=hid (fun(_:Unit)=>pass_o w1 D1 p ks 4 o_ann _ (by simp) iri false ax hO1)
   clear hO1
   go_wp2_with fail
   refine(H2.out ()).mono ?_
   rintro e w2 ⟨rfl,hg2,hO2⟩
   have:=hg2.keeps
   have H3:=hid (fun(_:Unit)=>want_o w2 D1 p ks false 1 [40] _ (by simp) iri false ax hO2)
   clear hO2
   go_wp2_with fail
   refine(H3.out ()).mono ?_
   rintro e w3 ⟨D3,rfl,hg3,hO3⟩
   have:=hg3.keeps
   have H4:=hid (fun(_:Unit)=>name_of w3 D3 p ks false w_open _ (by simp) (by decide) ⟨by simpa[nameW,cutC]using h58,by decide,by decide⟩ iri false ax hO3)
   clear hO3
   go_wp2_with fail
   refine(H4.out ()).mono ?_
   rintro e w4 ⟨D4,rfl,hg4,hO4⟩
   have:=hg4.keeps
   have H5:=hid (fun(_:Unit)=>peek_o w4 D4 p ks false 3 o_true _ iri false ax hO4)
   clear hO4
   go_wp2_with fail
   refine(H5.out ()).mono ?_
   rintro e w5 ⟨a5,D5,rfl,hg5,hO5⟩
   have:=hg5.keeps
   have f0:=fld152_0
   have f1:=fld152_1
   have H6:=hid (fun(_:Unit)=>peek_o w5 D5 p ks true 3 o_true _ iri false ax hO5)
   clear hO5
   go_wp2_with fail
   refine(H6.out ()).mono ?_
   rintro e w6 ⟨a6,D6,rfl,hg6,hO6⟩
   have:=hg6.keeps
   have H7:=hid (fun(_:Unit)=>pass_o w6 D6 p ks 3 o_true _ (by simp) iri false ax hO6)
   clear hO6
   go_wp2_with fail
   refine(fail_ok _ _).mono ?_
   rintro e w6 ⟨rfl,rfl⟩
   go_wp2_with fail
   refine(H7.out ()).mono ?_
   rintro e w7 ⟨rfl,hg7,hO7⟩
   have:=hg7.keeps
   have H8:=hid (fun(_:Unit)=>want_o w7 D6 p ks false 1 [41] _ (by simp) iri false ax hO7)
   clear hO7
   go_wp2_with fail
   refine(H8.out ()).mono ?_
   rintro e w8 ⟨D8,rfl,hg8,hO8⟩
   have:=hg8.keeps
   obtain⟨i8,v8,hs8,hb8⟩:=hO8.st
   have z5:=hb8.held (i:=5) rfl
   have l8:=hb8.lt
   have:=hO8.off
   have hb':Box (w8.setCell ⟨p.g,5,none⟩ (.bool true)) D8 p.g 93 (orow p i8 v8 iri true ax):=by simpa using@Box.set_ _ D8 p.g 93 _ 5 (.bool true) hb8
   have hgx:Gro (some p.g) w8 D8 (w8.setCell ⟨p.g,5,none⟩ (.bool true)) D8:=Gr.g
   have HO9:=hid (hO8.to hgx hs8 hb')
   have e1:((str w_open).toList==[111,112,101,110])=true:=by rw[str_toList];rfl
   have e2:((str o_true).toList==[34,116,114,117,101,34])=true:=by rw[str_toList];rfl
   clear hO8 hs8 hb8 hb' hgx
   go_wp2_with fail
   go_roundg 0
   case measure=>simp[hgk]
   case rel=>exact⟨D8,false,rfl,ii,hid HO9.out,fun h=>by cases h⟩
end Go.Proofs.YticgonfhjcaohaaGreatDoor
namespace Go.Proofs.YticgonfhjcaohaaGreatDoor
open Go.RowKit Go.VT _root_.Go.Proofs.Tryz
theorem notes_k(w:World)(D:Gh)(p:OC)(ks:List Bs)(op:Bool)(k:K)(r:List KT)(h58:[58]∈ks)(iri:Value)(ax:Value)[hk:Keeps D w](h:OS w D p ks false ((if op then noteT else[])++(argsT k++r)) iri false ax):
  Calls prog 150 #[p.ptr] w fun e w'=>∃D':Gh,e=.returned (.tuple #[])∧Gro (some p.g) w D w' D'∧OS w' D' p ks true (argsT k++r) iri op ax:=by
 obtain⟨i,s,q,e,hn⟩:=argsT_hd k r
 rw[e]at h⊢
 exact notes_o w D p ks op i s q hn h58 iri ax h
def IRead(w:World)(D:Gh)(p:OC)(ks:List Bs)(k:K)(r:List KT)(iri:Value)(op:Bool)(ax:Value)(e:Ending)(w':World):Prop:=
 ∃(v:Value)(D':Gh)(pk:Bool),e=.returned v∧AxL D' [⟨false,k⟩] v∧Gro (some p.g) w D w' D'∧OS w' D' p ks pk r iri op ax
theorem ax_ro{w W:World}{D D1:Gh}{p:OC}{ks:List Bs}{pk:Bool}{k:K}{r:List KT}{iri:Value}{op:Bool}{ax lp rp rl:Value}{g:Nat}[Keeps D1 W](hB:Box W D1 g 34 (axc ⟨false,k⟩ lp rp rl))(hv:AV D1 ⟨false,k⟩ lp rp rl)
  (hg:Gr (some p.g) w D W D1) (hnew:w.heap.size≤g) (hO:OS W D1 p ks pk r iri op ax) (hne:p.g<g):IRead w D p ks k r iri op ax (.returned (.slice (some ⟨g,0,none⟩) 1 1)) W:=by
 obtain⟨D2,h2,h3⟩:=Box.pub hB
 have:=h2.gr _ _ _ hg (fun k e=>by cases e;exact hnew)
 have:=h2.le
 refine⟨_,D2,pk,rfl,⟨[(⟨false,k⟩,lp,rp,rl)],rfl,⟨rfl,some ⟨g,0,none⟩,1,rfl,by simp,by simp[maxLen],by simp,fun _=>⟨g,0,rfl,fun j u e=>?_⟩⟩,fun x hx=>?_⟩,Gr.g,hO.pub h2 (fun e=>by have:=Option.some.inj e;omega)⟩
 ·rw[Nat.zero_add]
  refine h3 j u ?_
  simpa[arow]using e
 ·obtain rfl:=List.mem_singleton.1 hx
  exact hv.le
structure KOk(ks:List Bs)(k:K):Prop where
 wf:k.wf
 conc:∀c∈k.cons,c.size≤65536∧∀s∈namesC c,inP ks s
 nm:∀s∈(k.role::k.a::k.b::k.roles),s≠[]→inP ks s
structure PMs(ks:List Bs):Prop where
 c:[58]∈ks
 o:o_owl++[58]∈ks
 x:o_xsd++[58]∈ks
theorem conc_k{p:OC}{ks:List Bs}(hm:PMs ks){iri:Value}{op:Bool}{ax:Value}{c:C}(h:c.size≤65536∧∀s∈namesC c,inP ks s)(hw:c.wf)(w:World)(D:Gh)(pk:Bool)(r:List KT)(hr:r≠[])(hk:Keeps D w)(hO:OS w D p ks pk (cT c++r) iri op ax):Calls prog 151 #[p.ptr] w (CRead w D p ks c r iri op ax):=
 conc_all p ks hm.o hm.x iri op ax c.size c (Nat.le_refl _) h.1 hw h.2 w D pk r hr hk hO
theorem plain_ne0{s:Bs}(h:plainB s=true):s≠[]:=by rintro rfl;exact absurd h (by decide)
theorem refl_o(w:World)(D:Gh)(p:OC)(ks:List Bs)(s:Bs)(r:List KT)(hm:PMs ks)(hK:KOk ks (.refl s))(iri:Value)(op:Bool)(ax:Value)[hk:Keeps D w](h:OS w D p ks false ((if op then noteT else[])++(argsT (.refl s)++tR::r)) iri false ax):
  Calls prog 94 #[p.ptr] w (IRead w D p ks (.refl s) (tR::r) iri op ax):=by
 obtain⟨hw,hcs,hns⟩:=hK
 have hls:=h.lts
 have hof:=h.off
 have hgl:=h.lt
 have H1:=hid (notes_k w D p ks op (.refl s) (tR::r) hm.c iri ax h)
 clear h
 go_enter func94,ntmps94
 go_wp2_with fail
 refine H1.out.mono ?_
 rintro e w1 ⟨D1,rfl,hg1,hO1⟩
 have:=hg1.keeps
 have H2:=hid (fun(_:Unit)=>name_o w1 D1 p ks true s (tR::r) (by simp) hw (hns s (by simp[K.role]) (plain_ne0 hw)) iri op ax hO1)
 clear hO1
 go_wp2_with fail
 refine(H2.out ()).mono ?_
 rintro e w2 ⟨D2,rfl,hg2,hO2⟩
 have:=hg2.keeps
 have hs2:w.heap.size≤w2.heap.size:=(ii:Bel (some p.g) w w2).out.size
 go_wp2_with fail
 go_ret
 have hcx:∀o,Gro none w2 D2 (w2.alloc o) D2:=fun o=>Gr.g
 exact ax_ro (k:=.refl s) (lp:=(.slice none 0 0)) (rp:=(.slice none 0 0)) (rl:=(.slice none 0 0)) (newAtO rfl) ⟨.nil,.nil,SV.nil _⟩ ii (by omega) (hO2.gro (hcx _)) (by omega)
theorem link_o(w:World)(D:Gh)(p:OC)(ks:List Bs)(a s b:Bs)(r:List KT)(hm:PMs ks)(hK:KOk ks (.link a s b))(iri:Value)(op:Bool)(ax:Value)[hk:Keeps D w](h:OS w D p ks false ((if op then noteT else[])++(argsT (.link a s b)++tR::r)) iri false ax):
  Calls prog 96 #[p.ptr] w (IRead w D p ks (.link a s b) (tR::r) iri op ax):=by
 obtain⟨hw,hcs,hns⟩:=hK
 have hls:=h.lts
 have hof:=h.off
 have hgl:=h.lt
 have H1:=hid (notes_k w D p ks op (.link a s b) (tR::r) hm.c iri ax h)
 clear h
 go_enter func96,ntmps96
 go_wp2_with fail
 refine H1.out.mono ?_
 rintro e w1 ⟨D1,rfl,hg1,hO1⟩
 have:=hg1.keeps
 have H2:=hid (fun(_:Unit)=>name_o w1 D1 p ks true s (tN a::tN b::tR::r) (by simp) hw.2.1 (hns s (by simp[K.role]) (plain_ne0 hw.2.1)) iri op ax hO1)
 clear hO1
 go_wp2_with fail
 refine(H2.out ()).mono ?_
 rintro e w2 ⟨D2,rfl,hg2,hO2⟩
 have:=hg2.keeps
 have H3:=hid (fun(_:Unit)=>name_o w2 D2 p ks false a (tN b::tR::r) (by simp) hw.1 (hns a (by simp[K.a]) (plain_ne0 hw.1)) iri op ax hO2)
 clear hO2
 go_wp2_with fail
 refine(H3.out ()).mono ?_
 rintro e w3 ⟨D3,rfl,hg3,hO3⟩
 have:=hg3.keeps
 have H4:=hid (fun(_:Unit)=>name_o w3 D3 p ks false b (tR::r) (by simp) hw.2.2 (hns b (by simp[K.b]) (plain_ne0 hw.2.2)) iri op ax hO3)
 clear hO3
 go_wp2_with fail
 refine(H4.out ()).mono ?_
 rintro e w4 ⟨D4,rfl,hg4,hO4⟩
 have:=hg4.keeps
 have hs4:w.heap.size≤w4.heap.size:=(ii:Bel (some p.g) w w4).out.size
 go_wp2_with fail
 go_ret
 have hcx:∀o,Gro none w4 D4 (w4.alloc o) D4:=fun o=>Gr.g
 exact ax_ro (k:=.link a s b) (lp:=(.slice none 0 0)) (rp:=(.slice none 0 0)) (rl:=(.slice none 0 0)) (newAtO rfl) ⟨.nil,.nil,SV.nil _⟩ ii (by omega) (hO4.gro (hcx _)) (by omega)
theorem dom_o(w:World)(D:Gh)(p:OC)(ks:List Bs)(s:Bs)(c:C)(r:List KT)(hm:PMs ks)(hK:KOk ks (.dom s c))(iri:Value)(op:Bool)(ax:Value)[hk:Keeps D w](h:OS w D p ks false ((if op then noteT else[])++(argsT (.dom s c)++tR::r)) iri false ax):
  Calls prog 92 #[p.ptr] w (IRead w D p ks (.dom s c) (tR::r) iri op ax):=by
 obtain⟨hw,hcs,hns⟩:=hK
 have hls:=h.lts
 have hof:=h.off
 have hgl:=h.lt
 have H1:=hid (notes_k w D p ks op (.dom s c) (tR::r) hm.c iri ax h)
 clear h
 go_enter func92,ntmps92
 go_wp2_with fail
 refine H1.out.mono ?_
 rintro e w1 ⟨D1,rfl,hg1,hO1⟩
 have:=hg1.keeps
 have H2:=hid (fun(_:Unit)=>name_o w1 D1 p ks true s (cT c++tR::r) (by simp) hw.1 (hns s (by simp[K.role]) (plain_ne0 hw.1)) iri op ax hO1)
 clear hO1
 go_wp2_with fail
 refine(H2.out ()).mono ?_
 rintro e w2 ⟨D2,rfl,hg2,hO2⟩
 have:=hg2.keeps
 have H3:=hid (fun(_:Unit)=>conc_k (iri:=iri) (op:=op) (ax:=ax) hm (hcs c (by simp[K.cons])) hw.2 w2 D2 false (tR::r) (by simp) hg2.keeps hO2)
 clear hO2
 go_wp2_with fail
 refine(H3.out ()).mono ?_
 rintro e w3 ⟨pv3,D3,rfl,hpv3,hg3,hO3⟩
 have:=hg3.keeps
 have:=hg3.le
 obtain⟨a3,m3,rfl,_,_⟩:=PV.form hpv3
 have hs3:w.heap.size≤w3.heap.size:=(ii:Bel (some p.g) w w3).out.size
 go_wp2_with fail
 go_ret
 have hcx:∀o,Gro none w3 D3 (w3.alloc o) D3:=fun o=>Gr.g
 exact ax_ro (k:=.dom s c) (lp:=(.slice none 0 0)) (rp:=(.slice a3 c.parts.length m3)) (rl:=(.slice none 0 0)) (newAtO rfl) ⟨.nil,hpv3,SV.nil _⟩ ii (by omega) (hO3.gro (hcx _)) (by omega)
theorem typ_o(w:World)(D:Gh)(p:OC)(ks:List Bs)(s:Bs)(c:C)(r:List KT)(hm:PMs ks)(hK:KOk ks (.typ s c))(iri:Value)(op:Bool)(ax:Value)[hk:Keeps D w](h:OS w D p ks false ((if op then noteT else[])++(argsT (.typ s c)++tR::r)) iri false ax):
  Calls prog 95 #[p.ptr] w (IRead w D p ks (.typ s c) (tR::r) iri op ax):=by
 obtain⟨hw,hcs,hns⟩:=hK
 have hls:=h.lts
 have hof:=h.off
 have hgl:=h.lt
 have H1:=hid (notes_k w D p ks op (.typ s c) (tR::r) hm.c iri ax h)
 clear h
 go_enter func95,ntmps95
 go_wp2_with fail
 refine H1.out.mono ?_
 rintro e w1 ⟨D1,rfl,hg1,hO1⟩
 have:=hg1.keeps
 replace hO1:OS w1 D1 p ks true (cT c++tN s::tR::r) iri op ax:=by simpa[argsT]using hO1
 have H2:=hid (fun(_:Unit)=>conc_k (iri:=iri) (op:=op) (ax:=ax) hm (hcs c (by simp[K.cons])) hw.2 w1 D1 true (tN s::tR::r) (by simp) hg1.keeps hO1)
 clear hO1
 go_wp2_with fail
 refine(H2.out ()).mono ?_
 rintro e w2 ⟨pv2,D2,rfl,hpv2,hg2,hO2⟩
 have:=hg2.keeps
 have:=hg2.le
 obtain⟨a2,m2,rfl,_,_⟩:=PV.form hpv2
 obtain⟨g,hg⟩:∃g,g=w2.heap.size:=⟨_,rfl⟩
 obtain⟨W,hW⟩:∃W,W=w2.alloc (.cells #[.int .i64 c.kind,.string (str c.nm),.int .i64 c.lo,.int .i64 c.hi,.slice a2 c.parts.length m2] 31):=⟨_,rfl⟩
 have hcx:Gro none w2 D2 W D2:=by rw[hW];exact Gr.g
 have hOW:=hO2.gro hcx
 have:=hcx.keeps
 have hGW:Gr (some p.g) w D W D2:=by rw[hW];exact ii
 have hBW:Box W D2 g 31 #[.int .i64 c.kind,.string (str c.nm),.int .i64 c.lo,.int .i64 c.hi,.slice a2 c.parts.length m2]:=by rw[hW,hg];exact ii
 have hlg:p.g<g:=by rw[hg];exact hO2.lt
 have hng:NeX g (some p.g):=neGt' hlg
 have HW:=hid hW
 have HG:=hid hg
 have KS:=hid (fun(W':World)(hb:Bel (some p.g) W W')=>(by
  have hc:Cll (some p.g) W W':=⟨hb.out⟩
  have hb':=@Box.call W W' D2 g 31 _ (some p.g) hc hBW hng
  exact⟨Box.cell (h:=hb') 0,Box.cell (h:=hb') 1,Box.cell (h:=hb') 2,Box.cell (h:=hb') 3,Box.cell (h:=hb') 4⟩:W'.cell? ⟨g,0,none⟩=some (.int .i64 c.kind)∧W'.cell? ⟨g,1,none⟩=some (.string (str c.nm))∧W'.cell? ⟨g,2,none⟩=some (.int .i64 c.lo)∧W'.cell? ⟨g,3,none⟩=some (.int .i64 c.hi)∧W'.cell? ⟨g,4,none⟩=some (.slice a2 c.parts.length m2)))
 clear hO2 hW hg
 have H3:=hid (fun(W':World)(hc:Cll none W W')=>name_o W' D2 p ks false s (tR::r) (by simp) hw.1 (hns s (by simp[K.a]) (plain_ne0 hw.1)) iri op ax (hOW.n0 hc))
 clear hOW
 repeat((fail_if_success (with_reducible show Code.wp _ (Code.region 3 _ _) _ _ _));go_step)
 go_wp2_with fail
 rw[←HG.out,←HW.out]
 go_region_held3 (fun W'=>W'.cell? ⟨g,0,none⟩=some (.int .i64 c.kind)∧W'.cell? ⟨g,1,none⟩=some (.string (str c.nm))∧W'.cell? ⟨g,2,none⟩=some (.int .i64 c.lo)∧W'.cell? ⟨g,3,none⟩=some (.int .i64 c.hi)∧W'.cell? ⟨g,4,none⟩=some (.slice a2 c.parts.length m2))
  (first|(refine KS.out _ ?_;exact ii;done)|go_keep)
  (first|(go_at_call 149;refine(H3.out _ Bel.c).mono ?_;rintro e w3 ⟨D3,rfl,hg3,hO3⟩))
 all_goals
  have:=hg3.keeps
  have:=hg3.le
  have hs3:w.heap.size≤w3.heap.size:=(ii:Bel (some p.g) w w3).out.size
  go_wp2_with fail
  go_ret
  have hcy:∀o,Gro none w3 D3 (w3.alloc o) D3:=fun o=>Gr.g
  exact ax_ro (k:=.typ s c) (lp:=(.slice none 0 0)) (rp:=(.slice a2 c.parts.length m2)) (rl:=(.slice none 0 0)) (newAtO rfl) ⟨.nil,@PV.le D2 D3 c.parts _ _ hpv2,SV.nil _⟩ ii (by omega) (hO3.gro (hcy _)) (by omega)
theorem sub_o(w:World)(D:Gh)(p:OC)(ks:List Bs)(l c:C)(r:List KT)(hm:PMs ks)(hK:KOk ks (.sub l c))(iri:Value)(op:Bool)(ax:Value)[hk:Keeps D w](h:OS w D p ks false ((if op then noteT else[])++(argsT (.sub l c)++tR::r)) iri false ax):
  Calls prog 89 #[p.ptr] w (IRead w D p ks (.sub l c) (tR::r) iri op ax):=by
 obtain⟨hw,hcs,hns⟩:=hK
 have hls:=h.lts
 have hof:=h.off
 have hgl:=h.lt
 have H1:=hid (notes_k w D p ks op (.sub l c) (tR::r) hm.c iri ax h)
 clear h
 go_enter func89,ntmps89
 go_wp2_with fail
 refine H1.out.mono ?_
 rintro e w1 ⟨D1,rfl,hg1,hO1⟩
 have:=hg1.keeps
 replace hO1:OS w1 D1 p ks true (cT l++(cT c++tR::r)) iri op ax:=by simpa[argsT]using hO1
 have H2:=hid (fun(_:Unit)=>conc_k (iri:=iri) (op:=op) (ax:=ax) hm (hcs l (by simp[K.cons])) hw.1 w1 D1 true (cT c++tR::r) (by simp) hg1.keeps hO1)
 clear hO1
 go_wp2_with fail
 refine(H2.out ()).mono ?_
 rintro e w2 ⟨pv2,D2,rfl,hpv2,hg2,hO2⟩
 have:=hg2.keeps
 have:=hg2.le
 obtain⟨a2,m2,rfl,_,_⟩:=PV.form hpv2
 obtain⟨g,hg⟩:∃g,g=w2.heap.size:=⟨_,rfl⟩
 obtain⟨W,hW⟩:∃W,W=w2.alloc (.cells #[.int .i64 l.kind,.string (str l.nm),.int .i64 l.lo,.int .i64 l.hi,.slice a2 l.parts.length m2] 31):=⟨_,rfl⟩
 have hcx:Gro none w2 D2 W D2:=by rw[hW];exact Gr.g
 have hOW:=hO2.gro hcx
 have:=hcx.keeps
 have hGW:Gr (some p.g) w D W D2:=by rw[hW];exact ii
 have hBW:Box W D2 g 31 #[.int .i64 l.kind,.string (str l.nm),.int .i64 l.lo,.int .i64 l.hi,.slice a2 l.parts.length m2]:=by rw[hW,hg];exact ii
 have hlg:p.g<g:=by rw[hg];exact hO2.lt
 have hng:NeX g (some p.g):=neGt' hlg
 have HW:=hid hW
 have HG:=hid hg
 have KS:=hid (fun(W':World)(hb:Bel (some p.g) W W')=>(by
  have hc:Cll (some p.g) W W':=⟨hb.out⟩
  have hb':=@Box.call W W' D2 g 31 _ (some p.g) hc hBW hng
  exact⟨Box.cell (h:=hb') 0,Box.cell (h:=hb') 1,Box.cell (h:=hb') 2,Box.cell (h:=hb') 3,Box.cell (h:=hb') 4⟩:W'.cell? ⟨g,0,none⟩=some (.int .i64 l.kind)∧W'.cell? ⟨g,1,none⟩=some (.string (str l.nm))∧W'.cell? ⟨g,2,none⟩=some (.int .i64 l.lo)∧W'.cell? ⟨g,3,none⟩=some (.int .i64 l.hi)∧W'.cell? ⟨g,4,none⟩=some (.slice a2 l.parts.length m2)))
 clear hO2 hW hg
 have H3:=hid (fun(W':World)(hc:Cll none W W')(hk':Keeps D2 W')=>conc_k (iri:=iri) (op:=op) (ax:=ax) hm (hcs c (by simp[K.cons])) hw.2 W' D2 false (tR::r) (by simp) hk' (hOW.n0 hc))
 clear hOW
 repeat((fail_if_success (with_reducible show Code.wp _ (Code.region 3 _ _) _ _ _));go_step)
 go_wp2_with fail
 rw[←HG.out,←HW.out]
 go_region_held3 (fun W'=>W'.cell? ⟨g,0,none⟩=some (.int .i64 l.kind)∧W'.cell? ⟨g,1,none⟩=some (.string (str l.nm))∧W'.cell? ⟨g,2,none⟩=some (.int .i64 l.lo)∧W'.cell? ⟨g,3,none⟩=some (.int .i64 l.hi)∧W'.cell? ⟨g,4,none⟩=some (.slice a2 l.parts.length m2))
  (first|(refine KS.out _ ?_;exact ii;done)|go_keep)
  (first|(go_at_call 151;refine(H3.out _ Bel.c ii).mono ?_;rintro e w3 ⟨pv3,D3,rfl,hpv3,hg3,hO3⟩;obtain⟨a3,m3,rfl,_,_⟩:=PV.form hpv3))
 all_goals
  have:=hg3.keeps
  have:=hg3.le
  have hs3:w.heap.size≤w3.heap.size:=(ii:Bel (some p.g) w w3).out.size
  go_wp2_with fail
  go_ret
  have hcy:∀o,Gro none w3 D3 (w3.alloc o) D3:=fun o=>Gr.g
  exact ax_ro (k:=.sub l c) (lp:=(.slice a2 l.parts.length m2)) (rp:=(.slice a3 c.parts.length m3)) (rl:=(.slice none 0 0)) (newAtO rfl) ⟨@PV.le D2 D3 l.parts _ _ hpv2,hpv3,SV.nil _⟩ ii (by omega) (hO3.gro (hcy _)) (by omega)
end Go.Proofs.YticgonfhjcaohaaGreatDoor
namespace Go.Proofs.YticgonfhjcaohaaGreatDoor
open Go.RowKit Go.VT _root_.Go.Proofs.Tryz
theorem list_s(w:World)(D:Gh)(p:OC)(ks:List Bs)(pk:Bool)(l:List Bs)(r:List KT)(iri:Value)(op:Bool)(ax:Value)(h2:2≤l.length)(hl:l.length≤65536)(hp:∀s∈l,plainB s=true∧inP ks s)[hk:Keeps D w](h:OS w D p ks pk (l.map tN++tR::r) iri op ax):
  Calls prog 153 #[p.ptr,.int .i64 2,.func (Fn.func 149) #[p.ptr] #[]] w fun e w'=>∃(v:Value)(D':Gh),e=.returned v∧SV D' l v∧Gro (some p.g) w D w' D'∧OS w' D' p ks true (tR::r) iri op ax:=by
 have hls:=h.lts
 have HS:=hid (fun(_:Unit)=>h)
 have H4:=hid hp
 obtain⟨len,hlen⟩:∃n,n=l.length:=⟨_,rfl⟩
 have HL:=hid hlen
 rw[←hlen]at h2 hl
 clear h hp hlen
 go_enter func153,ntmps153
 go_wp2_with fail
 go_loopg [6] len (fun gk v wr=>∃(D':Gh)(i:Nat)(pk:Bool),gk+i=len∧Gr (some p.g) w D wr D'∧Hid (OS wr D' p ks pk ((l.drop i).map tN++tR::r) iri op ax)∧
   VT.Own wr D' w.heap.size 9 1 v i ((l.take i).map fun s=>.string (str s)))
 case atStart=>exact⟨D,0,pk,rfl,ii,hid (HS.out ()),VT.Own.nil w D 9 1⟩
 case round=>
  obtain⟨D',i,pk',hgk,hG,HO,hO⟩:=hrel
  have:=hG.keeps
  have:=HO.out.off
  have:=gr_le hG
  obtain⟨a0,c0,rfl⟩:=own_form hO
  have hap:=hO.apart (g:=p.g) (by omega)
  have hil:i≤len:=by omega
  by_cases hm:i<len
  ·obtain⟨c,hc⟩:∃c,l[i]? =some c:=⟨_,List.getElem?_eq_getElem (by rw[←HL.out];omega)⟩
   have HC:=hid hc
   have HO2:Hid (OS wr D' p ks pk' (tN c::((l.drop (i+1)).map tN++tR::r)) iri op ax):=hid (by
    have:=HO.out
    obtain⟨hl',rfl⟩:=List.getElem?_eq_some_iff.1 hc
    rw[List.drop_eq_getElem_cons hl']at this;exact this)
   have hcm:=H4.out c (List.mem_of_getElem? hc)
   clear hc HO
   by_cases hi2:i<2
   ·have H5:=hid (fun(_:Unit)=>name_o wr D' p ks pk' c _ (by simp) hcm.1 hcm.2 iri op ax HO2.out)
    clear HO2 hcm
    go_wp2_with fail
    refine(H5.out ()).mono ?_
    rintro e w3 ⟨D3,rfl,hg3,hO3⟩
    have hW3:VT.Own w3 D3 w.heap.size 9 1 (.slice a0 i c0) i ((l.take i).map fun s=>.string (str s)):=ii
    have hG3:Gr (some p.g) w D w3 D3:=ii
    clear hO hap hG
    have:=hG3.keeps
    have:=hW3.off
    have hs3:w.heap.size≤w3.heap.size:=hG3.bl.size
    have hOx:∀o,VT.Own (w3.alloc o) D3 w.heap.size 9 1 (.slice a0 i c0) i ((l.take i).map fun s=>.string (str s)):=fun o=>ii
    have hBx:∀s,Box (w3.alloc (.cells #[.string s] 9)) D3 w3.heap.size 9 #[.string s]:=fun _=>ii
    go_wp2_with (at_builtin;refine wp_append_1 (v:=.slice a0 i c0) rfl (.tmp 16) (.tmp 19) 32 rfl underlying32 el9 rfl (hOx _) rfl (hBx _) rfl (own_strs_one [c]) (by unfold maxLen;omega) (by omega) (by simp;omega) ?_;intro v4 w4 hO4 hc4)
    have hgo:Gro (Value.slice a0 i c0).ownBlock w3 D3 w4 D3:=Gr.g
    have hO5:=OS.own hO3 hls (fun b e=>(hW3.lt b e).1) hgo
    have:=hW3.sub (some p.g) (a:=w) (Nat.le_refl _)
    go_roundg (gk-1)
    case measure=>omega
    case rel=>
     refine⟨D3,i+1,false,by omega,ii,hid hO5,?_⟩
     rw[List.take_add_one,HC.out,List.map_append];exact hO4
   ·have H6:=hid (fun(_:Unit)=>is_not wr D' p ks pk' 4 (nameW c) [41] (fun e=>by
     have:=(nameW_facts hcm.1).2.2.1;rw[e]at this;exact absurd this (by decide)) _ iri op ax HO2.out)
    clear HO2
    go_wp2_with (go_at_call 103;refine(H6.out ()).mono ?_;rintro e w1 ⟨D1,rfl,hg1,hO1⟩)
    have:=hg1.keeps
    refine(name_o w1 D1 p ks true c _ (by simp) hcm.1 hcm.2 iri op ax hO1).mono ?_
    clear hcm
    rintro e w3 ⟨D3,rfl,hg3,hO3⟩
    have hW3:VT.Own w3 D3 w.heap.size 9 1 (.slice a0 i c0) i ((l.take i).map fun s=>.string (str s)):=ii
    have hG3:Gr (some p.g) w D w3 D3:=ii
    clear hO hap hG
    have:=hG3.keeps
    have:=hW3.off
    have hs3:w.heap.size≤w3.heap.size:=hG3.bl.size
    have hOx:∀o,VT.Own (w3.alloc o) D3 w.heap.size 9 1 (.slice a0 i c0) i ((l.take i).map fun s=>.string (str s)):=fun o=>ii
    have hBx:∀s,Box (w3.alloc (.cells #[.string s] 9)) D3 w3.heap.size 9 #[.string s]:=fun _=>ii
    go_wp2_with (at_builtin;refine wp_append_1 (v:=.slice a0 i c0) rfl (.tmp 16) (.tmp 19) 32 rfl underlying32 el9 rfl (hOx _) rfl (hBx _) rfl (own_strs_one [c]) (by unfold maxLen;omega) (by omega) (by simp;omega) ?_;intro v4 w4 hO4 hc4)
    have hgo:Gro (Value.slice a0 i c0).ownBlock w3 D3 w4 D3:=Gr.g
    have hO5:=OS.own hO3 hls (fun b e=>(hW3.lt b e).1) hgo
    have:=hW3.sub (some p.g) (a:=w) (Nat.le_refl _)
    go_roundg (gk-1)
    case measure=>omega
    case rel=>
     refine⟨D3,i+1,false,by omega,ii,hid hO5,?_⟩
     rw[List.take_add_one,HC.out,List.map_append];exact hO4
  ·obtain rfl:i=len:=by omega
   have hO2:OS wr D' p ks pk' (tR::r) iri op ax:=by
    have:=HO.out
    rw[List.drop_eq_nil_of_le (by have:=HL.out;omega),List.map_nil,List.nil_append]at this
    exact this
   have H6:=hid (fun(_:Unit)=>is_yes wr D' p ks pk' 1 [41] r iri op ax hO2)
   have HZ:=hid (show l.take i=l from List.take_of_length_le (by have:=HL.out;omega))
   clear HO hO2
   have hi2:¬i<2:=by omega
   go_wp2_with (go_at_call 103;refine(H6.out ()).mono ?_;rintro e w1 ⟨D1,rfl,hg1,hO1⟩)
   have:=hg1.keeps
   have hW1:VT.Own w1 D1 w.heap.size 9 1 (.slice a0 i c0) i ((l.take i).map fun s=>.string (str s)):=ii
   obtain⟨D4,hPub,hSV⟩:=hW1.pub
   have hSV2:SV D4 l (.slice a0 i c0):=by
    unfold SV
    rw[←HL.out]
    rw[HZ.out]at hSV;exact hSV
   go_ret
   have hlt:=fun k e=>(hW1.lt k e).1
   have:=hPub.gr (some p.g) w D ii hlt
   exact⟨_,D4,rfl,hSV2,Gr.g,hO1.pub hPub (fun e=>by have:=hlt p.g e.symm;omega)⟩
theorem rsub_o(w:World)(D:Gh)(p:OC)(ks:List Bs)(q s:Bs)(r:List KT)(hm:PMs ks)(hK:KOk ks (.rsub q s))(iri:Value)(op:Bool)(ax:Value)[hk:Keeps D w](h:OS w D p ks false ((if op then noteT else[])++(argsT (.rsub q s)++tR::r)) iri false ax):
  Calls prog 93 #[p.ptr] w (IRead w D p ks (.rsub q s) (tR::r) iri op ax):=by
 obtain⟨hw,hcs,hns⟩:=hK
 have hls:=h.lts
 have hof:=h.off
 have hgl:=h.lt
 have H1:=hid (notes_k w D p ks op (.rsub q s) (tR::r) hm.c iri ax h)
 clear h
 go_enter func93,ntmps93
 go_wp2_with fail
 refine H1.out.mono ?_
 rintro e w1 ⟨D1,rfl,hg1,hO1⟩
 have:=hg1.keeps
 have H2:=hid (fun(_:Unit)=>is_not w1 D1 p ks true 4 (nameW q) o_chain (fun e=>by have:=(nameW_facts hw.1).2.2.1;rw[e]at this;exact absurd this (by decide)) (tN s::tR::r) iri op ax hO1)
 clear hO1
 go_wp2_with fail
 refine(H2.out ()).mono ?_
 rintro e w2 ⟨D2,rfl,hg2,hO2⟩
 have:=hg2.keeps
 have H3:=hid (fun(_:Unit)=>name_o w2 D2 p ks true q (tN s::tR::r) (by simp) hw.1 (hns q (by simp[K.roles]) (plain_ne0 hw.1)) iri op ax hO2)
 clear hO2
 go_wp2_with fail
 refine(H3.out ()).mono ?_
 rintro e w3 ⟨D3,rfl,hg3,hO3⟩
 have:=hg3.keeps
 obtain⟨g,hg⟩:∃g,g=w3.heap.size:=⟨_,rfl⟩
 obtain⟨W,hW⟩:∃W,W=w3.alloc (.cells #[.string (str q)] 9):=⟨_,rfl⟩
 have hcx:Gro none w3 D3 W D3:=by rw[hW];exact Gr.g
 have hOW:=hO3.gro hcx
 have:=hcx.keeps
 have hGW:Gr (some p.g) w D W D3:=by rw[hW];exact ii
 have hBW:Box W D3 g 9 #[.string (str q)]:=by rw[hW,hg];exact ii
 have hs3:w.heap.size≤g:=by rw[hg];exact(ii:Bel (some p.g) w w3).out.size
 have hng:NeX g (some p.g):=neGt' (by omega)
 have HW:=hid hW
 have HG:=hid hg
 have H4:=hid (fun(_:Unit)=>name_o W D3 p ks false s (tR::r) (by simp) hw.2 (hns s (by simp[K.role]) (plain_ne0 hw.2)) iri op ax hOW)
 clear hO3 hOW hW hg
 go_wp2_with (first|(go_at_call 149;rw[←HG.out,←HW.out];refine(H4.out ()).mono ?_;rintro e w4 ⟨D4,rfl,hg4,hO4⟩))
 have:=hg4.keeps
 have hs4:w.heap.size≤w4.heap.size:=(ii:Bel (some p.g) w w4).out.size
 have hB4:Box w4 D4 g 9 #[.string (str q)]:=ii
 have hG4:Gr (some p.g) w D w4 D4:=ii
 go_ret
 have hcy:∀o,Gro none w4 D4 (w4.alloc o) D4:=fun o=>Gr.g
 have hB5:Box (w4.alloc (.cells (axc ⟨false,.rsub q s⟩ (.slice none 0 0) (.slice none 0 0) (.slice (some ⟨g,0,none⟩) 1 1)) 34)) D4 g 9 #[.string (str q)]:=ii
 have hX5:Box (w4.alloc (.cells (axc ⟨false,.rsub q s⟩ (.slice none 0 0) (.slice none 0 0) (.slice (some ⟨g,0,none⟩) 1 1)) 34)) D4 w4.heap.size 34 _:=Box.new w4 D4 34 _
 have hl5:=hB4.lt
 obtain⟨D5,hP,hD⟩:=Box.pub hB5
 have:=hP.keeps
 have hfin:=ax_ro (iri:=iri) (op:=op) (ax:=ax) (p:=p) (ks:=ks) (pk:=false) (r:=tR::r) (W:=w4.alloc (.cells (axc ⟨false,.rsub q s⟩ (.slice none 0 0) (.slice none 0 0) (.slice (some ⟨g,0,none⟩) 1 1)) 34)) (k:=.rsub q s) (D1:=D5) (lp:=.slice none 0 0) (rp:=.slice none 0 0) (rl:=.slice (some ⟨g,0,none⟩) 1 1) (hP.box hX5 (fun e=>by have:=Option.some.inj e;omega)) ⟨.nil,.nil,rfl,some ⟨g,0,none⟩,1,rfl,by simp[K.roles],by simp[maxLen],by simp,fun _=>⟨g,0,rfl,fun j u e=>by rw[Nat.zero_add];exact hD j u (by simpa[K.roles]using e)⟩⟩
  (hP.gr (some p.g) w D ii (fun k e=>by have:=Option.some.inj e;omega)) (by omega) ((hO4.gro (hcy _)).pub hP (fun e=>by have:=Option.some.inj e;omega)) (by omega)
 exact hfin
theorem chain_o(w:World)(D:Gh)(p:OC)(ks:List Bs)(l:List Bs)(s:Bs)(r:List KT)(hm:PMs ks)(hK:KOk ks (.chain l s))(iri:Value)(op:Bool)(ax:Value)[hk:Keeps D w](h:OS w D p ks false ((if op then noteT else[])++(argsT (.chain l s)++tR::r)) iri false ax):
  Calls prog 93 #[p.ptr] w (IRead w D p ks (.chain l s) (tR::r) iri op ax):=by
 obtain⟨hw,hcs,hns⟩:=hK
 have hls:=h.lts
 have hof:=h.off
 have hgl:=h.lt
 have H1:=hid (notes_k w D p ks op (.chain l s) (tR::r) hm.c iri ax h)
 clear h
 go_enter func93,ntmps93
 go_wp2_with fail
 refine H1.out.mono ?_
 rintro e w1 ⟨D1,rfl,hg1,hO1⟩
 have:=hg1.keeps
 obtain⟨hw2,hw4,hwl,hws⟩:=hw
 replace hO1:OS w1 D1 p ks true ((4,o_chain)::tL::(l.map tN++tR::tN s::tR::r)) iri op ax:=by simpa[argsT]using hO1
 have H2:=hid (fun(_:Unit)=>is_yes w1 D1 p ks true 4 o_chain _ iri op ax hO1)
 clear hO1
 go_wp2_with fail
 refine(H2.out ()).mono ?_
 rintro e w2 ⟨D2,rfl,hg2,hO2⟩
 have:=hg2.keeps
 have H3:=hid (fun(_:Unit)=>pass_o w2 D2 p ks 4 o_chain _ (by simp) iri op ax hO2)
 clear hO2
 go_wp2_with fail
 refine(H3.out ()).mono ?_
 rintro e w3 ⟨rfl,hg3,hO3⟩
 have:=hg3.keeps
 have H4:=hid (fun(_:Unit)=>want_o w3 D2 p ks false 1 [40] _ (by simp) iri op ax hO3)
 clear hO3
 go_wp2_with fail
 refine(H4.out ()).mono ?_
 rintro e w4 ⟨D4,rfl,hg4,hO4⟩
 have:=hg4.keeps
 have hmf:∀(fn:Fn)(first cap:Array Value)(w:World),(Instr.makeFunc fn first cap).run prog w=.ok (.func fn first cap) w:=fun _ _ _ _=>rfl
 have H5:=hid (fun(_:Unit)=>list_s w4 D4 p ks false l (tN s::tR::r) iri op ax hw2 (by omega) (fun x hx=>⟨hwl x hx,hns x (by simp[K.roles,hx]) (plain_ne0 (hwl x hx))⟩) hO4)
 clear hO4
 go_wp2_with fail
 refine(H5.out ()).mono ?_
 rintro e w5 ⟨v5,D5,rfl,hsv,hg5,hO5⟩
 have:=hg5.keeps
 obtain⟨a5,m5,rfl,_,_⟩:=SlN.form hsv
 have H6:=hid (fun(_:Unit)=>want_o w5 D5 p ks true 1 [41] _ (by simp) iri op ax hO5)
 clear hO5
 go_wp2_with fail
 refine(H6.out ()).mono ?_
 rintro e w6 ⟨D6,rfl,hg6,hO6⟩
 have:=hg6.keeps
 have H7:=hid (fun(_:Unit)=>name_o w6 D6 p ks false s (tR::r) (by simp) hws (hns s (by simp[K.role]) (plain_ne0 hws)) iri op ax hO6)
 clear hO6
 go_wp2_with fail
 refine(H7.out ()).mono ?_
 rintro e w7 ⟨D7,rfl,hg7,hO7⟩
 have:=hg7.keeps
 have hs7:w.heap.size≤w7.heap.size:=(ii:Bel (some p.g) w w7).out.size
 have hsv7:SV D7 l (.slice a5 l.length m5):=by
  have:=hg6.le
  have:=hg7.le
  exact SV.le (D:=D6) (SV.le (D:=D5) hsv)
 generalize hnl:l.length=nl at*
 clear hw2 hw4
 go_wp2_with fail
 go_ret
 have hcx:∀o,Gro none w7 D7 (w7.alloc o) D7:=fun o=>Gr.g
 exact ax_ro (k:=.chain l s) (lp:=(.slice none 0 0)) (rp:=(.slice none 0 0)) (rl:=.slice a5 nl m5) (newAtO rfl) ⟨.nil,.nil,hsv7⟩ ii (by omega) (hO7.gro (hcx _)) (by omega)
end Go.Proofs.YticgonfhjcaohaaGreatDoor
