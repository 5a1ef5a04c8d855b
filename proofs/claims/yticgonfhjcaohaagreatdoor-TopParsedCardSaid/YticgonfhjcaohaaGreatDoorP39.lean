/- TopParsed, part 39. -/
import Derived.Test.YticgonfhjcaohaaGreatDoorP37
set_option maxRecDepth 100000
set_option maxHeartbeats 32000000
namespace Go.Proofs.YticgonfhjcaohaaGreatDoor
open Go.RowKit Go.VT _root_.Go.Proofs.Tryz
structure PreOk(v s:Bs):Prop where
 pv:v=[]∨wordB v=true
 o:v=o_owl→60::(s++[62])=o_owliri
 x:v=o_xsd→60::(s++[62])=o_xsdiri
 lv:v.length≤100000
 ls:s.length≤100000
abbrev preX(x:Bs×Bs):List KT:=preT x.1 (60::(x.2++[62]))
theorem idx_app(v:Bs)(h:v.contains 58=false):Lib.indexByte (v++[58]) 58=(v.length:Int):=by
 induction v with
 |nil=>rfl
 |cons c r ih=>
  simp only[List.contains_cons,Bool.or_eq_false_iff]at h
  have hb:(c==58)=false:=by rw[beq_eq_false_iff_ne];intro e;rw[e]at h;exact absurd h.1 (by decide)
  have ih:=ih h.2
  rw[List.cons_append,Lib.indexByte,if_neg (by simp[hb]),ih,if_neg (by simp),List.length_cons]
  omega
theorem prefix_o(w:World)(D:Gh)(p:OC)(ks:List Bs)(pk:Bool)(v s:Bs)(hv:PreOk v s)(rest:List KT)(hr:rest≠[])(hks:¬v++[58]∈ks)(iri:ByteArray)(op:Bool)(ax:Value)
  (a:World) (A:Gh) (hd:p.mi≠p.mp∧p.mc≠p.mp) (ha:a.heap.size≤p.g∧a.heap.size≤p.mp) [hk:Keeps D w] (hG:Gr none a A w D) (hof:Off D p.mp) (hmp:p.mp<w.heap.size) (h:OS w D p ks pk (preX (v,s)++rest) (.string iri) op ax):
  Calls prog 104 #[p.ptr] w fun e w'=>∃(D':Gh)(iri':ByteArray),e=.returned (.tuple #[])∧Gr none a A w' D'∧Off D' p.mp∧w.heap.size≤w'.heap.size∧Le D D'∧OS w' D' p (ks++[v++[58]]) false rest (.string iri') op ax∧Hid (iri'=if v=[]then str s else iri):=by
 have h58:v.contains 58=false:=by
  rcases hv.pv with rfl|h
  ·rfl
  ·exact word_no58 h
 have key:∀x:Bs,((str (v++[58])).toList==x++[58])=decide (v=x):=fun x=>by
  rw[str_toList,Bool.eq_iff_iff];simp
 refine(prefix_w w D p ks pk (v++[58]) s (decide (v=[])) (decide (v=o_owl)) (decide (v=o_xsd)) v.length rest hr (by simp) hv.lv (idx_app v h58) (key []) (fun e=>?_) (key o_owl) (fun e=>hv.o (of_decide_eq_true e)) (key o_xsd) (fun e=>hv.x (of_decide_eq_true e)) hv.ls hks (.string iri) op ax a A hd ha hG hof hmp h).mono ?_
 ·have hw:=hv.pv.resolve_left (of_decide_eq_false e)
  rcases v with _|⟨c,q⟩
  ·exact absurd rfl (of_decide_eq_false e)
  ·simp only[wordB,Bool.and_eq_true]at hw
   exact⟨c,q++[58],rfl,hw.1.1⟩
 ·rintro e w' ⟨D',rfl,h1,h2,h3,h4,h5⟩
  refine⟨D',if decide (v=[])=true then str s else iri,rfl,h1,h2,h3,h4,?_,hid (by simp)⟩
  cases hd:decide (v=[])
  ·rw[hd]at h5;exact h5
  ·rw[hd]at h5;exact h5
def iriF(iri:ByteArray)(l:List (Bs×Bs)):ByteArray:=l.foldl (fun acc x=>if x.1=[]then str x.2 else acc) iri
abbrev endT:KT:=(5,[])
theorem kW_ne(k:K):kW k≠[41]:=by cases k<;>(intro e;exact absurd (congrArg List.length e) (by simp[kW]))
theorem doc_o(w:World)(D:Gh)(p:OC)(pres:List (Bs×Bs))(l:List Ax)(hp:∀x∈pres,PreOk x.1 x.2)(hnd:(pres.map fun x=>x.1++[58]).Nodup)(hm:PMs (pres.map fun x=>x.1++[58]))(hl:l.length≤1024)(hx:∀x∈l,KOk (pres.map fun x=>x.1++[58]) x.k∧chkK x.k=0)(iri:ByteArray)(op:Bool)
  (a:World) (A:Gh) (hd:p.mi≠p.mp∧p.mc≠p.mp) (ha:a.heap.size≤p.g∧a.heap.size≤p.mp) (hls:p.g<w.heap.size∧p.mp<w.heap.size∧p.mi<w.heap.size∧p.mc<w.heap.size) [hT:TB D] (hG:Gr none a A w D) (hof:Off D p.mp) (h:OS w D p [] false (pres.flatMap preX++(4,o_onto)::tL::(l.flatMap aT++[tR,endT])) (.string iri) op (.slice none 0 0)):
  Calls prog 34 #[p.ptr] w fun e w'=>∃(D':Gh)(a1:Option Addr)(c1:Nat)(xs:List (Ax×Value×Value×Value))(iri':ByteArray),e=.returned (.tuple #[])∧Gr none a A w' D'∧xs.map (·.1)=l∧VT.Own w' D' w.heap.size 34 16 (.slice a1 l.length c1) l.length (xs.flatMap arow)∧(∀y∈xs,AV D' y.1 y.2.1 y.2.2.1 y.2.2.2)∧
   w'.cell? ⟨p.g,6,none⟩=some (.slice a1 l.length c1)∧w'.cell? ⟨p.g,4,none⟩=some (.string iri')∧Hid (iri'=iriF iri pres):=by
 obtain⟨np,hnp⟩:∃n,n=pres.length:=⟨_,rfl⟩
 obtain⟨nl,hnl⟩:∃n,n=l.length:=⟨_,rfl⟩
 have HNP:=hid hnp
 have HNL:=hid hnl
 have HS:=hid (fun(_:Unit)=>h)
 have HP:=hid hp
 have HN:=hid hnd
 have HX:=hid hx
 rw[←hnl]at hl⊢
 have haB:a.heap.size≤w.heap.size:=hG.bl.size
 clear h hp hnd hx hnp hnl
 go_enter func34,ntmps34
 go_wp2_with fail
 go_loopg [4] np (fun gk v wr=>∃(D':Gh)(i:Nat)(ir:ByteArray),gk+i=np∧Gr none a A wr D'∧Off D' p.mp∧w.heap.size≤wr.heap.size∧TB D'∧Hid (OS wr D' p ((pres.take i).map fun x=>x.1++[58]) false ((pres.drop i).flatMap preX++(4,o_onto)::tL::(l.flatMap aT++[tR,endT])) (.string ir) op (.slice none 0 0))∧Hid (ir=iriF iri (pres.take i)))
 case atStart=>exact⟨D,0,iri,rfl,hG,hof,Nat.le_refl _,hT,hid (HS.out ()),hid rfl⟩
 case round=>
  obtain⟨D',i,ir,hgk,hG',hof',hsz,hT',HO,HIR⟩:=hrel
  have:=hG'.keeps
  by_cases hi:i<np
  ·obtain⟨⟨pv,ps⟩,hj⟩:∃x,pres[i]? =some x:=⟨_,List.getElem?_eq_getElem (by rw[←HNP.out];exact hi)⟩
   have hdr:pres.drop i=(pv,ps)::pres.drop (i+1):=by
    obtain⟨hl',e⟩:=List.getElem?_eq_some_iff.1 hj
    rw[List.drop_eq_getElem_cons hl',e]
   have hO:=HO.out
   rw[hdr,List.flatMap_cons,List.append_assoc]at hO
   have hnot:¬pv++[58]∈(pres.take i).map fun x=>x.1++[58]:=fun hmem=>by
    have hn:=HN.out
    rw[←List.take_append_drop i pres,List.map_append,List.nodup_append,hdr]at hn
    exact hn.2.2 _ hmem _ (by simp) rfl
   have H1:=hid (fun(_:Unit)=>is_yes wr D' p _ false 4 o_prefix _ (.string ir) op (.slice none 0 0) hO)
   have HJ:=hid hj
   have hok:=HP.out _ (List.mem_of_getElem? hj)
   clear HO hO hj hdr
   go_wp2_with fail
   refine(H1.out ()).mono ?_
   rintro e w1 ⟨D1,rfl,hg1,hO1⟩
   have:=hg1.keeps
   have:New a p.g:=⟨ha.1⟩
   have g1:Gr none a A w1 D1:=ii
   have hoff1:=off_gro hg1 ⟨hof',by omega⟩
   have hT1:TB D1:=by have:=hg1.le;exact ii
   have H2:=hid (fun(_:Unit)=>prefix_o w1 D1 p _ true pv ps hok _ (by simp) hnot ir op (.slice none 0 0) a A hd ha g1 hoff1.1 hoff1.2 hO1)
   clear hO1 hnot hok
   go_wp2_with fail
   refine(H2.out ()).mono ?_
   rintro e w2 ⟨D2,ir2,rfl,g2,hof2,hsz2,hle2,hO2,HI2⟩
   have hs1:=hg1.bl.size
   have hT2:TB D2:=by have:=hle2;exact ii
   go_wp2_with fail
   go_roundg (gk-1)
   case measure=>omega
   case rel=>
    refine⟨D2,i+1,ir2,by omega,g2,hof2,by omega,hT2,hid ?_,hid ?_⟩
    ·rw[List.take_add_one,HJ.out,List.map_append];exact hO2
    ·rw[List.take_add_one,HJ.out,HI2.out,HIR.out];simp[iriF]
  ·have hO:OS wr D' p (pres.map fun x=>x.1++[58]) false ((4,o_onto)::tL::(l.flatMap aT++[tR,endT])) (.string ir) op (.slice none 0 0):=by
    have:=HO.out
    rw[List.take_of_length_le (by have:=HNP.out;omega),List.drop_eq_nil_of_le (by have:=HNP.out;omega)]at this
    exact this
   have HIF:Hid (ir=iriF iri pres):=hid (by rw[HIR.out,List.take_of_length_le (by have:=HNP.out;omega)])
   clear HIR
   obtain⟨ks,hks⟩:∃ks,ks=pres.map fun x=>x.1++[58]:=⟨_,rfl⟩
   rw[←hks]at hO hm
   have HX2:Hid (∀x∈l,KOk ks x.k∧chkK x.k=0):=hid (by rw[hks];exact HX.out)
   have:New a p.g:=⟨ha.1⟩
   have H1:=hid (fun(_:Unit)=>is_not wr D' p ks false 4 o_onto o_prefix (by decide) _ (.string ir) op (.slice none 0 0) hO)
   clear HO hO hks HS HX HP HN
   go_wp2_with fail
   refine(H1.out ()).mono ?_
   rintro e w1 ⟨D1,rfl,hg1,hO1⟩
   have:=hg1.keeps
   have g1:Gr none a A w1 D1:=ii
   have hT1:TB D1:=by have:=hg1.le;exact ii
   have H2:=hid (fun(_:Unit)=>is_yes w1 D1 p ks true 4 o_onto _ (.string ir) op (.slice none 0 0) hO1)
   clear hO1
   go_wp2_with fail
   refine(H2.out ()).mono ?_
   rintro e w2 ⟨D2,rfl,hg2,hO2⟩
   have:=hg2.keeps
   have g2:Gr none a A w2 D2:=ii
   have hT2:TB D2:=by have:=hg2.le;exact ii
   have c3:=hO2.cells.1
   have hlk:(Instr.lookup 89 (.map (some p.mp)) (.string ⟨#[58]⟩) false).run prog w2=.ok (.bool true) w2:=look_pm hO2.mp hm.c
   have H3:=hid (fun(_:Unit)=>pass_o w2 D2 p ks 4 o_onto _ (by simp) (.string ir) op (.slice none 0 0) hO2)
   clear hO2
   go_wp2_with fail
   refine(fail_ok _ _).mono ?_
   rintro e w2 ⟨rfl,rfl⟩
   clear c3 hlk
   go_wp2_with fail
   refine(H3.out ()).mono ?_
   rintro e w3 ⟨rfl,hg3,hO3⟩
   have:=hg3.keeps
   have g3:Gr none a A w3 D2:=ii
   have H4:=hid (fun(_:Unit)=>want_o w3 D2 p ks false 1 [40] _ (by simp) (.string ir) op (.slice none 0 0) hO3)
   clear hO3
   go_wp2_with fail
   refine(H4.out ()).mono ?_
   rintro e w4 ⟨D4,rfl,hg4,hO4⟩
   have:=hg4.keeps
   have g4:Gr none a A w4 D4:=ii
   have hT4:TB D4:=by have:=hg4.le;exact ii
   have hsz4:w.heap.size≤w4.heap.size:=by
    have h1:=hg1.bl.size
    have h2:=hg2.bl.size
    have h3:=hg3.bl.size
    have h4:=hg4.bl.size
    omega
   have HO4:=hid (fun(_:Unit)=>hO4)
   obtain⟨k5,s5,q5,e5,hk5⟩:∃k s q,l.flatMap aT++[tR,endT]=(k,s)::q∧k≠2:=by
    rcases l with _|⟨x,l'⟩
    ·exact⟨1,[41],[endT],rfl,by decide⟩
    ·exact⟨4,kW x.k,_,rfl,by decide⟩
   have hk5b:(k5==2)=false:=by simpa using hk5
   have f0:=fld152_0
   clear hO4 hk5 hg1 hg2 hg3 hg4 g1 g2 g3 hT1 hT2 H1 H2 H3 H4
   go_wp2_with fail
   go_loopg [2] (0:Nat) (fun gk v wr'=>v=.int .i64 0∧wr'=w4)
   case atStart=>exact⟨rfl,rfl⟩
   case round=>
    obtain⟨rfl,rfl⟩:=hrel
    have H5:=hid (fun(_:Unit)=>peek_o wr D4 p ks false k5 s5 q5 (.string ir) op (.slice none 0 0) (by have:=HO4.out ();rw[e5]at this;exact this))
    go_wp2_with (go_at_call 108;refine(H5.out ()).mono ?_;rintro e w5 ⟨a5,D5,rfl,hg5,hO5⟩)
    have:=hg5.keeps
    have g5:Gr none a A w5 D5:=ii
    have hT5:TB D5:=by have:=hg5.le;exact ii
    rw[←e5]at hO5
    have HO5:=hid (fun(_:Unit)=>hO5)
    have hsz5:w.heap.size≤w5.heap.size:=Nat.le_trans hsz4 hg5.bl.size
    clear hO5 hg5 H5 HO4 g4 hT4 hsz4
    go_loopg [35] nl (fun gk v wr=>∃(D':Gh)(i:Nat)(a1:Option Addr)(c1:Nat)(xs:List (Ax×Value×Value×Value))(pk:Bool)(op':Bool),gk+i=nl∧Gr none a A wr D'∧TB D'∧w.heap.size≤wr.heap.size∧Hid (OS wr D' p ks pk ((l.drop i).flatMap aT++[tR,endT]) (.string ir) op' (.slice a1 i c1))∧Hid (xs.map (·.1)=l.take i)∧
     VT.Own wr D' w.heap.size 34 16 (.slice a1 i c1) i (xs.flatMap arow)∧(∀y∈xs,AV D' y.1 y.2.1 y.2.2.1 y.2.2.2))
    case atStart=>exact⟨D5,0,none,0,[],true,op,rfl,g5,hT5,hsz5,hid (HO5.out ()),hid rfl,(VT.Own.nil w5 D5 34 16).base hsz5,by simp⟩
    case round=>
     clear HO5 g5 hT5 hsz5
     obtain⟨D6,i,a1,c1,xs,pk,op',hgk,g6,hT6,hsz6,HO6,HX6,o6,hv6⟩:=hrel
     have:=g6.keeps
     by_cases hi:i<nl
     ·obtain⟨x,hj⟩:∃x,l[i]? =some x:=⟨_,List.getElem?_eq_getElem (by rw[←HNL.out];exact hi)⟩
      have hdr:l.drop i=x::l.drop (i+1):=by
       obtain⟨hl',e⟩:=List.getElem?_eq_some_iff.1 hj
       rw[List.drop_eq_getElem_cons hl',e]
      have hO:=HO6.out
      rw[hdr,List.flatMap_cons,List.append_assoc]at hO
      obtain⟨hkx,hcx⟩:=HX2.out x (List.mem_of_getElem? hj)
      have H6:=hid (fun(_:Unit)=>is_not wr D6 p ks pk 4 (kW x.k) [41] (kW_ne x.k) _ (.string ir) op' (.slice a1 i c1) hO)
      have HJ:=hid hj
      clear HO6 hO hj hdr
      go_wp2_with fail
      refine(H6.out ()).mono ?_
      rintro e w7 ⟨D7,rfl,hg7,hO7⟩
      have:=hg7.keeps
      have g7:Gr none a A w7 D7:=ii
      have hT7:TB D7:=by have:=hg7.le;exact ii
      have hap:Apart (.slice a1 i c1) (some p.g):=o6.apart hls.1
      have o7:VT.Own w7 D7 w.heap.size 34 16 (.slice a1 i c1) i (xs.flatMap arow):=ii
      have hsz7:=hg7.bl.size
      have H8:=hid (fun(_:Unit)=>item_o w7 D7 p ks true x ((l.drop (i+1)).flatMap aT++[tR,endT]) (by simp) hm hkx hcx (.string ir) op' a1 i c1 xs a A w.heap.size (by omega) hO7 o7 g7 ha.1 haB hls (by omega))
      clear hO7 hkx hcx
      go_wp2_with fail
      refine(H8.out ()).mono ?_
      rintro e w8 ⟨D8,a8,c8,lp,rp,rl,rfl,g8,hle8,hsz8,hO8,o8,hv8⟩
      have hT8:TB D8:=by have:=hle8;exact ii
      go_wp2_with fail
      go_roundg (gk-1)
      case measure=>omega
      case rel=>
       refine⟨D8,i+1,a8,c8,xs++[(x,lp,rp,rl)],false,x.op,by omega,g8,hT8,hsz8,hid hO8,hid (by rw[List.map_append,HX6.out,List.take_add_one,HJ.out];rfl),o8,fun y hy=>?_⟩
       rcases List.mem_append.1 hy with hy|hy
       ·have:=hg7.le
        have:=hle8
        exact AV.le (D:=D7) (AV.le (D:=D6) (hv6 y hy))
       ·obtain rfl:=List.mem_singleton.1 hy
        exact hv8
     ·obtain rfl:i=nl:=by omega
      have hO:OS wr D6 p ks pk [tR,endT] (.string ir) op' (.slice a1 i c1):=by
       have:=HO6.out
       rw[List.drop_eq_nil_of_le (by have:=HNL.out;omega)]at this
       exact this
      have HZ:=hid (show xs.map (·.1)=l from by rw[HX6.out];exact List.take_of_length_le (by have:=HNL.out;omega))
      have H6:=hid (fun(_:Unit)=>is_yes wr D6 p ks pk 1 [41] _ (.string ir) op' (.slice a1 i c1) hO)
      clear HO6 hO HX6
      go_wp2_with fail
      refine(H6.out ()).mono ?_
      rintro e w7 ⟨D7,rfl,hg7,hO7⟩
      have:=hg7.keeps
      have g7:Gr none a A w7 D7:=ii
      have hap:Apart (.slice a1 i c1) (some p.g):=o6.apart hls.1
      have o7:VT.Own w7 D7 w.heap.size 34 16 (.slice a1 i c1) i (xs.flatMap arow):=ii
      have H7:=hid (fun(_:Unit)=>pass_o w7 D7 p ks 1 [41] _ (by simp) (.string ir) op' (.slice a1 i c1) hO7)
      clear hO7
      go_wp2_with fail
      refine(H7.out ()).mono ?_
      rintro e w8 ⟨rfl,hg8,hO8⟩
      have:=hg8.keeps
      have g8:Gr none a A w8 D7:=ii
      have o8:VT.Own w8 D7 w.heap.size 34 16 (.slice a1 i c1) i (xs.flatMap arow):=ii
      have H9:=hid (fun(_:Unit)=>peek_o w8 D7 p ks false 5 [] [] (.string ir) op' (.slice a1 i c1) hO8)
      clear hO8
      go_wp2_with fail
      refine(H9.out ()).mono ?_
      rintro e w9 ⟨a9,D9,rfl,hg9,hO9⟩
      have:=hg9.keeps
      have g9:Gr none a A w9 D9:=ii
      have o9:VT.Own w9 D9 w.heap.size 34 16 (.slice a1 i c1) i (xs.flatMap arow):=ii
      obtain⟨i9,v9,_,hb9⟩:=hO9.st
      have HB4:=hid (show w9.cell? ⟨p.g,4,none⟩=some (.string ir)from Box.cell (h:=hb9) 4)
      have HB6:=hid (hO9.cells.2.2.1)
      clear hO9 hb9
      go_wp2_with fail
      refine(fail_ok _ _).mono ?_
      rintro e w9 ⟨rfl,rfl⟩
      go_wp2_with fail
      go_end0
      refine⟨D9,a1,c1,xs,ir,rfl,g9,HZ.out,o9,fun y hy=>?_,HB6.out,HB4.out,HIF⟩
      have:=hg7.le
      have:=hg9.le
      exact AV.le (D:=D7) (AV.le (D:=D6) (hv6 y hy))
end Go.Proofs.YticgonfhjcaohaaGreatDoor
namespace Go.Proofs.YticgonfhjcaohaaGreatDoor
open Go.RowKit Go.VT _root_.Go.Proofs.Tryz
theorem ML.call_{w w':World}{m:Nat}{l:List (Bs×Value)}{X:Option Nat}(hc:Cll X w w')(h:ML w m l)(hn:some m≠X):ML w' m l:=h.of (hc.out.block m h.lt hn)
theorem ML.set_{w:World}{m:Nat}{l:List (Bs×Value)}(h:ML w m l){g i:Nat}{u:Value}(hn:m≠g):ML (w.setCell ⟨g,i,none⟩ u) m l:=h.of (Below.heap_setCell w _ u m (fun e=>hn e))
theorem ML.alloc_{w:World}{m:Nat}{l:List (Bs×Value)}(h:ML w m l)(o:Obj):ML (w.alloc o) m l:=h.of (Below.heap_alloc w o m h.lt)
theorem newReader_c(w:World)(D:Gh)(sa:Option Addr)(sn sc:Nat)[hk:Keeps D w]:
  Calls prog 33 #[.slice sa sn sc] w fun e w'=>∃(g mp mi mc:Nat),e=.returned (.pointer (some ⟨g,0,none⟩))∧Box w' D g 93 #[.slice sa sn sc,.int .i64 0,.slice none 0 0,.map (some mp),.string ⟨#[]⟩,.bool false,.slice none 0 0,.map (some mi),.map (some mc)]∧ML w' mp []∧
   ML w' mi ([([68,101,99,108,97,114,97,116,105,111,110],88),(o_sub,89),(o_equiv,90),(o_disj,91),(o_dom,92),(o_rsub,93),(o_refl,94),(o_typ,95),(o_link,96)].map fun x=>(x.1,Value.func (Fn.func x.2) #[.pointer (some ⟨g,0,none⟩)] #[]))∧ML w' mc ([(o_thing,97),(o_nothing,98),(o_inter,99),(o_somev,100),(o_oneof,101),(o_datas,102)].map fun x=>(x.1,Value.func (Fn.func x.2) #[.pointer (some ⟨g,0,none⟩)] #[]))∧
   (w.heap.size≤g∧w.heap.size≤mp∧mi≠mp∧mc≠mp∧g<w'.heap.size∧mp<w'.heap.size∧mi<w'.heap.size∧mc<w'.heap.size)∧Off D mp∧Gr none w D w' D:=by
 obtain⟨mp,hmp⟩:∃m,m=w.heap.size:=⟨_,rfl⟩
 have hm1:∀(t:TypeId)(w:World),t=89∨t=90∨t=91→(Instr.makeMap t none).run prog w=.ok (.map (some w.heap.size)) (w.alloc (.map #[] 0)):=fun t w ht=>by rcases ht with rfl|rfl|rfl<;>rfl
 have hm89:∀(w:World),(Instr.makeMap 89 none).run prog w=.ok (.map (some w.heap.size)) (w.alloc (.map #[] 0)):=fun w=>hm1 89 w (by simp)
 have hm90:∀(w:World),(Instr.makeMap 90 none).run prog w=.ok (.map (some w.heap.size)) (w.alloc (.map #[] 0)):=fun w=>hm1 90 w (by simp)
 have hmf:∀(fn:Fn)(first cap:Array Value)(w:World),(Instr.makeFunc fn first cap).run prog w=.ok (.func fn first cap) w:=fun _ _ _ _=>rfl
 obtain⟨g,hg⟩:∃m,m=w.heap.size+1:=⟨_,rfl⟩
 obtain⟨mi,hmi⟩:∃m,m=w.heap.size+1+1:=⟨_,rfl⟩
 obtain⟨W0,hW0⟩:∃W,W=((w.alloc (.map #[] 0)).alloc (.cells #[.slice sa sn sc,.int .i64 0,.slice none 0 0,.map (some mp),.string ⟨#[]⟩,.bool false,.slice none 0 0,.map none,.map none] 93)).alloc (.map #[] 0):=⟨_,rfl⟩
 have hX0:ML W0 mi []:=by
  have:=ML.new ((w.alloc (.map #[] 0)).alloc (.cells #[.slice sa sn sc,.int .i64 0,.slice none 0 0,.map (some mp),.string ⟨#[]⟩,.bool false,.slice none 0 0,.map none,.map none] 93));rw[hW0,hmi];simpa using this
 have hP0:ML W0 mp []:=by rw[hW0,hmp];exact((ML.new w).alloc_ _).alloc_ _
 have hB:Box W0 D g 93 #[.slice sa sn sc,.int .i64 0,.slice none 0 0,.map (some mp),.string ⟨#[]⟩,.bool false,.slice none 0 0,.map none,.map none]:=by
  rw[hW0]
  have:Box ((w.alloc (.map #[] 0)).alloc (.cells #[.slice sa sn sc,.int .i64 0,.slice none 0 0,.map (some mp),.string ⟨#[]⟩,.bool false,.slice none 0 0,.map none,.map none] 93)) D g 93 #[.slice sa sn sc,.int .i64 0,.slice none 0 0,.map (some mp),.string ⟨#[]⟩,.bool false,.slice none 0 0,.map none,.map none]:=newAtO (by rw[hg];simp)
  exact ii
 have hG:Gr none w D W0 D:=by rw[hW0];exact ii
 have hs0:w.heap.size≤mp∧mp<g∧g<mi∧mi<W0.heap.size:=by rw[hW0];simp;omega
 have HW0:=hid hW0
 have HMP:=hid hmp
 have HG:=hid hg
 have HMI:=hid hmi
 have hni:New w mi:=⟨by omega⟩
 have hnp:New w mp:=⟨by omega⟩
 have hng:New w g:=⟨by omega⟩
 have hgi:NeX g (some mi):=⟨fun e=>by have:=Option.some.inj e;omega⟩
 have hofp:Off D mp:=Keeps.offNew (w:=w) (by omega)
 have hofi:Off D mi:=Keeps.offNew (w:=w) (by omega)
 have hofg:Off D g:=Keeps.offNew (w:=w) (by omega)
 clear hW0 hmp hg hmi hm1
 go_enter func33,ntmps33
 go_wp2_with (first|((with_reducible show wpList _ _ _ ((⟨none,.insert _ _ _ _,_,_,_,_⟩:Oper)::_) _ _);rw[←HMI.out,←HG.out,←HMP.out,←HW0.out];refine stopL ?_))
 unfold Stop
 clear HW0
 have hX:=hX0
 have hP:=hP0
 clear hX0 hP0 hm89
 have hsz:mi<W0.heap.size:=hs0.2.2.2
 go_wp2_with (first
  |((with_reducible show wpList _ _ _ ((⟨none,.insert 90 _ _ _,_,_,_,_⟩:Oper)::_) _ _);refine wpList_insert_new rfl 90 _ _ _ rfl rfl underlying90 underlying9 rfl hX _ rfl rfl (by rfl) ?_;clear hX;intro WX hX hcX;replace hP:=hP.call_ hcX (fun e=>by have:=Option.some.inj e;omega);replace hB:=@Box.call _ WX D g 93 _ (some mi) hcX hB hgi;replace hG:Gr none w D WX D:=(have:=hG;ii);replace hsz:=Nat.lt_of_lt_of_le hsz hcX.size;clear hcX)
  |((with_reducible show wpList _ _ _ ((⟨some 30,_,_,_,_,_⟩:Oper)::_) _ _);refine stopL ?_))
 unfold Stop
 have hXL:ML WX mi ([([68,101,99,108,97,114,97,116,105,111,110],88),(o_sub,89),(o_equiv,90),(o_disj,91),(o_dom,92),(o_rsub,93),(o_refl,94),(o_typ,95),(o_link,96)].map fun x=>(x.1,Value.func (Fn.func x.2) #[.pointer (some ⟨g,0,none⟩)] #[])):=hX
 clear hX
 have z7:=hB.held (i:=7) rfl
 have lg:=hB.lt
 obtain⟨mc,hmc⟩:∃m,m=WX.heap.size:=⟨_,rfl⟩
 obtain⟨W1,hW1⟩:∃W,W=(WX.setCell ⟨g,7,none⟩ (.map (some mi))).alloc (.map #[] 0):=⟨_,rfl⟩
 have hnc:New w mc:=⟨by have:=hG.bl.size;omega⟩
 have hgc:NeX g (some mc):=⟨fun e=>by have:=Option.some.inj e;omega⟩
 have hofc:Off D mc:=Keeps.offNew (w:=w) (by have:=hG.bl.size;omega)
 have hX1:ML W1 mc []:=by
  have:=ML.new (WX.setCell ⟨g,7,none⟩ (.map (some mi)));rw[hW1,hmc];simpa[World.setCell]using this
 have hP1:ML W1 mp []:=by rw[hW1];exact(hP.set_ (by omega)).alloc_ _
 have hI1:ML W1 mi ([([68,101,99,108,97,114,97,116,105,111,110],88),(o_sub,89),(o_equiv,90),(o_disj,91),(o_dom,92),(o_rsub,93),(o_refl,94),(o_typ,95),(o_link,96)].map fun x=>(x.1,Value.func (Fn.func x.2) #[.pointer (some ⟨g,0,none⟩)] #[])):=by rw[hW1];exact(hXL.set_ (by omega)).alloc_ _
 have hB1:Box W1 D g 93 #[.slice sa sn sc,.int .i64 0,.slice none 0 0,.map (some mp),.string ⟨#[]⟩,.bool false,.slice none 0 0,.map (some mi),.map none]:=by
  rw[hW1];simpa using@Box.alloc _ D g 93 _ (.map #[] 0) (@Box.set_ WX D g 93 _ 7 (.map (some mi)) hB)
 have hG1:Gr none w D W1 D:=by rw[hW1];have:=hG;exact ii
 have hs1:mi<mc∧mc<W1.heap.size:=by rw[hW1];simp[World.setCell];omega
 have hm91:∀(w:World),(Instr.makeMap 91 none).run prog w=.ok (.map (some w.heap.size)) (w.alloc (.map #[] 0)):=fun w=>rfl
 have HW1:=hid hW1
 have HMC:=hid hmc
 clear hW1 hmc hB hP hXL hG
 go_wp2_with (first|((with_reducible show wpList _ _ _ ((⟨none,.insert 91 _ _ _,_,_,_,_⟩:Oper)::_) _ _);rw[←HMC.out,←HW1.out];refine stopL ?_))
 unfold Stop
 clear HW1 HMC z7 lg
 have hX:=hX1
 have hP:=hP1
 have hI:=hI1
 have hB:=hB1
 have hG:=hG1
 clear hX1 hP1 hI1 hB1 hG1 hm91
 have hsz2:mc<W1.heap.size:=hs1.2
 go_wp2_with (first
  |((with_reducible show wpList _ _ _ ((⟨none,.insert 91 _ _ _,_,_,_,_⟩:Oper)::_) _ _);refine wpList_insert_new rfl 91 _ _ _ rfl rfl underlying91 underlying9 rfl hX _ rfl rfl (by rfl) ?_;clear hX;intro WY hX hcX;replace hP:=hP.call_ hcX (fun e=>by have:=Option.some.inj e;omega);replace hI:=hI.call_ hcX (fun e=>by have:=Option.some.inj e;omega);replace hB:=@Box.call _ WY D g 93 _ (some mc) hcX hB hgc;replace hG:Gr none w D WY D:=(have:=hG;ii);replace hsz2:=Nat.lt_of_lt_of_le hsz2 hcX.size;clear hcX)
  |((with_reducible show wpList _ _ _ ((⟨some 47,_,_,_,_,_⟩:Oper)::_) _ _);refine stopL ?_))
 unfold Stop
 have hXL:ML WY mc ([(o_thing,97),(o_nothing,98),(o_inter,99),(o_somev,100),(o_oneof,101),(o_datas,102)].map fun x=>(x.1,Value.func (Fn.func x.2) #[.pointer (some ⟨g,0,none⟩)] #[])):=hX
 clear hX
 have z8:=hB.held (i:=8) rfl
 have lg:=hB.lt
 go_wp2_with fail
 go_ret
 refine⟨g,mp,mi,mc,rfl,by simpa using@Box.set_ WY D g 93 _ 8 (.map (some mc)) hB,hP.set_ (by omega),hI.set_ (by omega),hXL.set_ (by omega),⟨by omega,by omega,by omega,by omega,?_,?_,?_,?_⟩,hofp,have:=hG;ii⟩
 all_goals
  simp only[World.setCell,Array.size_modify]
  omega
end Go.Proofs.YticgonfhjcaohaaGreatDoor
