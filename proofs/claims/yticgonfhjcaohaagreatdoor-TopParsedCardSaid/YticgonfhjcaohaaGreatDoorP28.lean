/- TopParsed, part 28. -/
import Derived.Test.YticgonfhjcaohaaGreatDoorP23
set_option maxRecDepth 100000
set_option maxHeartbeats 32000000
namespace Go.Proofs.YticgonfhjcaohaaGreatDoor
open Go.RowKit Go.VT _root_.Go.Proofs.Tryz
theorem word_all{s:Bs}(h:wordB s=true):s≠[]∧s.all innerB=true:=by
 cases s with
 |nil=>simp[wordB]at h
 |cons c r=>
  simp only[wordB,Bool.and_eq_true]at h
  exact⟨by simp,h.1.2⟩
theorem lit_addZ(a s:Bs):str a++str s=str (a++s):=by
 apply ByteArray.ext
 simp[str]
theorem word_no58{s:Bs}(h:wordB s=true):s.contains 58=false:=by
 have:=(word_all h).2
 rw[List.contains_eq_any_beq,List.any_eq_false]
 intro x hx e
 rw[←eq_of_beq e]at hx
 exact absurd (List.all_eq_true.1 this _ hx) (by decide)
theorem indexByte_no{s:Bs}(h:s.contains 58=false):decide (0≤Lib.indexByte s 58)=false:=by
 rcases indexByte_cut s with⟨_,h2,_⟩|⟨h1,_,_⟩
 ·rw[h2];rfl
 ·rw[h]at h1;cases h1
theorem nameW_facts{s:Bs}(h:plainB s=true):(cutC (nameW s)).2≠[]∧((cutC (nameW s)).2).contains 58=false∧hasC (nameW s)=true∧Lib.trimPrefix (nameW s) [58]=s∧(nameW s).length≤25:=by
 have hl:=name_len h
 simp only[plainB,Bool.and_eq_true,Bool.or_eq_true,Bool.not_eq_true']at h
 obtain⟨⟨_,h1⟩,h2⟩:=h
 cases hc:s.contains 58 with
 |true=>
  have e:nameW s=s:=by unfold nameW;rw[if_pos hc]
  rw[e]
  have h3:=h2.resolve_left (by rw[hc];simp)
  refine⟨(word_all h3).1,word_no58 h3,hc,?_,by omega⟩
  obtain⟨hne,hal⟩:=word_all h1
  have:=cutC_app s hc
  rw[this]
  cases hx:(cutC s).1 with
  |nil=>exact absurd hx hne
  |cons a q=>
   rw[hx]at hal
   have ha:a≠58:=by
    rintro rfl
    exact absurd (List.all_eq_true.1 hal 58 (by simp)) (by decide)
   unfold Lib.trimPrefix Lib.hasPrefix
   simp[Ne.symm ha]
 |false=>
  have e:nameW s=58::s:=by unfold nameW;rw[hc];rfl
  have e2:cutC (58::s)=([],s):=by simp[cutC]
  rw[e,e2]
  rw[cutC_no s hc]at h1
  exact⟨(word_all h1).1,hc,by simp[hasC],by simp[Lib.trimPrefix,Lib.hasPrefix],by simp;omega⟩
def inP(ks:List Bs)(s:Bs):Prop:=(cutC (nameW s)).1++[58]∈ks∧(cutC (nameW s)).1≠o_owl∧(cutC (nameW s)).1≠o_xsd
theorem name_of(w:World)(D:Gh)(p:OC)(ks:List Bs)(pk:Bool)(s:Bs)(r:List KT)(hr:r≠[])(hp:(cutC (nameW s)).2≠[]∧((cutC (nameW s)).2).contains 58=false∧hasC (nameW s)=true∧Lib.trimPrefix (nameW s) [58]=s∧(nameW s).length≤25)(hi:inP ks s)(iri:Value)(op:Bool)(ax:Value)[hk:Keeps D w](h:OS w D p ks pk (tN s::r) iri op ax):
  Calls prog 149 #[p.ptr] w fun e w'=>∃D':Gh,e=.returned (.string (str s))∧Gro (some p.g) w D w' D'∧OS w' D' p ks false r iri op ax:=by
 obtain⟨f1,f2,f3,f4,f5⟩:=hp
 obtain⟨i1,i2,i3⟩:=hi
 have H:=hid (peek_o w D p ks pk 4 (nameW s) r iri op ax h)
 have hof:=h.off
 have HC:=hid (cut_c (nameW s) (by omega))
 have hI:∀w,Calls prog 146 #[.string (str (cutC (nameW s)).2),.string ⟨#[58]⟩] w fun e w'=>e=.returned (.bool false)∧w'=w:=fun w=>by
  have:=strings_Contains_one (str (cutC (nameW s)).2) 58 w
  rw[str_data,indexByte_no f2]at this
  exact this
 have HI:=hid hI
 clear hI
 have HT:=hid (fun w=>strings_TrimPrefix (str (nameW s)) (str [58]) w)
 clear h
 obtain⟨n,hn⟩:∃n,n=nameW s:=⟨_,rfl⟩
 rw[←hn]at f1 f2 f3 f4 f5 i1 i2 i3 H HC HI HT
 obtain⟨x,hx⟩:∃x,x=(cutC n).1:=⟨_,rfl⟩
 obtain⟨y,hy⟩:∃y,y=(cutC n).2:=⟨_,rfl⟩
 rw[←hy]at f1 f2 HI HC
 rw[←hx]at i1 i2 i3 HC
 rw[f3]at HC
 have hxl:x.length≤25:=by
  have:x.length≤n.length:=by rw[hx];exact List.Sublist.length_le (List.takeWhile_sublist _)
  omega
 have d1:((str y).toList==[])=false:=by rw[str_toList];simpa using f1
 have d2:((str x).toList==[111,119,108])=false:=by rw[str_toList];simpa using i2
 have d3:((str x).toList==[120,115,100])=false:=by rw[str_toList];simpa using i3
 have HE:=hid f4
 have q1:¬9223372036854775807<(str x).size+1:=by rw[str_size];omega
 have HX:=hid (lit_addZ x [58])
 clear f1 f2 f3 f4 f5 hn hx hy i2 i3
 go_enter func149,ntmps149
 go_wp2_with fail
 refine H.out.mono ?_
 rintro e w1 ⟨a1,D1,rfl,hg1,hO1⟩
 have:=hg1.keeps
 have g1:=fld152_1
 go_wp2_with fail
 refine(HC.out w1).mono ?_
 rintro e w2 ⟨rfl,q2,rfl⟩
 have HO1:=hid (fun(_:Unit)=>peek_o (w1.drewN q2) D1 p ks true 4 n r iri op ax (hO1.n0 Bel.c))
 clear hO1 HC H
 go_wp2_with fail
 refine(HO1.out ()).mono ?_
 rintro e w3 ⟨a3,D3,rfl,hg3,hO3⟩
 have:=hg3.keeps
 have g0:=fld152_0
 have c3:=hO3.cells.1
 have hl:=look_pm hO3.mp i1
 have hx2:str x++(⟨#[58]⟩:ByteArray)=str (x++[58]):=HX.out
 have HP:=hid (fun(_:Unit)=>pass_o w3 D3 p ks 4 n r hr iri op ax hO3)
 clear HO1 hO3 i1 hr
 go_wp2_with (first|(go_at_call 146;refine(HI.out _).mono ?_;rintro e w4 ⟨rfl,rfl⟩))
 refine(fail_ok _ _).mono ?_
 rintro e w5 ⟨rfl,rfl⟩
 go_wp2_with fail
 refine(HP.out ()).mono ?_
 rintro e w6 ⟨rfl,hg6,hO6⟩
 go_wp2_with fail
 refine(HT.out w6).mono ?_
 rintro e w7 ⟨rfl,rfl⟩
 have e9:ByteArray.mk (Lib.trimPrefix (str n).data.toList (str [58]).data.toList).toArray=str s:=by rw[str_data,str_data,HE.out];rfl
 rw[e9]
 go_wp2_with fail
 go_ret
 have hg':Gr (some p.g) w D (w1.drewN q2) D1:=ii
 exact⟨D3,rfl,Gr.g,hO6⟩
theorem name_o(w:World)(D:Gh)(p:OC)(ks:List Bs)(pk:Bool)(s:Bs)(r:List KT)(hr:r≠[])(hp:plainB s=true)(hi:inP ks s)(iri:Value)(op:Bool)(ax:Value)[hk:Keeps D w](h:OS w D p ks pk (tN s::r) iri op ax):
  Calls prog 149 #[p.ptr] w fun e w'=>∃D':Gh,e=.returned (.string (str s))∧Gro (some p.g) w D w' D'∧OS w' D' p ks false r iri op ax:=name_of w D p ks pk s r hr (nameW_facts hp) hi iri op ax h
def CRead(w:World)(D:Gh)(p:OC)(ks:List Bs)(c:C)(r:List KT)(iri:Value)(op:Bool)(ax:Value)(e:Ending)(w':World):Prop:=
 ∃(pv:Value)(D':Gh),e=.returned (cv c pv)∧PV D' c.parts pv∧Gro (some p.g) w D w' D'∧OS w' D' p ks false r iri op ax
theorem OS.lts{w:World}{D:Gh}{p:OC}{ks:List Bs}{pk:Bool}{ts:List KT}{iri:Value}{op:Bool}{ax:Value}(h:OS w D p ks pk ts iri op ax):p.g<w.heap.size∧p.mp<w.heap.size∧p.mi<w.heap.size∧p.mc<w.heap.size:=⟨h.lt,h.mp.lt,h.mi.lt,h.mc.lt⟩
theorem OS.own{w w':World}{D D':Gh}{p:OC}{ks:List Bs}{pk:Bool}{ts:List KT}{iri:Value}{op:Bool}{ax:Value}(h:OS w D p ks pk ts iri op ax){B:Nat}(hl:p.g<B∧p.mp<B∧p.mi<B∧p.mc<B){X:Option Nat}(hX:∀b,X=some b→B≤b)(hc:Gro X w D w' D'):OS w' D' p ks pk ts iri op ax:=
 h.far hc (fun e=>by have:=hX _ e.symm;omega) (fun e=>by have:=hX _ e.symm;omega) (fun e=>by have:=hX _ e.symm;omega) (fun e=>by have:=hX _ e.symm;omega)
abbrev z31:Array Value:=#[.int .i64 0,.string ⟨#[]⟩,.int .i64 0,.int .i64 0,.slice none 0 0]
theorem top_o(w:World)(D:Gh)(p:OC)(ks:List Bs)(pk:Bool)(r:List KT)(hr:r≠[])(hi:o_owl++[58]∈ks)(iri:Value)(op:Bool)(ax:Value)[hk:Keeps D w](h:OS w D p ks pk ((4,o_thing)::r) iri op ax):
  Calls prog 97 #[p.ptr] w (CRead w D p ks .top r iri op ax):=by
 have hc0:Gro none w D (w.alloc (.cells z31 31)) D:=Gr.g
 have hO0:=h.gro hc0
 have hls:=h.lts
 have hof:=h.off
 have hne:NeX w.heap.size (some p.g):=neGt' h.lt
 clear h hc0
 have H:=hid (fixed_o _ D p ks pk 4 o_thing (o_owl++[58]) r hr hi iri op ax hO0)
 clear hO0
 go_enter func97,ntmps97
 go_wp2_with fail
 refine H.out.mono ?_
 rintro e w1 ⟨D1,rfl,hg1,hO1⟩
 have hB:Box w1 D1 w.heap.size 31 z31:=ii
 have q1:=Box.held5 hB
 have:=hB.off
 go_wp2_with fail
 refine bodyPost_ret (v:=.agg #[.int .i64 1,.string ⟨#[]⟩,.int .i64 0,.int .i64 0,.slice none 0 0]) (by simp[results,results97,go_sem,Box.cell (D:=D1) (g:=w.heap.size)]) rfl ⟨_,D1,rfl,.nil,Gr.g,?_⟩
 exact OS.own (B:=w.heap.size) (X:=some w.heap.size) hO1 hls (fun b e=>by cases e;exact Nat.le_refl _) Gr.g
theorem bot_o(w:World)(D:Gh)(p:OC)(ks:List Bs)(pk:Bool)(r:List KT)(hr:r≠[])(hi:o_owl++[58]∈ks)(iri:Value)(op:Bool)(ax:Value)[hk:Keeps D w](h:OS w D p ks pk ((4,o_nothing)::r) iri op ax):
  Calls prog 98 #[p.ptr] w (CRead w D p ks .bot r iri op ax):=by
 have hc0:Gro none w D (w.alloc (.cells z31 31)) D:=Gr.g
 have hO0:=h.gro hc0
 have hls:=h.lts
 have hof:=h.off
 have hne:NeX w.heap.size (some p.g):=neGt' h.lt
 clear h hc0
 have H:=hid (fixed_o _ D p ks pk 4 o_nothing (o_owl++[58]) r hr hi iri op ax hO0)
 clear hO0
 go_enter func98,ntmps98
 go_wp2_with fail
 refine H.out.mono ?_
 rintro e w1 ⟨D1,rfl,hg1,hO1⟩
 have hB:Box w1 D1 w.heap.size 31 z31:=ii
 have q1:=Box.held5 hB
 have:=hB.off
 go_wp2_with fail
 refine bodyPost_ret (v:=.agg #[.int .i64 2,.string ⟨#[]⟩,.int .i64 0,.int .i64 0,.slice none 0 0]) (by simp[results,results98,go_sem,Box.cell (D:=D1) (g:=w.heap.size)]) rfl ⟨_,D1,rfl,.nil,Gr.g,?_⟩
 exact OS.own (B:=w.heap.size) (X:=some w.heap.size) hO1 hls (fun b e=>by cases e;exact Nat.le_refl _) Gr.g
theorem nom_o(w:World)(D:Gh)(p:OC)(ks:List Bs)(s:Bs)(r:List KT)(hr:r≠[])(hp:plainB s=true)(hi:inP ks s)(iri:Value)(op:Bool)(ax:Value)[hk:Keeps D w](h:OS w D p ks true ((4,o_oneof)::tL::tN s::tR::r) iri op ax):
  Calls prog 101 #[p.ptr] w (CRead w D p ks (.nom s) r iri op ax):=by
 have hc0:Gro none w D (w.alloc (.cells z31 31)) D:=Gr.g
 have hO0:=h.gro hc0
 have hls:=h.lts
 have hof:=h.off
 have hne:NeX w.heap.size (some p.g):=neGt' h.lt
 clear h hc0
 go_enter func101,ntmps101
 have H1:=hid (fun(_:Unit)=>pass_o _ D p ks 4 o_oneof _ (by simp) iri op ax hO0)
 clear hO0
 go_wp2_with fail
 refine(H1.out ()).mono ?_
 rintro e w1 ⟨rfl,hg1,hO1⟩
 have:=hg1.keeps
 have H2:=hid (fun(_:Unit)=>want_o w1 D p ks false 1 [40] _ (by simp) iri op ax hO1)
 clear hO1
 go_wp2_with fail
 refine(H2.out ()).mono ?_
 rintro e w2 ⟨D2,rfl,hg2,hO2⟩
 have:=hg2.keeps
 have H3:=hid (fun(_:Unit)=>name_o w2 D2 p ks false s _ (by simp) hp hi iri op ax hO2)
 clear hO2
 go_wp2_with fail
 refine(H3.out ()).mono ?_
 rintro e w3 ⟨D3,rfl,hg3,hO3⟩
 have:=hg3.keeps
 have H4:=hid (fun(_:Unit)=>want_o w3 D3 p ks false 1 [41] _ hr iri op ax hO3)
 clear hO3
 go_wp2_with fail
 refine(H4.out ()).mono ?_
 rintro e w4 ⟨D4,rfl,hg4,hO4⟩
 have:=hg4.keeps
 have hB:Box w4 D4 w.heap.size 31 z31:=ii
 have q1:=Box.held5 hB
 have:=hB.off
 go_wp2_with fail
 refine bodyPost_ret (v:=.agg #[.int .i64 4,.string (str s),.int .i64 0,.int .i64 0,.slice none 0 0]) (by simp[results,results101,go_sem,Box.cell (D:=D4) (g:=w.heap.size)]) rfl ⟨_,D4,rfl,.nil,Gr.g,?_⟩
 exact OS.own (B:=w.heap.size) (X:=some w.heap.size) hO4 hls (fun b e=>by cases e;exact Nat.le_refl _) Gr.g
theorem OS.pub{w:World}{D D':Gh}{p:OC}{ks:List Bs}{pk:Bool}{ts:List KT}{iri:Value}{op:Bool}{ax:Value}(h:OS w D p ks pk ts iri op ax){r:Option Nat}(hP:Pub w D D' r)(hne:some p.g≠r):OS w D' p ks pk ts iri op ax:=by
 obtain⟨i,av,hs,hb⟩:=h.st
 have:=hP.le
 have:=h.byt
 exact⟨⟨i,av,hs.le,hP.box hb hne⟩,h.mp,h.mi,h.mc,h.hn,h.lim,ii⟩
theorem some_ro{w W:World}{D D1:Gh}{p:OC}{ks:List Bs}{r:List KT}{iri:Value}{op:Bool}{ax:Value}{s:Bs}{c:C}{pv:Value}{g:Nat}[Keeps D1 W](hB:Box W D1 g 31 #[.int .i64 c.kind,.string (str c.nm),.int .i64 c.lo,.int .i64 c.hi,pv])(hp:PV D1 c.parts pv)
  (hg:Gr (some p.g) w D W D1) (hnew:w.heap.size≤g) (hO:OS W D1 p ks false r iri op ax) (hne:p.g<g):
  CRead w D p ks (.some s c) r iri op ax (.returned (.agg #[.int .i64 6,.string (str s),.int .i64 0,.int .i64 0,.slice (some ⟨g,0,none⟩) 1 1])) W:=by
 obtain⟨D2,h2,h3⟩:=PV.lit1 hB hp
 have:=h2.gr _ _ _ hg (fun k e=>by cases e;exact hnew)
 exact⟨_,D2,rfl,h3,Gr.g,hO.pub h2 (fun e=>by have:=Option.some.inj e;omega)⟩
theorem some_o(w:World)(D:Gh)(p:OC)(ks:List Bs)(s:Bs)(c:C)(r:List KT)(hr:r≠[])(hp:plainB s=true)(hi:inP ks s)(iri:Value)(op:Bool)(ax:Value)(h151:∀(w:World)(D:Gh),Keeps D w→OS w D p ks false (cT c++tR::r) iri op ax→Calls prog 151 #[p.ptr] w (CRead w D p ks c (tR::r) iri op ax))[hk:Keeps D w](h:OS w D p ks true ((4,o_somev)::tL::tN s::(cT c++tR::r)) iri op ax):
  Calls prog 100 #[p.ptr] w (CRead w D p ks (.some s c) r iri op ax):=by
 have hc0:Gro none w D (w.alloc (.cells z31 31)) D:=Gr.g
 have hO0:=h.gro hc0
 have hls:=h.lts
 have hof:=h.off
 have hne:NeX w.heap.size (some p.g):=neGt' h.lt
 clear h hc0
 go_enter func100,ntmps100
 have H1:=hid (fun(_:Unit)=>pass_o _ D p ks 4 o_somev _ (by simp) iri op ax hO0)
 clear hO0
 go_wp2_with fail
 refine(H1.out ()).mono ?_
 rintro e w1 ⟨rfl,hg1,hO1⟩
 have:=hg1.keeps
 have H2:=hid (fun(_:Unit)=>want_o w1 D p ks false 1 [40] _ (by simp) iri op ax hO1)
 clear hO1
 go_wp2_with fail
 refine(H2.out ()).mono ?_
 rintro e w2 ⟨D2,rfl,hg2,hO2⟩
 have:=hg2.keeps
 have H3:=hid (fun(_:Unit)=>name_o w2 D2 p ks false s _ (by simp) hp hi iri op ax hO2)
 clear hO2
 go_wp2_with fail
 refine(H3.out ()).mono ?_
 rintro e w3 ⟨D3,rfl,hg3,hO3⟩
 have:=hg3.keeps
 have H4:=hid (fun(_:Unit)=>h151 w3 D3 hg3.keeps hO3)
 clear hO3
 go_wp2_with fail
 refine(H4.out ()).mono ?_
 rintro e w4 ⟨pv,D4,rfl,hpv,hg4,hO4⟩
 have:=hg4.keeps
 obtain⟨a4,m4,rfl,_,_⟩:=PV.form hpv
 have hcx:Gro none w4 D4 (w4.alloc (.cells #[.int .i64 c.kind,.string (str c.nm),.int .i64 c.lo,.int .i64 c.hi,.slice a4 c.parts.length m4] 31)) D4:=Gr.g
 have hls4:=hO4.lt
 have hne4:NeX w4.heap.size (some p.g):=neGt' hls4
 have H5:=hid (fun(_:Unit)=>want_o _ D4 p ks false 1 [41] _ hr iri op ax (hO4.gro hcx))
 clear hO4 hcx
 go_wp2_with fail
 refine(H5.out ()).mono ?_
 rintro e w5 ⟨D5,rfl,hg5,hO5⟩
 have:=hg5.keeps
 have:=hg5.le
 have hpv5:PV D5 c.parts (.slice a4 c.parts.length m4):=ii
 have hX:Box w5 D5 w4.heap.size 31 #[.int .i64 c.kind,.string (str c.nm),.int .i64 c.lo,.int .i64 c.hi,.slice a4 c.parts.length m4]:=ii
 have q4:=Box.held5 hX
 have hB:Box w5 D5 w.heap.size 31 z31:=ii
 have q1:=Box.held5 hB
 have hlt:w.heap.size<w5.heap.size:=q1.2.2
 have:=hB.off
 have hne5:NeX w5.heap.size (some w.heap.size):=ne_size hlt 0
 go_wp2_with fail
 refine bodyPost_ret (v:=.agg #[.int .i64 6,.string (str s),.int .i64 0,.int .i64 0,.slice (some ⟨w5.heap.size,0,none⟩) 1 1]) (by simp[results,results100,go_sem,Box.cell (D:=D5) (g:=w.heap.size)]) rfl (some_ro (D1:=D5) (Box.newAt (by simp[World.setCell])) hpv5 ii (by omega) ?_ (by omega))
 exact OS.own (B:=w.heap.size) (X:=some w.heap.size) hO5 hls (fun b e=>by cases e;exact Nat.le_refl _) Gr.g
end Go.Proofs.YticgonfhjcaohaaGreatDoor
namespace Go.Proofs.YticgonfhjcaohaaGreatDoor
open Go.RowKit Go.VT _root_.Go.Proofs.Tryz
theorem cT_hd(c:C):∃s q,cT c=(4,s)::q∧s≠[41]:=by
 have hn:∀s,nameW s≠[41]:=fun s e=>by
  unfold nameW at e
  split at e
  ·rename_i h;rw[e]at h;exact absurd h (by decide)
  ·cases e
 cases c<;>simp only[cT]
 ·exact⟨_,_,rfl,by decide⟩
 ·exact⟨_,_,rfl,by decide⟩
 ·exact⟨_,_,rfl,hn _⟩
 ·exact⟨_,_,rfl,by decide⟩
 ·exact⟨_,_,rfl,by decide⟩
 ·exact⟨_,_,rfl,by decide⟩
 ·exact⟨_,_,rfl,by decide⟩
theorem rT_drop{l:List C}{i:Nat}{c:C}(h:l[i]? =some c):rT (l.drop i)=cT c++rT (l.drop (i+1)):=by
 obtain⟨hl,rfl⟩:=List.getElem?_eq_some_iff.1 h
 rw[List.drop_eq_getElem_cons hl,rT]
theorem list_o(w:World)(D:Gh)(p:OC)(ks:List Bs)(pk:Bool)(l:List C)(r:List KT)(iri:Value)(op:Bool)(ax:Value)(h2:2≤l.length)(hl:l.length≤65536)
  (h151:∀c∈l,∀(w:World)(D:Gh)(pk:Bool)(r:List KT),r≠[]→Keeps D w→OS w D p ks pk (cT c++r) iri op ax→Calls prog 151 #[p.ptr] w (CRead w D p ks c r iri op ax)) [hk:Keeps D w] (h:OS w D p ks pk (rT l++tR::r) iri op ax):
  Calls prog 152 #[p.ptr,.int .i64 2,.func (Fn.func 151) #[p.ptr] #[]] w fun e w'=>∃(pv:Value)(D':Gh),e=.returned pv∧PV D' l pv∧Gro (some p.g) w D w' D'∧OS w' D' p ks true (tR::r) iri op ax:=by
 have hls:=h.lts
 have HS:=hid (fun(_:Unit)=>h)
 have H4:=hid h151
 obtain⟨len,hlen⟩:∃n,n=l.length:=⟨_,rfl⟩
 have HL:=hid hlen
 rw[←hlen]at h2 hl
 clear h h151 hlen
 go_enter func152,ntmps152
 go_wp2_with fail
 go_loopg [6] len (fun gk v wr=>∃(D':Gh)(i:Nat)(xs:List (C×Value))(pk:Bool),gk+i=len∧Gr (some p.g) w D wr D'∧Hid (OS wr D' p ks pk (rT (l.drop i)++tR::r) iri op ax)∧Hid (xs.map (·.1)=l.take i)∧xs.length=i∧
   VT.Own wr D' w.heap.size 31 5 v i (xs.flatMap crow)∧(∀x∈xs,PV D' x.1.parts x.2))
 case atStart=>exact⟨D,0,[],pk,rfl,ii,hid (HS.out ()),hid rfl,rfl,VT.Own.nil w D 31 5,by simp⟩
 case round=>
  obtain⟨D',i,xs,pk',hgk,hG,HO,HX,hxl,hO,hpvs⟩:=hrel
  have:=hG.keeps
  have:=HO.out.off
  have:=gr_le hG
  obtain⟨a0,c0,rfl⟩:=own_form hO
  have hap:=hO.apart (g:=p.g) (by omega)
  have hil:i≤len:=by omega
  by_cases hm:i<len
  ·obtain⟨c,hc⟩:∃c,l[i]? =some c:=⟨_,List.getElem?_eq_getElem (by rw[←HL.out];omega)⟩
   have HC:=hid hc
   have hrt:=rT_drop hc
   have HO2:Hid (OS wr D' p ks pk' (cT c++(rT (l.drop (i+1))++tR::r)) iri op ax):=hid (by have:=HO.out;rw[hrt,List.append_assoc]at this;exact this)
   have hcm:=List.mem_of_getElem? hc
   clear hc hrt HO
   by_cases hi2:i<2
   ·have H5:=hid (fun(_:Unit)=>H4.out c hcm wr D' pk' _ (by simp) hG.keeps HO2.out)
    clear HO2 hcm
    go_wp2_with fail
    refine(H5.out ()).mono ?_
    rintro e w3 ⟨pv,D3,rfl,hpv,hg3,hO3⟩
    have hp3:∀x∈xs,PV D3 x.1.parts x.2:=fun x hx=>by have:=hg3.le;have:=hpvs x hx;exact ii
    have hW3:VT.Own w3 D3 w.heap.size 31 5 (.slice a0 i c0) i (xs.flatMap crow):=ii
    have hG3:Gr (some p.g) w D w3 D3:=ii
    clear hg3 H5 hO hpvs hap hG
    have:=hG3.keeps
    have:=hW3.off
    obtain⟨a3,m3,rfl,_,_⟩:=PV.form hpv
    have hs3:w.heap.size≤w3.heap.size:=hG3.bl.size
    have hOx:∀o,VT.Own (w3.alloc o) D3 w.heap.size 31 5 (.slice a0 i c0) i (xs.flatMap crow):=fun o=>ii
    have hBx:∀a b f d e,Box (w3.alloc (.cells #[.int .i64 a,.string b,.int .i64 f,.int .i64 d,.slice e c.parts.length m3] 31)) D3 w3.heap.size 31 _:=fun _ _ _ _ _=>ii
    have h1x:∀a b f d e u,u∈(#[.int .i64 a,.string b,.int .i64 f,.int .i64 d,.slice e c.parts.length m3]:Array Value).toList→u.oneCell'=true:=by
     intro a b f d e u hu
     simp only[List.mem_cons,List.not_mem_nil,or_false]at hu
     rcases hu with rfl|rfl|rfl|rfl|rfl<;>rfl
    go_wp2_with (at_builtin;refine wp_append_1 (v:=.slice a0 i c0) rfl (.tmp 16) (.tmp 19) 29 rfl underlying29 el31 rfl (hOx _) rfl (hBx _ _ _ _ _) rfl (h1x _ _ _ _ _) (by unfold maxLen;omega) (by omega) (by simp;omega) ?_;intro v4 w4 hO4 hc4)
    have hgo:Gro (Value.slice a0 i c0).ownBlock w3 D3 w4 D3:=Gr.g
    have hO5:=OS.own hO3 hls (fun b e=>(hW3.lt b e).1) hgo
    have:=hW3.sub (some p.g) (a:=w) (Nat.le_refl _)
    go_roundg (gk-1)
    case measure=>omega
    case rel=>
     refine⟨D3,i+1,xs++[(c,.slice a3 c.parts.length m3)],false,by omega,ii,hid hO5,hid (by rw[List.map_append,HX.out,List.take_add_one,HC.out];rfl),by simp[hxl],?_,?_⟩
     ·have e1:(xs++[(c,Value.slice a3 c.parts.length m3)]).flatMap crow=xs.flatMap crow++[.int .i64 c.kind,.string (str c.nm),.int .i64 c.lo,.int .i64 c.hi,.slice a3 c.parts.length m3]:=by simp[crow]
      rw[e1];exact hO4
     ·intro z hz
      rcases List.mem_append.1 hz with hz|hz
      ·exact hp3 z hz
      ·obtain rfl:=List.mem_singleton.1 hz;exact hpv
   ·obtain⟨s1,q1,he,hs1⟩:=cT_hd c
    have H6:=hid (fun(_:Unit)=>is_not wr D' p ks pk' 4 s1 [41] hs1 (q1++(rT (l.drop (i+1))++tR::r)) iri op ax (by have:=HO2.out;rw[he,List.cons_append]at this;exact this))
    have HE:=hid he
    clear HO2 he hs1
    go_wp2_with (go_at_call 103;refine(H6.out ()).mono ?_;rintro e w1 ⟨D1,rfl,hg1,hO1⟩)
    refine(H4.out c hcm w1 D1 true (rT (l.drop (i+1))++tR::r) (by simp) hg1.keeps (by rw[HE.out,List.cons_append];exact hO1)).mono ?_
    rintro e w3 ⟨pv,D3,rfl,hpv,hg3,hO3⟩
    have hp3:∀x∈xs,PV D3 x.1.parts x.2:=fun x hx=>by have:=hg1.le;have:=hg3.le;have:=hpvs x hx;exact ii
    have hW3:VT.Own w3 D3 w.heap.size 31 5 (.slice a0 i c0) i (xs.flatMap crow):=ii
    have hG3:Gr (some p.g) w D w3 D3:=ii
    clear hg3 hg1 H6 hO1 hcm hO hpvs hap hG
    have:=hG3.keeps
    have:=hW3.off
    obtain⟨a3,m3,rfl,_,_⟩:=PV.form hpv
    have hs3:w.heap.size≤w3.heap.size:=hG3.bl.size
    have hOx:∀o,VT.Own (w3.alloc o) D3 w.heap.size 31 5 (.slice a0 i c0) i (xs.flatMap crow):=fun o=>ii
    have hBx:∀a b f d e,Box (w3.alloc (.cells #[.int .i64 a,.string b,.int .i64 f,.int .i64 d,.slice e c.parts.length m3] 31)) D3 w3.heap.size 31 _:=fun _ _ _ _ _=>ii
    have h1x:∀a b f d e u,u∈(#[.int .i64 a,.string b,.int .i64 f,.int .i64 d,.slice e c.parts.length m3]:Array Value).toList→u.oneCell'=true:=by
     intro a b f d e u hu
     simp only[List.mem_cons,List.not_mem_nil,or_false]at hu
     rcases hu with rfl|rfl|rfl|rfl|rfl<;>rfl
    go_wp2_with (at_builtin;refine wp_append_1 (v:=.slice a0 i c0) rfl (.tmp 16) (.tmp 19) 29 rfl underlying29 el31 rfl (hOx _) rfl (hBx _ _ _ _ _) rfl (h1x _ _ _ _ _) (by unfold maxLen;omega) (by omega) (by simp;omega) ?_;intro v4 w4 hO4 hc4)
    have hgo:Gro (Value.slice a0 i c0).ownBlock w3 D3 w4 D3:=Gr.g
    have hO5:=OS.own hO3 hls (fun b e=>(hW3.lt b e).1) hgo
    have:=hW3.sub (some p.g) (a:=w) (Nat.le_refl _)
    go_roundg (gk-1)
    case measure=>omega
    case rel=>
     refine⟨D3,i+1,xs++[(c,.slice a3 c.parts.length m3)],false,by omega,ii,hid hO5,hid (by rw[List.map_append,HX.out,List.take_add_one,HC.out];rfl),by simp[hxl],?_,?_⟩
     ·have e1:(xs++[(c,Value.slice a3 c.parts.length m3)]).flatMap crow=xs.flatMap crow++[.int .i64 c.kind,.string (str c.nm),.int .i64 c.lo,.int .i64 c.hi,.slice a3 c.parts.length m3]:=by simp[crow]
      rw[e1];exact hO4
     ·intro z hz
      rcases List.mem_append.1 hz with hz|hz
      ·exact hp3 z hz
      ·obtain rfl:=List.mem_singleton.1 hz;exact hpv
  ·obtain rfl:i=len:=by omega
   have hO2:OS wr D' p ks pk' (tR::r) iri op ax:=by
    have:=HO.out
    rw[List.drop_eq_nil_of_le (by have:=HL.out;omega),rT,List.nil_append]at this
    exact this
   have H6:=hid (fun(_:Unit)=>is_yes wr D' p ks pk' 1 [41] r iri op ax hO2)
   have HZ:=hid (show xs.map (·.1)=l from by rw[HX.out];exact List.take_of_length_le (by have:=HL.out;omega))
   clear HO hO2 HX
   have hi2:¬i<2:=by omega
   go_wp2_with (go_at_call 103;refine(H6.out ()).mono ?_;rintro e w1 ⟨D1,rfl,hg1,hO1⟩)
   have:=hg1.keeps
   have hW1:VT.Own w1 D1 w.heap.size 31 5 (.slice a0 i c0) i (xs.flatMap crow):=ii
   have hp1:∀x∈xs,PV D1 x.1.parts x.2:=fun x hx=>by have:=hg1.le;have:=hpvs x hx;exact ii
   have hne:xs≠[]:=fun e=>by rw[e]at hxl;simp at hxl;omega
   obtain⟨D4,hPub,hPV⟩:=hW1.pubPV hne hp1
   rw[HZ.out]at hPV
   go_ret
   have hlt:=fun k e=>(hW1.lt k e).1
   have:=hPub.gr (some p.g) w D ii hlt
   exact⟨_,D4,rfl,hPV,Gr.g,hO1.pub hPub (fun e=>by have:=hlt p.g e.symm;omega)⟩
end Go.Proofs.YticgonfhjcaohaaGreatDoor
namespace Go.Proofs.YticgonfhjcaohaaGreatDoor
open Go.RowKit Go.VT _root_.Go.Proofs.Tryz
theorem run_look_ok{P:Program}{t k e:TypeId}(ht:P.underlying t=some (.map k e))(hk:P.underlying k=some .string){z:Value}(hz:∀w,(zeroValue e).run P w=.ok z w)
  {w:World} {m:Nat} {l:List (Bs×Value)} (hm:ML w m l) (s:Bs):
  (Instr.lookup t (.map (some m)) (.string (str s)) true).run P w=.ok (.tuple #[(lookS l s).getD z,.bool (lookS l s).isSome]) w:=by
 obtain⟨es,c,hm,hes⟩:=hm.out
 exact run_lookup_str ht hk hz ⟨⟨c,hm⟩⟩ hes s
theorem lookS_none{l:List (Bs×Value)}{s:Bs}(h:∀x∈l,x.1≠s):lookS l s=none:=by
 induction l with
 |nil=>rfl
 |cons a r ih=>
  rw[lookS,if_neg (h a (by simp))]
  exact ih fun x hx=>h x (by simp[hx])
theorem conc_via(w:World)(D:Gh)(p:OC)(ks:List Bs)(pk:Bool)(f:Nat)(hf:f=97∨f=98∨f=99∨f=100∨f=101∨f=102)(c:C)(s:Bs)(q r:List KT)(iri:Value)(op:Bool)(ax:Value)(hs:lookS (concsO p) s=some (.func (Fn.func f) #[p.ptr] #[]))
  (hc:∀(w:World)(D:Gh),Keeps D w→OS w D p ks true ((4,s)::q) iri op ax→Calls prog f #[p.ptr] w (CRead w D p ks c r iri op ax)) [hk:Keeps D w] (h:OS w D p ks pk ((4,s)::q) iri op ax):
  Calls prog 151 #[p.ptr] w (CRead w D p ks c r iri op ax):=by
 obtain⟨v,hv⟩:∃v,v=Value.func (Fn.func f) #[p.ptr] #[]:=⟨_,rfl⟩
 rw[←hv]at hs
 have KS:=hid (fun(W:World)(D:Gh)(pk:Bool)(h:OS W D p ks pk ((4,s)::q) iri op ax)=>(⟨h.cells.2.2.2.2,by
  have:=run_look_ok (P:=prog) underlying91 underlying9 (z:=.nilFunc) (fun _=>by kernel_rfl) h.mc s
  rw[hs]at this;exact this⟩:W.cell? ⟨p.g,8,none⟩=some (.map (some p.mc))∧(Instr.lookup 91 (.map (some p.mc)) (.string (str s)) true).run prog W=.ok (.tuple #[v,.bool true]) W))
 have HC:=hid hc
 have hc0:Gro none w D (w.alloc (.cells z31 31)) D:=Gr.g
 have hO0:=h.gro hc0
 have hls:=h.lts
 have hof:=h.off
 have hne:NeX w.heap.size (some p.g):=neGt' h.lt
 obtain⟨W,hW⟩:∃W,W=w.alloc (.cells z31 31):=⟨_,rfl⟩
 have hB0:Box W D w.heap.size 31 z31:=by rw[hW];exact ii
 have hG0:Gr (some p.g) w D W D:=by rw[hW];exact ii
 have:=hG0.keeps
 rw[←hW]at hO0
 have HO0:=hid (fun(_:Unit)=>hO0)
 clear hc h hc0 hs
 have HF:=hid hf
 have HV:=hid hv
 clear hf hv
 go_enter func151,ntmps151
 repeat((fail_if_success (with_reducible show Code.wp _ (Code.region 1 _ _) _ _ _));go_step)
 rw[←hW]
 clear hW
 go_region_held3 (fun W'=>W'.cell? ⟨p.g,8,none⟩=some (.map (some p.mc))∧(Instr.lookup 91 (.map (some p.mc)) (.string (str s)) true).run prog W'=.ok (.tuple #[v,.bool true]) W')
  (first|exact KS.out _ _ _ hO1|exact KS.out _ _ _ (hO1.n0 Bel.c)|exact KS.out _ _ _ (HO0.out ())|exact KS.out _ _ _ ((HO0.out ()).n0 Bel.c))
  (first|(go_at_call 108;refine(peek_o _ D p ks pk 4 s q iri op ax ((HO0.out ()).n0 Bel.c)).mono ?_;rintro e w1 ⟨a1,D1,rfl,hg1,hO1⟩;have f1:=fld152_1))
 obtain rfl:=HV.out
 rcases HF.out with rfl|rfl|rfl|rfl|rfl|rfl
 all_goals
  clear HV HF KS HO0 hO0
  go_wp2_with fail
  refine(HC.out _ _ hg1.keeps hO1).mono ?_
  rintro e w2 ⟨pv,D2,rfl,hpv,hg2,hO2⟩
  obtain⟨a2,m2,rfl,_,_⟩:=PV.form hpv
  have hB1:Box w1 D1 w.heap.size 31 z31:=ii
  have hB:Box w2 D2 w.heap.size 31 z31:=ii
  have q1:=Box.held5 hB
  have:=hB.off
  have:=hg2.keeps
  go_wp2_with fail
  refine bodyPost_ret (v:=cv c (.slice a2 c.parts.length m2)) (by simp[results,results151,go_sem,Box.cell (D:=D2) (g:=w.heap.size)]) rfl ⟨_,D2,rfl,hpv,Gr.g,?_⟩
  exact OS.own (B:=w.heap.size) (X:=some w.heap.size) hO2 hls (fun b e=>by cases e;exact Nat.le_refl _) Gr.g
theorem conc_name(w:World)(D:Gh)(p:OC)(ks:List Bs)(pk:Bool)(s:Bs)(r:List KT)(hr:r≠[])(hp:plainB s=true)(hi:inP ks s)(iri:Value)(op:Bool)(ax:Value)[hk:Keeps D w](h:OS w D p ks pk (tN s::r) iri op ax):
  Calls prog 151 #[p.ptr] w (CRead w D p ks (.named s) r iri op ax):=by
 have hs:lookS (concsO p) (nameW s)=none:=by
  have hcol:=(nameW_facts hp).2.2.1
  refine lookS_none fun x hx e=>?_
  rw[←e]at hcol
  have hown:=hi.2.1
  rw[←e]at hown
  simp only[concsO,List.map_cons,List.map_nil,List.mem_cons,List.not_mem_nil,or_false]at hx
  rcases hx with rfl|rfl|rfl|rfl|rfl|rfl
  ·exact absurd hown (show¬(cutC o_thing).1≠o_owl from by decide)
  ·exact absurd hown (show¬(cutC o_nothing).1≠o_owl from by decide)
  ·exact absurd hcol (show¬hasC o_inter=true from by decide)
  ·exact absurd hcol (show¬hasC o_somev=true from by decide)
  ·exact absurd hcol (show¬hasC o_oneof=true from by decide)
  ·exact absurd hcol (show¬hasC o_datas=true from by decide)
 have KS:=hid (fun(W:World)(D:Gh)(pk:Bool)(h:OS W D p ks pk (tN s::r) iri op ax)=>(⟨h.cells.2.2.2.2,by
  have:=run_look_ok (P:=prog) underlying91 underlying9 (z:=.nilFunc) (fun _=>by kernel_rfl) h.mc (nameW s)
  rw[hs]at this;exact this⟩:W.cell? ⟨p.g,8,none⟩=some (.map (some p.mc))∧(Instr.lookup 91 (.map (some p.mc)) (.string (str (nameW s))) true).run prog W=.ok (.tuple #[.nilFunc,.bool false]) W))
 have hc0:Gro none w D (w.alloc (.cells z31 31)) D:=Gr.g
 have hO0:=h.gro hc0
 have hls:=h.lts
 have hof:=h.off
 have hne:NeX w.heap.size (some p.g):=neGt' h.lt
 obtain⟨W,hW⟩:∃W,W=w.alloc (.cells z31 31):=⟨_,rfl⟩
 have hB0:Box W D w.heap.size 31 z31:=by rw[hW];exact ii
 have hG0:Gr (some p.g) w D W D:=by rw[hW];exact ii
 have:=hG0.keeps
 rw[←hW]at hO0
 have HO0:=hid (fun(_:Unit)=>hO0)
 have HI:=hid hi
 clear h hc0 hs hi
 go_enter func151,ntmps151
 repeat((fail_if_success (with_reducible show Code.wp _ (Code.region 1 _ _) _ _ _));go_step)
 rw[←hW]
 clear hW
 go_region_held3 (fun W'=>W'.cell? ⟨p.g,8,none⟩=some (.map (some p.mc))∧(Instr.lookup 91 (.map (some p.mc)) (.string (str (nameW s))) true).run prog W'=.ok (.tuple #[.nilFunc,.bool false]) W')
  (first|exact KS.out _ _ _ hO1|exact KS.out _ _ _ (hO1.n0 Bel.c)|exact KS.out _ _ _ (HO0.out ())|exact KS.out _ _ _ ((HO0.out ()).n0 Bel.c))
  (first|(go_at_call 108;refine(peek_o _ D p ks pk 4 (nameW s) r iri op ax ((HO0.out ()).n0 Bel.c)).mono ?_;rintro e w1 ⟨a1,D1,rfl,hg1,hO1⟩;have f1:=fld152_1))
 all_goals
  clear KS HO0 hO0
  have:=hg1.keeps
  have H2:=hid (fun(_:Unit)=>name_o w1 D1 p ks true s r hr hp HI.out iri op ax hO1)
  clear hO1 hr hp HI
  go_wp2_with fail
  refine(H2.out ()).mono ?_
  rintro e w2 ⟨D2,rfl,hg2,hO2⟩
  have hB1:Box w1 D1 w.heap.size 31 z31:=ii
  have hB:Box w2 D2 w.heap.size 31 z31:=ii
  have q1:=Box.held5 hB
  have:=hB.off
  have:=hg2.keeps
  go_wp2_with fail
  refine bodyPost_ret (v:=.agg #[.int .i64 3,.string (str s),.int .i64 0,.int .i64 0,.slice none 0 0]) (by simp[results,results151,go_sem,Box.cell (D:=D2) (g:=w.heap.size)]) rfl ⟨_,D2,rfl,.nil,Gr.g,?_⟩
  exact OS.own (B:=w.heap.size) (X:=some w.heap.size) hO2 hls (fun b e=>by cases e;exact Nat.le_refl _) Gr.g
theorem and_o(w:World)(D:Gh)(p:OC)(ks:List Bs)(l:List C)(r:List KT)(hr:r≠[])(iri:Value)(op:Bool)(ax:Value)(h2:2≤l.length)(hl:l.length≤65536)
  (h151:∀c∈l,∀(w:World)(D:Gh)(pk:Bool)(r:List KT),r≠[]→Keeps D w→OS w D p ks pk (cT c++r) iri op ax→Calls prog 151 #[p.ptr] w (CRead w D p ks c r iri op ax)) [hk:Keeps D w] (h:OS w D p ks true ((4,o_inter)::tL::(rT l++tR::r)) iri op ax):
  Calls prog 99 #[p.ptr] w (CRead w D p ks (.and l) r iri op ax):=by
 have hc0:Gro none w D (w.alloc (.cells z31 31)) D:=Gr.g
 have hO0:=h.gro hc0
 have hls:=h.lts
 have hof:=h.off
 have hne:NeX w.heap.size (some p.g):=neGt' h.lt
 clear h hc0
 go_enter func99,ntmps99
 have H1:=hid (fun(_:Unit)=>pass_o _ D p ks 4 o_inter _ (by simp) iri op ax hO0)
 clear hO0
 go_wp2_with fail
 refine(H1.out ()).mono ?_
 rintro e w1 ⟨rfl,hg1,hO1⟩
 have:=hg1.keeps
 have H2:=hid (fun(_:Unit)=>want_o w1 D p ks false 1 [40] _ (by simp) iri op ax hO1)
 clear hO1
 go_wp2_with fail
 refine(H2.out ()).mono ?_
 rintro e w2 ⟨D2,rfl,hg2,hO2⟩
 have:=hg2.keeps
 have H3:=hid (fun(_:Unit)=>list_o w2 D2 p ks false l r iri op ax h2 hl h151 hO2)
 clear hO2 h151
 have hmf:∀(fn:Fn)(first cap:Array Value)(w:World),(Instr.makeFunc fn first cap).run prog w=.ok (.func fn first cap) w:=fun _ _ _ _=>rfl
 go_wp2_with fail
 refine(H3.out ()).mono ?_
 rintro e w3 ⟨pv,D3,rfl,hpv,hg3,hO3⟩
 have:=hg3.keeps
 have H4:=hid (fun(_:Unit)=>want_o w3 D3 p ks true 1 [41] _ hr iri op ax hO3)
 clear hO3
 obtain⟨a3,m3,rfl,_,_⟩:=PV.form hpv
 go_wp2_with fail
 refine(H4.out ()).mono ?_
 rintro e w4 ⟨D4,rfl,hg4,hO4⟩
 have:=hg4.keeps
 have:=hg4.le
 have hpv4:PV D4 l (.slice a3 l.length m3):=ii
 have hB:Box w4 D4 w.heap.size 31 z31:=ii
 have q1:=Box.held5 hB
 have:=hB.off
 generalize l.length=n at*
 go_wp2_with fail
 refine bodyPost_ret (v:=.agg #[.int .i64 5,.string ⟨#[]⟩,.int .i64 0,.int .i64 0,.slice a3 n m3]) (by simp[results,results99,go_sem,Box.cell (D:=D4) (g:=w.heap.size)]) rfl ⟨_,D4,rfl,hpv4,Gr.g,?_⟩
 exact OS.own (B:=w.heap.size) (X:=some w.heap.size) hO4 hls (fun b e=>by cases e;exact Nat.le_refl _) Gr.g
end Go.Proofs.YticgonfhjcaohaaGreatDoor
