/- TopParsed, part 31. -/
import Derived.Test.YticgonfhjcaohaaGreatDoorP28
set_option maxRecDepth 100000
set_option maxHeartbeats 32000000
namespace Go.Proofs.YticgonfhjcaohaaGreatDoor
open Go.RowKit Go.VT _root_.Go.Proofs.Tryz
theorem dig_of{t:Bs}(h:integerB t=true):1≤(Lib.trimPrefix t [45]).length∧(Lib.trimPrefix t [45]).length≤18∧(Lib.trimPrefix t [45]).all digitB=true∧((Lib.trimPrefix t [45]).head?=some 48→t=[48]):=by
 simp only[integerB,Bool.or_eq_true,beq_iff_eq,Bool.and_eq_true,decide_eq_true_eq,Bool.not_eq_true',beq_eq_false_iff_ne,ne_eq]at h
 have key:∀d:Bs,Lib.trimPrefix t [45]=d→(t=[48]∧d=[48]∨(((1≤d.length∧d.length≤18)∧¬d.head?=some 48)∧d.all digitB=true))→1≤(Lib.trimPrefix t [45]).length∧(Lib.trimPrefix t [45]).length≤18∧(Lib.trimPrefix t [45]).all digitB=true∧((Lib.trimPrefix t [45]).head?=some 48→t=[48]):=by
  rintro d hd(⟨h1,h2⟩|⟨⟨⟨h1,h2⟩,h3⟩,h4⟩)<;>rw[hd]
  ·subst h2;exact⟨by decide,by decide,by decide,fun _=>h1⟩
  ·exact⟨h1,h2,h4,fun e=>absurd e h3⟩
 rcases t with _|⟨c,q⟩
 ·rcases h with h|h
  ·cases h
  ·simp at h
 ·by_cases hc:c=45
  ·subst hc
   refine key q (by simp[Lib.trimPrefix,Lib.hasPrefix]) (.inr ?_)
   rcases h with h|h
   ·cases h
   ·simpa using h
  ·refine key (c::q) (by simp[Lib.trimPrefix,Lib.hasPrefix,Ne.symm hc]) ?_
   rcases h with h|h
   ·exact .inl ⟨h,h⟩
   ·refine .inr ?_
    have e:((c::q).head?=some 45)=False:=by simp[hc]
    simpa only[e,if_false]using h
theorem integerO_c(t:Bs)(a v:Int)(w:World)(ht:integerB t=true)(hl:t.length≤100)(hv:intVal t=v):Calls prog 186 #[.agg #[.int .i64 3,.string (str (34::(t++[34]))),.int .i64 a]] w fun e w'=>e=.returned (.tuple #[.int .i64 v,.bool true])∧Cll none w w':=by
 obtain⟨d1,d2,d3,d4⟩:=dig_of ht
 have hat:=atoi_c t ht (by omega)
 rw[hv]at hat
 have htr:=strings_TrimPrefix (str t) (str [45])
 rw[str_data,str_data]at htr
 obtain⟨d,hd⟩:∃d,d=Lib.trimPrefix t [45]:=⟨_,rfl⟩
 rw[←hd]at d1 d2 d3 d4 htr
 have hsl:(str (34::(t++[34]))).extract 1 (t.length+2-1)=str t:=by
  rw[str_extract];simp
 have hsz:(str (34::(t++[34]))).size=t.length+2:=by rw[str_size];simp
 obtain⟨c0,dr,hcd⟩:∃c0 dr,d=c0::dr:=by
  rcases d with _|⟨c0,dr⟩
  ·simp at d1
  ·exact⟨c0,dr,rfl⟩
 have HA:=hid hat
 have HT:=hid htr
 have HD:=hid d3
 have h48:c0=48→((str t).toList==[48])=true:=fun e=>by rw[str_toList,d4 (by rw[hcd,e];rfl)];rfl
 have hg:=str_get0 c0 dr
 rw[←hcd]at hg
 obtain⟨m,hm⟩:∃m,m=t.length:=⟨_,rfl⟩
 rw[←hm]at hsl hsz hl
 have hds:(str d).size=d.length:=str_size d
 obtain⟨S,hS⟩:∃S,S=str (34::(t++[34])):=⟨_,rfl⟩
 rw[←hS]at hsl hsz⊢
 have hz:(c0.toNat:Int)<256:=by have:=c0.toNat_lt;omega
 have e48:((c0.toNat:Int)==48)=decide (c0=48):=u8_ne c0 48
 have hpos:0<d.length:=d1
 have hsl2:S.extract 1 (m+1)=str t:=hsl
 obtain⟨cc,W,hrun,hC,hc1,hc2,hcell,hsw⟩:=conv_bytes d (by omega) (w.alloc (.cells #[.int .i64 3,.string S,.int .i64 a] 152))
 rw[World.size_alloc]at hcell hsw
 have HCell:=hid hcell
 have hW:Cll none w W:=by have:=hC;exact Bel.c
 have HC48:=hid h48
 clear hv ht hat htr hd d3 d4 hm hS hcd hcell h48 hC
 go_enter func186,ntmps186
 go_wp2_with fail
 refine(HT.out _).mono ?_
 rintro e w1 ⟨rfl,rfl⟩
 rw[show ByteArray.mk d.toArray=str d from rfl]
 by_cases hc0:c0=48
 ·have h49:=HC48.out hc0
  rw[decide_eq_true hc0]at e48
  clear hc0
  go_wp2
  clear hrun
  go_loop [41] (fun i=>∃k:Nat,k≤d.length∧i=.int .i64 k) (fun i=>d.length-(intOf i).toNat)
  case atStart=>exact⟨0,by omega,rfl⟩
  case round=>
   obtain⟨k,hk,rfl⟩:=hrel
   by_cases hlt:k<d.length
   ·have hcl:=HCell.out k hlt
    unfold bv at hcl
    have hdg:48≤(d[k].toNat:Int)∧(d[k].toNat:Int)≤57:=by
     have:=List.all_eq_true.1 HD.out d[k] (List.getElem_mem hlt)
     simp only[digitB,Bool.and_eq_true,decide_eq_true_eq,UInt8.le_iff_toNat_le]at this
     have h1:48≤d[k].toNat∧d[k].toNat≤57:=by simpa using this
     omega
    obtain⟨hd1,hd2⟩:=hdg
    generalize d[k]=u at*
    have z1:decide ((u.toNat:Int)<48)=false:=decide_eq_false (by omega)
    have z2:decide (57<(u.toNat:Int))=false:=decide_eq_false (by omega)
    clear hg e48 hz
    go_wp2
    go_round
    case rel=>exact⟨k+1,by omega,by go_num⟩
    case measure=>simp[intOf];omega
   ·clear hg e48 hz
    go_wp2_with fail
    refine(HA.out _).mono ?_
    rintro e w2 ⟨rfl,hc2⟩
    have e0:=ext2_0
    have e1:=ext2_1
    go_wp2_with fail
    go_quiet (fail)
    go_wp2_with fail
    go_ret2
    exact⟨rfl,Bel.c⟩
 ·rw[decide_eq_false hc0]at e48
  clear hc0
  go_wp2
  clear hrun
  go_loop [41] (fun i=>∃k:Nat,k≤d.length∧i=.int .i64 k) (fun i=>d.length-(intOf i).toNat)
  case atStart=>exact⟨0,by omega,rfl⟩
  case round=>
   obtain⟨k,hk,rfl⟩:=hrel
   by_cases hlt:k<d.length
   ·have hcl:=HCell.out k hlt
    unfold bv at hcl
    have hdg:48≤(d[k].toNat:Int)∧(d[k].toNat:Int)≤57:=by
     have:=List.all_eq_true.1 HD.out d[k] (List.getElem_mem hlt)
     simp only[digitB,Bool.and_eq_true,decide_eq_true_eq,UInt8.le_iff_toNat_le]at this
     have h1:48≤d[k].toNat∧d[k].toNat≤57:=by simpa using this
     omega
    obtain⟨hd1,hd2⟩:=hdg
    generalize d[k]=u at*
    have z1:decide ((u.toNat:Int)<48)=false:=decide_eq_false (by omega)
    have z2:decide (57<(u.toNat:Int))=false:=decide_eq_false (by omega)
    clear hg e48 hz
    go_wp2
    go_round
    case rel=>exact⟨k+1,by omega,by go_num⟩
    case measure=>simp[intOf];omega
   ·clear hg e48 hz
    go_wp2_with fail
    refine(HA.out _).mono ?_
    rintro e w2 ⟨rfl,hc2⟩
    have e0:=ext2_0
    have e1:=ext2_1
    go_wp2_with fail
    go_quiet (fail)
    go_wp2_with fail
    go_ret2
    exact⟨rfl,Bel.c⟩
end Go.Proofs.YticgonfhjcaohaaGreatDoor
namespace Go.Proofs.YticgonfhjcaohaaGreatDoor
open Go.RowKit Go.VT _root_.Go.Proofs.Tryz
theorem facet_o(w:World)(D:Gh)(p:OC)(ks:List Bs)(pk:Bool)(wd other:Bs)(v:Int)(cb:Nat)(f:ByteArray)(lo hi:Int)(r:List KT)(hr:r≠[])(hw:wd=o_minc∨wd=o_maxc)(hot:wd≠other)(h1: -maxN≤v)(h2:v≤maxN)(hx:o_xsd++[58]∈ks)(iri:Value)(op:Bool)(ax:Value)(a:World)(A:Gh)(hcb:a.heap.size≤cb)(hpc:p.g≠cb)
  [hk:Keeps D w] (hG:Gr (some p.g) a A w D) (hC:Box w D cb 31 #[.int .i64 7,.string f,.int .i64 lo,.int .i64 hi,.slice none 0 0]) (hls:p.mp<a.heap.size∧p.mi<a.heap.size∧p.mc<a.heap.size) (h:OS w D p ks pk (facetT wd v++r) iri op ax):
  Calls prog 155 #[p.ptr,.pointer (some ⟨cb,0,none⟩),.string (str other)] w fun e w'=>∃D':Gh,e=.returned (.string (str wd))∧Gr (some p.g) a A w' D'∧OS w' D' p ks false r iri op ax∧Box w' D' cb 31 #[.int .i64 7,.string f,.int .i64 (if wd=o_minc then v else lo),.int .i64 (if wd=o_minc then hi else v),.slice none 0 0]∧
   (∀g t cs,g≠p.g→g≠cb→Box w D g t cs→Box w' D' g t cs):=by
 have m1:((str wd).toList==[120,115,100,58,109,105,110,73,110,99,108,117,115,105,118,101])=decide (wd=o_minc):=by rw[str_toList,Bool.eq_iff_iff];simp
 have m2:((str wd).toList==[120,115,100,58,109,97,120,73,110,99,108,117,115,105,118,101])=decide (wd=o_maxc):=by rw[str_toList,Bool.eq_iff_iff];simp
 have m3:((str wd).toList==(str other).toList)=false:=by rw[str_beq];simpa using hot
 obtain⟨i1,i2,i3,_⟩:=itoa_num h1 h2
 obtain⟨s,hs⟩:∃s,s=Lib.itoa v:=⟨_,rfl⟩
 have h':OS w D p ks pk ((4,wd)::(3,34::(s++[34]))::(1,[94,94])::(4,o_xint)::r) iri op ax:=by rw[hs];exact h
 rw[←hs]at i1 i2 i3
 have hof:=h.off
 have HI:=hid (fun(a:Int)(w:World)=>integerO_c s a v w i1 (by omega) i2)
 have H1:=hid (peek_o w D p ks pk 4 wd _ iri op ax h')
 have hne:NeX cb (some p.g):=⟨fun e=>hpc (Option.some.inj e).symm⟩
 have hnw:New a cb:=⟨hcb⟩
 clear h h' hot i1 i2 i3 hs h1 h2
 go_enter func155,ntmps155
 go_wp2_with fail
 refine H1.out.mono ?_
 rintro e w1 ⟨a1,D1,rfl,hg1,hO1⟩
 have:=hg1.keeps
 have f1:=fld152_1
 have H2:=hid (fun(_:Unit)=>fixed_o w1 D1 p ks true 4 wd (o_xsd++[58]) _ (by simp) hx iri op ax hO1)
 clear hO1
 have hde:decide (wd=o_minc)=true∨(decide (wd=o_minc)=false∧decide (wd=o_maxc)=true):=by rcases hw with rfl|rfl<;>simp
 rcases hde with hde|⟨hde,hde2⟩
 ·rw[hde]at m1
  have hwm:wd=o_minc:=of_decide_eq_true hde
  have HW:=hid hwm
  clear hde m2 hwm hw
  go_wp2_with fail
  refine(fail_ok _ _).mono ?_
  rintro e w1 ⟨rfl,rfl⟩
  go_wp2_with fail
  refine(H2.out ()).mono ?_
  rintro e w2 ⟨D2,rfl,hg2,hO2⟩
  have:=hg2.keeps
  have H3:=hid (fun(_:Unit)=>peek_o w2 D2 p ks false 3 _ _ iri op ax hO2)
  clear hO2
  go_wp2_with fail
  refine(H3.out ()).mono ?_
  rintro e w3 ⟨a3,D3,rfl,hg3,hO3⟩
  have:=hg3.keeps
  go_wp2_with fail
  refine(HI.out a3 w3).mono ?_
  rintro e w4 ⟨rfl,hc4⟩
  have hO4:=hO3.n0 hc4
  have hg4:Gro (some p.g) w3 D3 w4 D3:=Gr.g
  have:=hg4.keeps
  have H5:=hid (fun(_:Unit)=>pass_o w4 D3 p ks 3 _ _ (by simp) iri op ax hO4)
  clear hO3 hO4
  have e0:=ext2_0
  have e1:=ext2_1
  go_wp2_with fail
  refine(fail_ok _ _).mono ?_
  rintro e w4 ⟨rfl,rfl⟩
  go_wp2_with fail
  refine(H5.out ()).mono ?_
  rintro e w5 ⟨rfl,hg5,hO5⟩
  have:=hg5.keeps
  have H6:=hid (fun(_:Unit)=>want_o w5 D3 p ks false 1 [94,94] _ (by simp) iri op ax hO5)
  clear hO5
  go_wp2_with fail
  refine(H6.out ()).mono ?_
  rintro e w6 ⟨D6,rfl,hg6,hO6⟩
  have:=hg6.keeps
  have H7:=hid (fun(_:Unit)=>fixed_o w6 D6 p ks false 4 o_xint (o_xsd++[58]) _ hr hx iri op ax hO6)
  clear hO6
  go_wp2_with fail
  refine(H7.out ()).mono ?_
  rintro e w7 ⟨D7,rfl,hg7,hO7⟩
  have:=hg7.keeps
  have hb:∀g t cs,g≠p.g→Box w D g t cs→Box w7 D7 g t cs:=fun g t cs h1 hb=>by
   have n1:NeX g (some p.g):=⟨fun e=>h1 (Option.some.inj e)⟩
   have b1:Box w1 D1 g t cs:=Box.gro w w1 D D1 g t cs (some p.g)
   have b2:Box w2 D2 g t cs:=Box.gro w1 w2 D1 D2 g t cs (some p.g)
   have b3:Box w3 D3 g t cs:=Box.gro w2 w3 D2 D3 g t cs (some p.g)
   have b4:Box w4 D3 g t cs:=Box.call w3 w4 D3 g t cs none
   have b5:Box w5 D3 g t cs:=Box.gro w4 w5 D3 D3 g t cs (some p.g)
   have b6:Box w6 D6 g t cs:=Box.gro w5 w6 D3 D6 g t cs (some p.g)
   exact Box.gro w6 w7 D6 D7 g t cs (some p.g)
  have hB7:=hb cb _ _ (Ne.symm hpc) hC
  have q7:=hB7.held (i:=2) rfl
  have l7:=hB7.lt
  have:=hB7.off
  clear m3
  have g1:Gr (some p.g) a A w1 D1:=ii
  have g2:Gr (some p.g) a A w2 D2:=ii
  have g3:Gr (some p.g) a A w3 D3:=ii
  have g5:Gr (some p.g) a A w5 D3:=ii
  have g6:Gr (some p.g) a A w6 D6:=ii
  have g7:Gr (some p.g) a A w7 D7:=ii
  go_wp2_with fail
  go_ret
  have hcx:Gro (some cb) w7 D7 (w7.setCell ⟨cb,2,none⟩ (.int .i64 v)) D7:=Gr.g
  refine⟨rfl,D7,ii,hO7.far hcx (fun e=>hpc (Option.some.inj e)) (fun e=>by have:=Option.some.inj e;omega) (fun e=>by have:=Option.some.inj e;omega) (fun e=>by have:=Option.some.inj e;omega),?_,fun g t cs h1 h2 hb0=>have:=hb g t cs h1 hb0;Box.far h2 _⟩
  simpa using@Box.set_ _ D7 cb 31 _ 2 (.int .i64 v) hB7
 ·rw[hde]at m1
  rw[hde2]at m2
  have hwm:¬wd=o_minc:=of_decide_eq_false hde
  have HW:=hid hwm
  clear hde hde2 hwm hw
  go_wp2_with fail
  refine(fail_ok _ _).mono ?_
  rintro e w1 ⟨rfl,rfl⟩
  go_wp2_with fail
  refine(H2.out ()).mono ?_
  rintro e w2 ⟨D2,rfl,hg2,hO2⟩
  have:=hg2.keeps
  have H3:=hid (fun(_:Unit)=>peek_o w2 D2 p ks false 3 _ _ iri op ax hO2)
  clear hO2
  go_wp2_with fail
  refine(H3.out ()).mono ?_
  rintro e w3 ⟨a3,D3,rfl,hg3,hO3⟩
  have:=hg3.keeps
  go_wp2_with fail
  refine(HI.out a3 w3).mono ?_
  rintro e w4 ⟨rfl,hc4⟩
  have hO4:=hO3.n0 hc4
  have hg4:Gro (some p.g) w3 D3 w4 D3:=Gr.g
  have:=hg4.keeps
  have H5:=hid (fun(_:Unit)=>pass_o w4 D3 p ks 3 _ _ (by simp) iri op ax hO4)
  clear hO3 hO4
  have e0:=ext2_0
  have e1:=ext2_1
  go_wp2_with fail
  refine(fail_ok _ _).mono ?_
  rintro e w4 ⟨rfl,rfl⟩
  go_wp2_with fail
  refine(H5.out ()).mono ?_
  rintro e w5 ⟨rfl,hg5,hO5⟩
  have:=hg5.keeps
  have H6:=hid (fun(_:Unit)=>want_o w5 D3 p ks false 1 [94,94] _ (by simp) iri op ax hO5)
  clear hO5
  go_wp2_with fail
  refine(H6.out ()).mono ?_
  rintro e w6 ⟨D6,rfl,hg6,hO6⟩
  have:=hg6.keeps
  have H7:=hid (fun(_:Unit)=>fixed_o w6 D6 p ks false 4 o_xint (o_xsd++[58]) _ hr hx iri op ax hO6)
  clear hO6
  go_wp2_with fail
  refine(H7.out ()).mono ?_
  rintro e w7 ⟨D7,rfl,hg7,hO7⟩
  have:=hg7.keeps
  have hb:∀g t cs,g≠p.g→Box w D g t cs→Box w7 D7 g t cs:=fun g t cs h1 hb=>by
   have n1:NeX g (some p.g):=⟨fun e=>h1 (Option.some.inj e)⟩
   have b1:Box w1 D1 g t cs:=Box.gro w w1 D D1 g t cs (some p.g)
   have b2:Box w2 D2 g t cs:=Box.gro w1 w2 D1 D2 g t cs (some p.g)
   have b3:Box w3 D3 g t cs:=Box.gro w2 w3 D2 D3 g t cs (some p.g)
   have b4:Box w4 D3 g t cs:=Box.call w3 w4 D3 g t cs none
   have b5:Box w5 D3 g t cs:=Box.gro w4 w5 D3 D3 g t cs (some p.g)
   have b6:Box w6 D6 g t cs:=Box.gro w5 w6 D3 D6 g t cs (some p.g)
   exact Box.gro w6 w7 D6 D7 g t cs (some p.g)
  have hB7:=hb cb _ _ (Ne.symm hpc) hC
  have q7:=hB7.held (i:=3) rfl
  have l7:=hB7.lt
  have:=hB7.off
  clear m3
  have g1:Gr (some p.g) a A w1 D1:=ii
  have g2:Gr (some p.g) a A w2 D2:=ii
  have g3:Gr (some p.g) a A w3 D3:=ii
  have g5:Gr (some p.g) a A w5 D3:=ii
  have g6:Gr (some p.g) a A w6 D6:=ii
  have g7:Gr (some p.g) a A w7 D7:=ii
  go_wp2_with fail
  go_ret
  have hcx:Gro (some cb) w7 D7 (w7.setCell ⟨cb,3,none⟩ (.int .i64 v)) D7:=Gr.g
  refine⟨rfl,D7,ii,hO7.far hcx (fun e=>hpc (Option.some.inj e)) (fun e=>by have:=Option.some.inj e;omega) (fun e=>by have:=Option.some.inj e;omega) (fun e=>by have:=Option.some.inj e;omega),?_,fun g t cs h1 h2 hb0=>have:=hb g t cs h1 hb0;Box.far h2 _⟩
  simpa using@Box.set_ _ D7 cb 31 _ 3 (.int .i64 v) hB7
theorem data_o(w:World)(D:Gh)(p:OC)(ks:List Bs)(s:Bs)(lo hi:Int)(r:List KT)(hr:r≠[])(hp:plainB s=true)(hi':inP ks s)(hx:o_xsd++[58]∈ks)(h1: -maxN≤lo∧lo≤maxN)(h2: -maxN≤hi∧hi≤maxN)(iri:Value)(op:Bool)(ax:Value)[hk:Keeps D w](h:OS w D p ks true ((4,o_datas)::tL::tN s::(spanT lo hi++tR::r)) iri op ax):
  Calls prog 102 #[p.ptr] w (CRead w D p ks (.range s lo hi) r iri op ax):=by
 have h':OS w D p ks true ((4,o_datas)::tL::tN s::(4,o_restr)::tL::(4,o_xint)::(facetT o_minc lo++(facetT o_maxc hi++(tR::tR::r)))) iri op ax:=by
  have:=h;simp only[spanT,List.cons_append,List.append_assoc,List.nil_append]at this;exact this
 have hc0:Gro none w D (w.alloc (.cells z31 31)) D:=Gr.g
 have hO0:=h'.gro hc0
 have hls:=h.lts
 have hof:=h.off
 have hne:NeX w.heap.size (some p.g):=neGt' h.lt
 clear h h' hc0
 go_enter func102,ntmps102
 have H1:=hid (fun(_:Unit)=>pass_o _ D p ks 4 o_datas _ (by simp) iri op ax hO0)
 clear hO0
 go_wp2_with fail
 refine(H1.out ()).mono ?_
 rintro e w1 ⟨rfl,hg1,hO1⟩
 have:=hg1.keeps
 have H2:=hid (fun(_:Unit)=>want_o w1 D p ks false 1 [40] _ (by simp) iri op ax hO1)
 clear hO1
 go_wp2_with fail
 refine(H2.out ()).mono ?_
 rintro e w2 ⟨D2,rfl,hg2,hO2⟩
 have:=hg2.keeps
 have H3:=hid (fun(_:Unit)=>name_o w2 D2 p ks false s _ (by simp) hp hi' iri op ax hO2)
 clear hO2
 go_wp2_with fail
 refine(H3.out ()).mono ?_
 rintro e w3 ⟨D3,rfl,hg3,hO3⟩
 have:=hg3.keeps
 obtain⟨cb,hcb⟩:∃c,c=w3.heap.size:=⟨_,rfl⟩
 obtain⟨W,hW⟩:∃W,W=w3.alloc (.cells #[.int .i64 7,.string (str s),.int .i64 (-1099511627776),.int .i64 1099511627776,.slice none 0 0] 31):=⟨_,rfl⟩
 have hcx:Gro none w3 D3 W D3:=by rw[hW];exact Gr.g
 have hOW:=hO3.gro hcx
 have:=hcx.keeps
 have hCW:Box W D3 cb 31 #[.int .i64 7,.string (str s),.int .i64 (-1099511627776),.int .i64 1099511627776,.slice none 0 0]:=by rw[hW,hcb];exact ii
 have hB3:Box w3 D3 w.heap.size 31 z31:=ii
 have hBW:Box W D3 w.heap.size 31 z31:=by rw[hW];exact ii
 have gW:Gr (some p.g) w D W D3:=by rw[hW];exact ii
 have hlt3:=hB3.lt
 have hl3:=hO3.lt
 have hcl:w.heap.size≤cb∧p.g≠cb∧cb≠w.heap.size:=by omega
 have HW:=hid hW
 have HCB:=hid hcb
 have H4:=hid (fun(_:Unit)=>is_yes W D3 p ks false 4 o_restr _ iri op ax hOW)
 clear hW hcb hOW hO3 hB3
 go_wp2_with (first|(go_at_call 103;rw[←HCB.out,←HW.out];refine(H4.out ()).mono ?_;rintro e w4 ⟨D4,rfl,hg4,hO4⟩))
 have:=hg4.keeps
 have H5:=hid (fun(_:Unit)=>pass_o w4 D4 p ks 4 o_restr _ (by simp) iri op ax hO4)
 clear hO4
 go_wp2_with fail
 refine(H5.out ()).mono ?_
 rintro e w5 ⟨rfl,hg5,hO5⟩
 have:=hg5.keeps
 have H6:=hid (fun(_:Unit)=>want_o w5 D4 p ks false 1 [40] _ (by simp) iri op ax hO5)
 clear hO5
 go_wp2_with fail
 refine(H6.out ()).mono ?_
 rintro e w6 ⟨D6,rfl,hg6,hO6⟩
 have:=hg6.keeps
 have H7:=hid (fun(_:Unit)=>fixed_o w6 D6 p ks false 4 o_xint (o_xsd++[58]) _ (by simp[facetT]) hx iri op ax hO6)
 clear hO6
 go_wp2_with fail
 refine(H7.out ()).mono ?_
 rintro e w7 ⟨D7,rfl,hg7,hO7⟩
 have:=hg7.keeps
 have n1:NeX cb (some p.g):=⟨fun e=>hcl.2.1 (Option.some.inj e).symm⟩
 have b4:Box w4 D4 cb 31 #[.int .i64 7,.string (str s),.int .i64 (-1099511627776),.int .i64 1099511627776,.slice none 0 0]:=ii
 have b5:Box w5 D4 cb 31 #[.int .i64 7,.string (str s),.int .i64 (-1099511627776),.int .i64 1099511627776,.slice none 0 0]:=ii
 have b6:Box w6 D6 cb 31 #[.int .i64 7,.string (str s),.int .i64 (-1099511627776),.int .i64 1099511627776,.slice none 0 0]:=ii
 have b7:Box w7 D7 cb 31 #[.int .i64 7,.string (str s),.int .i64 (-1099511627776),.int .i64 1099511627776,.slice none 0 0]:=ii
 have x4:Box w4 D4 w.heap.size 31 z31:=ii
 have x5:Box w5 D4 w.heap.size 31 z31:=ii
 have x6:Box w6 D6 w.heap.size 31 z31:=ii
 have x7:Box w7 D7 w.heap.size 31 z31:=ii
 have y4:Gr (some p.g) w D w4 D4:=ii
 have y5:Gr (some p.g) w D w5 D4:=ii
 have y6:Gr (some p.g) w D w6 D6:=ii
 have y7:Gr (some p.g) w D w7 D7:=ii
 have H8:=hid (fun(_:Unit)=>facet_o w7 D7 p ks false o_minc [] lo cb (str s) (-1099511627776) 1099511627776 _ (by simp[facetT]) (.inl rfl) (by decide) h1.1 h1.2 hx iri op ax w D hcl.1 hcl.2.1 y7 b7 hls.2 hO7)
 clear hO7 b4 b5 b6 x4 x5 x6 y4 y5 y6 hg5 hg6 hg7 hg4 hg3 hg2 hg1
 go_wp2_with fail
 refine(H8.out ()).mono ?_
 rintro e w8 ⟨D8,rfl,y8,hO8,b8,hx8⟩
 have x8:=hx8 _ _ _ (by omega) (Ne.symm hcl.2.2) x7
 replace b8:Box w8 D8 cb 31 #[.int .i64 7,.string (str s),.int .i64 lo,.int .i64 1099511627776,.slice none 0 0]:=by simpa using b8
 have:=y8.keeps
 have H9:=hid (fun(_:Unit)=>is_not w8 D8 p ks false 4 o_maxc [41] (by decide) _ iri op ax hO8)
 clear hO8 x7 b7 y7 hx8
 go_wp2_with fail
 refine(H9.out ()).mono ?_
 rintro e w9 ⟨D9,rfl,hg9,hO9⟩
 have:=hg9.keeps
 have b9:Box w9 D9 cb 31 #[.int .i64 7,.string (str s),.int .i64 lo,.int .i64 1099511627776,.slice none 0 0]:=ii
 have x9:Box w9 D9 w.heap.size 31 z31:=ii
 have y9:Gr (some p.g) w D w9 D9:=ii
 have H10:=hid (fun(_:Unit)=>facet_o w9 D9 p ks true o_maxc o_minc hi cb (str s) lo 1099511627776 _ (by simp) (.inr rfl) (by decide) h2.1 h2.2 hx iri op ax w D hcl.1 hcl.2.1 y9 b9 hls.2 hO9)
 clear hO9 x8 b8 y8 hg9
 go_wp2_with fail
 refine(H10.out ()).mono ?_
 rintro e w10 ⟨D10,rfl,y10,hO10,b10,hx10⟩
 have x10:=hx10 _ _ _ (by omega) (Ne.symm hcl.2.2) x9
 replace b10:Box w10 D10 cb 31 #[.int .i64 7,.string (str s),.int .i64 lo,.int .i64 hi,.slice none 0 0]:=by simpa using b10
 have:=y10.keeps
 clear x9 b9 y9 hx10
 have H11:=hid (fun(_:Unit)=>want_o w10 D10 p ks false 1 [41] _ (by simp) iri op ax hO10)
 clear hO10
 go_wp2_with fail
 refine(H11.out ()).mono ?_
 rintro e w11 ⟨D11,rfl,hg11,hO11⟩
 have:=hg11.keeps
 have H12:=hid (fun(_:Unit)=>want_o w11 D11 p ks false 1 [41] _ hr iri op ax hO11)
 clear hO11
 go_wp2_with fail
 refine(H12.out ()).mono ?_
 rintro e w12 ⟨D12,rfl,hg12,hO12⟩
 have:=hg12.keeps
 have b11:Box w11 D11 cb 31 #[.int .i64 7,.string (str s),.int .i64 lo,.int .i64 hi,.slice none 0 0]:=ii
 have x11:Box w11 D11 w.heap.size 31 z31:=ii
 have b12:Box w12 D12 cb 31 #[.int .i64 7,.string (str s),.int .i64 lo,.int .i64 hi,.slice none 0 0]:=ii
 have x12:Box w12 D12 w.heap.size 31 z31:=ii
 have q1:=Box.held5 x12
 have q2:=Box.held5 b12
 have:=x12.off
 go_wp2_with fail
 refine bodyPost_ret (v:=.agg #[.int .i64 7,.string (str s),.int .i64 lo,.int .i64 hi,.slice none 0 0]) (by simp[results,results102,go_sem,Box.cell (D:=D12) (g:=w.heap.size)]) rfl ⟨_,D12,rfl,.nil,Gr.g,?_⟩
 exact OS.own (B:=w.heap.size) (X:=some w.heap.size) hO12 hls (fun b e=>by cases e;exact Nat.le_refl _) Gr.g
end Go.Proofs.YticgonfhjcaohaaGreatDoor
namespace Go.Proofs.YticgonfhjcaohaaGreatDoor
open Go.RowKit Go.VT _root_.Go.Proofs.Tryz
mutual
def namesC:C→List Bs
 |.top=>[]|.bot=>[]|.named s=>[s]|.nom s=>[s]|.and l=>namesL l|.some r c=>r::namesC c|.range f _ _=>[f]
def namesL:List C→List Bs
 |[]=>[]
 |c::r=>namesC c++namesL r
end
theorem namesL_mem{l:List C}{c:C}(h:c∈l){s:Bs}(hs:s∈namesC c):s∈namesL l:=by
 induction l with
 |nil=>cases h
 |cons a r ih=>
  rw[namesL,List.mem_append]
  rcases List.mem_cons.1 h with rfl|h
  ·exact .inl hs
  ·exact .inr (ih h)
theorem wfL_memO{l:List C}(h:C.wf.wfL l):∀c∈l,c.wf:=by
 induction l with
 |nil=>intro c hc;cases hc
 |cons a r ih=>
  intro c hc
  rcases List.mem_cons.1 hc with rfl|hc
  ·exact h.1
  ·exact ih h.2 c hc
theorem size_lenO(l:List C):l.length≤sizeL l:=by
 induction l with
 |nil=>simp
 |cons a r ih=>have:=C.size_pos a;simp only[List.length_cons,sizeL];omega
theorem conc_all(p:OC)(ks:List Bs)(h1:o_owl++[58]∈ks)(h2:o_xsd++[58]∈ks)(iri:Value)(op:Bool)(ax:Value):∀(n:Nat)(c:C),c.size≤n→c.size≤65536→c.wf→(∀s∈namesC c,inP ks s)→∀(w:World)(D:Gh)(pk:Bool)(r:List KT),r≠[]→Keeps D w→OS w D p ks pk (cT c++r) iri op ax→Calls prog 151 #[p.ptr] w (CRead w D p ks c r iri op ax):=by
 intro n
 induction n with
 |zero=>intro c h;have:=C.size_pos c;omega
 |succ n ih=>
  intro c hn hs hw hi w D pk r hr hk h
  cases c with
  |top=>exact conc_via w D p ks pk 97 (by simp) .top o_thing r r iri op ax rfl (fun w D hk h=>top_o w D p ks true r hr h1 iri op ax h) h
  |bot=>exact conc_via w D p ks pk 98 (by simp) .bot o_nothing r r iri op ax rfl (fun w D hk h=>bot_o w D p ks true r hr h1 iri op ax h) h
  |named s=>exact conc_name w D p ks pk s r hr hw (hi s (by simp[namesC])) iri op ax h
  |nom s=>exact conc_via w D p ks pk 101 (by simp) (.nom s) o_oneof _ r iri op ax rfl (fun w D hk h=>nom_o w D p ks s r hr hw (hi s (by simp[namesC])) iri op ax h) h
  |and l=>
   have hsz:(C.and l).size=1+sizeL l:=rfl
   have hl:=size_lenO l
   have h':OS w D p ks pk ((4,o_inter)::tL::(rT l++tR::r)) iri op ax:=by
    have:=h;rw[cT]at this;simpa using this
   exact conc_via w D p ks pk 99 (by simp) (.and l) o_inter _ r iri op ax rfl (fun w D hk h=>and_o w D p ks l r hr iri op ax hw.1 (by omega) (fun c hc w D pk r hr hk h=>ih c (by have:=size_mem hc;omega) (by have:=size_mem hc;omega) (wfL_memO hw.2 c hc) (fun s hs=>hi s (by rw[namesC];exact namesL_mem hc hs)) w D pk r hr hk h) h) h'
  |some q c=>
   have hsz:(C.some q c).size=1+c.size:=rfl
   have h':OS w D p ks pk ((4,o_somev)::tL::tN q::(cT c++tR::r)) iri op ax:=by
    have:=h;rw[cT]at this;simpa using this
   exact conc_via w D p ks pk 100 (by simp) (.some q c) o_somev _ r iri op ax rfl (fun w D hk h=>some_o w D p ks q c r hr hw.1 (hi q (by simp[namesC])) iri op ax (fun w D hk h=>ih c (by omega) (by omega) hw.2 (fun s hs=>hi s (by simp[namesC,hs])) w D false _ (by simp) hk h) h) h'
  |range f lo hi2=>
   obtain⟨hw1,hw2,hw3,hw4⟩:=hw
   have h':OS w D p ks pk ((4,o_datas)::tL::tN f::(spanT lo hi2++tR::r)) iri op ax:=by
    have:=h;rw[cT]at this;simpa using this
   exact conc_via w D p ks pk 102 (by simp) (.range f lo hi2) o_datas _ r iri op ax rfl (fun w D hk h=>data_o w D p ks f lo hi2 r hr hw1 (hi f (by simp[namesC])) h2 ⟨hw2,by omega⟩ ⟨by omega,hw4⟩ iri op ax h) h'
end Go.Proofs.YticgonfhjcaohaaGreatDoor
