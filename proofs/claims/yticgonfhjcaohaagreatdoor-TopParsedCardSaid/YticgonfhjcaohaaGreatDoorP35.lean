/- TopParsed, part 35. -/
import Derived.Test.YticgonfhjcaohaaGreatDoorP29
import Derived.Test.YticgonfhjcaohaaGreatDoorP34
set_option maxRecDepth 100000
set_option maxHeartbeats 32000000
namespace Go.Proofs.YticgonfhjcaohaaGreatDoor
open Go.RowKit Go.VT _root_.Go.Proofs.Tryz
theorem equiv_o(w:World)(D:Gh)(p:OC)(ks:List Bs)(l c:C)(r:List KT)(hm:PMs ks)(hK:KOk ks (.equiv l c))(iri:Value)(op:Bool)(ax:Value)[hk:Keeps D w](h:OS w D p ks false ((if op then noteT else[])++(argsT (.equiv l c)++tR::r)) iri false ax):
  Calls prog 90 #[p.ptr] w (IRead w D p ks (.equiv l c) (tR::r) iri op ax):=by
 obtain⟨hw,hcs,hns⟩:=hK
 have hls:=h.lts
 have hof:=h.off
 have hgl:=h.lt
 have H1:=hid (notes_k w D p ks op (.equiv l c) (tR::r) hm.c iri ax h)
 clear h
 go_enter func90,ntmps90
 go_wp2_with fail
 refine H1.out.mono ?_
 rintro e w1 ⟨D1,rfl,hg1,hO1⟩
 have:=hg1.keeps
 replace hO1:OS w1 D1 p ks true (rT [l,c]++tR::r) iri op ax:=by simpa[argsT,rT]using hO1
 have hmf:∀(fn:Fn)(first cap:Array Value)(w:World),(Instr.makeFunc fn first cap).run prog w=.ok (.func fn first cap) w:=fun _ _ _ _=>rfl
 have H2:=hid (fun(_:Unit)=>list_o w1 D1 p ks true [l,c] r iri op ax (by simp) (by simp) (fun x hx w D pk r hr hk h=>conc_k (iri:=iri) (op:=op) (ax:=ax) hm (hcs x (by simpa[K.cons]using hx)) (by rcases List.mem_cons.1 hx with rfl|hx;exact hw.1;obtain rfl:=List.mem_singleton.1 hx;exact hw.2) w D pk r hr hk h) hO1)
 clear hO1
 go_wp2_with fail
 refine(H2.out ()).mono ?_
 rintro e w2 ⟨pv,D2,rfl,hpv,hg2,hO2⟩
 have:=hg2.keeps
 have HR:=hid hpv
 obtain⟨a2,m2,rfl,hm2,hm3⟩:=PV.form hpv
 obtain⟨b,o,pl,rfl,hc0,hpl⟩:=hpv.at_ (j:=0) (c:=l) rfl
 obtain⟨b',o',pc,he,hc1,hpc⟩:=hpv.at_ (j:=1) (c:=c) rfl
 obtain⟨rfl,rfl⟩:b=b'∧o=o':=by simpa using he
 obtain⟨al,ml,rfl,_,_⟩:=PV.form hpl
 obtain⟨ac,mc,rfl,_,_⟩:=PV.form hpc
 rw[Nat.zero_mul,Nat.add_zero]at hc0
 rw[Nat.one_mul]at hc1
 change 2≤m2 at hm2
 have hs2:w.heap.size≤w2.heap.size:=(ii:Bel (some p.g) w w2).out.size
 have hG2:Gr (some p.g) w D w2 D2:=ii
 clear H1 H2 hg1 hg2 he hpv
 have hO2h:=hid (fun(_:Unit)=>hO2)
 go_wp2_with fail
 go_loopg [2,15] (1:Nat) (fun gk v2 v15 wr=>∃i:Nat,gk+i=1∧v15=.int .i64 i∧Gr (some p.g) w D wr D2∧Hid (OS wr D2 p ks true (tR::r) iri op ax)∧w.heap.size≤wr.heap.size∧
   ((i=0∧v2=.slice none 0 0)∨(i=1∧∃a m,v2=.slice a 1 m∧VT.Own wr D2 w.heap.size 34 16 (.slice a 1 m) 1 (#[.int .i64 2,.bool false,.int .i64 l.kind,.string (str l.nm),.int .i64 l.lo,.int .i64 l.hi,.slice al l.parts.length ml,.int .i64 c.kind,.string (str c.nm),.int .i64 c.lo,.int .i64 c.hi,.slice ac c.parts.length mc,.slice none 0 0,.string ⟨#[]⟩,.string ⟨#[]⟩,.string ⟨#[]⟩]:Array Value).toList)))
 case atStart=>exact⟨0,rfl,rfl,hG2,hid hO2,hs2,.inl ⟨rfl,rfl⟩⟩
 case round=>
  obtain⟨i,hgk,rfl,hG,HO,hsr,hv⟩:=hrel
  have:=hG.keeps
  rcases hv with⟨rfl,rfl⟩|⟨rfl,a,m,rfl,hOw⟩
  ·obtain⟨k0,k1,k2,k3,k4,kb⟩:=hc0.held (w:=wr)
   obtain⟨j0,j1,j2,j3,j4,jb⟩:=hc1.held (w:=wr)
   obtain⟨W5,hW5⟩:∃W,W=wr.alloc (.cells #[.int .i64 c.kind,.string (str c.nm),.int .i64 c.lo,.int .i64 c.hi,.slice ac c.parts.length mc] 31):=⟨_,rfl⟩
   obtain⟨g5,hg5⟩:∃g,g=wr.heap.size:=⟨_,rfl⟩
   have hK5:Keeps D2 W5:=by rw[hW5];exact ii
   have hG5:Gr (some p.g) w D W5 D2:=by rw[hW5];exact ii
   have hB5:Box W5 D2 g5 31 #[.int .i64 c.kind,.string (str c.nm),.int .i64 c.lo,.int .i64 c.hi,.slice ac c.parts.length mc]:=by rw[hW5,hg5];exact ii
   obtain⟨x0,x1,x2,x3,x4,xb⟩:=hc0.held (w:=W5)
   have y:=Box.held5 hB5
   have HW5:=hid hW5
   have HG5:=hid hg5
   clear hW5 hg5
   go_wp2_with fail
   rw[←HG5.out,←HW5.out]
   clear k0 k1 k2 k3 k4 kb j0 j1 j2 j3 j4 jb
   obtain⟨⟨y0,y1,y2,y3,y4⟩,_,yl⟩:=y
   have hO5:OS W5 D2 p ks true (tR::r) iri op ax:=HO.out.gro (by rw[HW5.out];exact Gr.g)
   obtain⟨W6,hW6⟩:∃W,W=(W5.alloc (.cells #[.int .i64 2,.bool false,.int .i64 l.kind,.string (str l.nm),.int .i64 l.lo,.int .i64 l.hi,.slice al l.parts.length ml,.int .i64 c.kind,.string (str c.nm),.int .i64 c.lo,.int .i64 c.hi,.slice ac c.parts.length mc,.slice none 0 0,.string ⟨#[]⟩,.string ⟨#[]⟩,.string ⟨#[]⟩] 34)).drew:=⟨_,rfl⟩
   have hG6:Gr (some p.g) w D W6 D2:=by rw[hW6];exact ii
   have hK6:Keeps D2 W6:=hG6.keeps
   have hO6:OS W6 D2 p ks true (tR::r) iri op ax:=hO5.gro (by rw[hW6];exact Gr.g)
   have hB6:Box W6 D2 W5.heap.size 34 #[.int .i64 2,.bool false,.int .i64 l.kind,.string (str l.nm),.int .i64 l.lo,.int .i64 l.hi,.slice al l.parts.length ml,.int .i64 c.kind,.string (str c.nm),.int .i64 c.lo,.int .i64 c.hi,.slice ac c.parts.length mc,.slice none 0 0,.string ⟨#[]⟩,.string ⟨#[]⟩,.string ⟨#[]⟩]:=by rw[hW6];exact@Box.drew _ D2 _ 34 _ (Box.new W5 D2 34 _)
   have hs6:w.heap.size≤W6.heap.size:=hG6.bl.size
   obtain⟨v7,w7,hrun,hO7,hc7⟩:=run_append_N (P:=prog) (t:=24) (ty:=24) underlying24 el34 ((VT.Own.nil W6 D2 34 16).base hs6) (b:=W5.heap.size) (o:=0) (m:=1) (c:=1) (news:=(#[.int .i64 2,.bool false,.int .i64 l.kind,.string (str l.nm),.int .i64 l.lo,.int .i64 l.hi,.slice al l.parts.length ml,.int .i64 c.kind,.string (str c.nm),.int .i64 c.lo,.int .i64 c.hi,.slice ac c.parts.length mc,.slice none 0 0,.string ⟨#[]⟩,.string ⟨#[]⟩,.string ⟨#[]⟩]:Array Value).toList) (by simp) (fun j u hu=>by rw[Nat.zero_add,Box.cell (D:=D2)];simpa using hu) (by intro u hu;simp only[List.mem_cons,List.not_mem_nil,or_false]at hu;rcases hu with rfl|rfl|rfl|rfl|rfl|rfl|rfl|rfl|rfl|rfl|rfl|rfl|rfl|rfl|rfl|rfl<;>rfl) (by simp[maxLen]) (by simp) hs6
   have HW6:=hid hW6
   have hc7':Cll none W6 w7:=hc7
   have hG7:Gr (some p.g) w D w7 D2:=ii
   have hB56:Box W6 D2 g5 31 #[.int .i64 c.kind,.string (str c.nm),.int .i64 c.lo,.int .i64 c.hi,.slice ac c.parts.length mc]:=by rw[hW6];exact ii
   have hB57:Box w7 D2 g5 31 #[.int .i64 c.kind,.string (str c.nm),.int .i64 c.lo,.int .i64 c.hi,.slice ac c.parts.length mc]:=Box.call W6 w7 D2 g5 31 _ none
   have:=hG7.keeps
   obtain⟨e0,e1,e2,e3,e4,_⟩:=hc0.held (w:=w7)
   have HS7:=hid (⟨e0,e1,e2,e3,e4,Box.cell (h:=hB57) 0,Box.cell (h:=hB57) 1,Box.cell (h:=hB57) 2,Box.cell (h:=hB57) 3,Box.cell (h:=hB57) 4⟩:w7.cell? ⟨b,o,none⟩=some (.int .i64 l.kind)∧w7.cell? ⟨b,o+1,none⟩=some (.string (str l.nm))∧w7.cell? ⟨b,o+2,none⟩=some (.int .i64 l.lo)∧w7.cell? ⟨b,o+3,none⟩=some (.int .i64 l.hi)∧w7.cell? ⟨b,o+4,none⟩=some (.slice al l.parts.length ml)∧w7.cell? ⟨g5,0,none⟩=some (.int .i64 c.kind)∧w7.cell? ⟨g5,1,none⟩=some (.string (str c.nm))∧w7.cell? ⟨g5,2,none⟩=some (.int .i64 c.lo)∧w7.cell? ⟨g5,3,none⟩=some (.int .i64 c.hi)∧w7.cell? ⟨g5,4,none⟩=some (.slice ac c.parts.length mc))
   have hO7':=hO6.n0 hc7'
   obtain⟨a7,m7,rfl⟩:=own_form hO7
   clear hW6 e0 e1 e2 e3 e4
   go_region_held3 (fun W'=>W'.cell? ⟨b,o,none⟩=some (.int .i64 l.kind)∧W'.cell? ⟨b,o+1,none⟩=some (.string (str l.nm))∧W'.cell? ⟨b,o+2,none⟩=some (.int .i64 l.lo)∧W'.cell? ⟨b,o+3,none⟩=some (.int .i64 l.hi)∧W'.cell? ⟨b,o+4,none⟩=some (.slice al l.parts.length ml)∧W'.cell? ⟨g5,0,none⟩=some (.int .i64 c.kind)∧W'.cell? ⟨g5,1,none⟩=some (.string (str c.nm))∧W'.cell? ⟨g5,2,none⟩=some (.int .i64 c.lo)∧W'.cell? ⟨g5,3,none⟩=some (.int .i64 c.hi)∧W'.cell? ⟨g5,4,none⟩=some (.slice ac c.parts.length mc))
    (first|exact HS7.out|go_keep) (first|(rw[←HW6.out];refine step_append_run (by rfl) _ _ 24 24 (by rfl) _ _ (by rfl) (by rfl) _ _ hrun ?_))
   all_goals
    go_wp2_with fail
    go_roundg 0
    case measure=>omega
    case rel=>exact⟨1,rfl,rfl,hG7,hid hO7',hG7.bl.size,.inr ⟨rfl,a7,m7,rfl,by simpa using hO7⟩⟩
  ·go_wp2_with fail
   go_ret
   obtain⟨D4,hPub,hSl⟩:=hOw.pub
   have hlt:=fun k e=>(hOw.lt k e).1
   have:=hPub.gr (some p.g) w D ii hlt
   have:=hPub.le
   obtain⟨_,xl,yl,_,_⟩:=hpl.form
   refine⟨_,D4,true,rfl,⟨[(⟨false,.equiv l c⟩,.slice al l.parts.length ml,.slice ac c.parts.length mc,.slice none 0 0)],rfl,by rw[List.flatMap_cons,List.flatMap_nil,List.append_nil];exact hSl,fun x hx=>?_⟩,Gr.g,HO.out.pub hPub (fun e=>by have:=hlt p.g e.symm;omega)⟩
   obtain rfl:=List.mem_singleton.1 hx
   exact⟨@PV.le D2 D4 l.parts _ _ hpl,@PV.le D2 D4 c.parts _ _ hpc,SV.nil _⟩
theorem disj_o(w:World)(D:Gh)(p:OC)(ks:List Bs)(l c:C)(r:List KT)(hm:PMs ks)(hK:KOk ks (.disj l c))(iri:Value)(op:Bool)(ax:Value)[hk:Keeps D w](h:OS w D p ks false ((if op then noteT else[])++(argsT (.disj l c)++tR::r)) iri false ax):
  Calls prog 91 #[p.ptr] w (IRead w D p ks (.disj l c) (tR::r) iri op ax):=by
 obtain⟨hw,hcs,hns⟩:=hK
 have hls:=h.lts
 have hof:=h.off
 have hgl:=h.lt
 have H1:=hid (notes_k w D p ks op (.disj l c) (tR::r) hm.c iri ax h)
 clear h
 go_enter func91,ntmps91
 go_wp2_with fail
 refine H1.out.mono ?_
 rintro e w1 ⟨D1,rfl,hg1,hO1⟩
 have:=hg1.keeps
 replace hO1:OS w1 D1 p ks true (rT [l,c]++tR::r) iri op ax:=by simpa[argsT,rT]using hO1
 have hmf:∀(fn:Fn)(first cap:Array Value)(w:World),(Instr.makeFunc fn first cap).run prog w=.ok (.func fn first cap) w:=fun _ _ _ _=>rfl
 have H2:=hid (fun(_:Unit)=>list_o w1 D1 p ks true [l,c] r iri op ax (by simp) (by simp) (fun x hx w D pk r hr hk h=>conc_k (iri:=iri) (op:=op) (ax:=ax) hm (hcs x (by simpa[K.cons]using hx)) (by rcases List.mem_cons.1 hx with rfl|hx;exact hw.1;obtain rfl:=List.mem_singleton.1 hx;exact hw.2) w D pk r hr hk h) hO1)
 clear hO1
 go_wp2_with fail
 refine(H2.out ()).mono ?_
 rintro e w2 ⟨pv,D2,rfl,hpv,hg2,hO2⟩
 have:=hg2.keeps
 have HR:=hid hpv
 obtain⟨a2,m2,rfl,hm2,hm3⟩:=PV.form hpv
 obtain⟨b,o,pl,rfl,hc0,hpl⟩:=hpv.at_ (j:=0) (c:=l) rfl
 obtain⟨b',o',pc,he,hc1,hpc⟩:=hpv.at_ (j:=1) (c:=c) rfl
 obtain⟨rfl,rfl⟩:b=b'∧o=o':=by simpa using he
 obtain⟨al,ml,rfl,_,_⟩:=PV.form hpl
 obtain⟨ac,mc,rfl,_,_⟩:=PV.form hpc
 rw[Nat.zero_mul,Nat.add_zero]at hc0
 rw[Nat.one_mul]at hc1
 change 2≤m2 at hm2
 have hs2:w.heap.size≤w2.heap.size:=(ii:Bel (some p.g) w w2).out.size
 have hG2:Gr (some p.g) w D w2 D2:=ii
 clear H1 H2 hg1 hg2 he hpv
 go_wp2_with fail
 go_loopg [2,15] (2:Nat) (fun gk v2 v15 wr=>∃i:Nat,gk+i=2∧v15=.int .i64 i∧Gr (some p.g) w D wr D2∧Hid (OS wr D2 p ks true (tR::r) iri op ax)∧w.heap.size≤wr.heap.size∧
   ((i=0∧v2=.slice none 0 0)∨(1≤i∧∃a m,v2=.slice a 1 m∧VT.Own wr D2 w.heap.size 34 16 (.slice a 1 m) 1 (#[.int .i64 3,.bool false,.int .i64 l.kind,.string (str l.nm),.int .i64 l.lo,.int .i64 l.hi,.slice al l.parts.length ml,.int .i64 c.kind,.string (str c.nm),.int .i64 c.lo,.int .i64 c.hi,.slice ac c.parts.length mc,.slice none 0 0,.string ⟨#[]⟩,.string ⟨#[]⟩,.string ⟨#[]⟩]:Array Value).toList)))
 case atStart=>exact⟨0,rfl,rfl,hG2,hid hO2,hs2,.inl ⟨rfl,rfl⟩⟩
 case round=>
  obtain⟨i,hgk,rfl,hG,HO,hsr,hv⟩:=hrel
  have:=hG.keeps
  rcases hv with⟨rfl,rfl⟩|⟨hi1,a,m,rfl,hOw⟩
  ·have hgo:=hgk
   go_wp2_with fail
   go_loopg [2,26] (1:Nat) (fun gk v2 v26 wr=>∃i:Nat,gk+i=1∧v26=.int .i64 i∧Gr (some p.g) w D wr D2∧Hid (OS wr D2 p ks true (tR::r) iri op ax)∧w.heap.size≤wr.heap.size∧
    ((i=0∧v2=.slice none 0 0)∨(i=1∧∃a m,v2=.slice a 1 m∧VT.Own wr D2 w.heap.size 34 16 (.slice a 1 m) 1 (#[.int .i64 3,.bool false,.int .i64 l.kind,.string (str l.nm),.int .i64 l.lo,.int .i64 l.hi,.slice al l.parts.length ml,.int .i64 c.kind,.string (str c.nm),.int .i64 c.lo,.int .i64 c.hi,.slice ac c.parts.length mc,.slice none 0 0,.string ⟨#[]⟩,.string ⟨#[]⟩,.string ⟨#[]⟩]:Array Value).toList)))
   case atStart=>exact⟨0,rfl,rfl,hG,HO,hsr,.inl ⟨rfl,rfl⟩⟩
   case round=>
    clear HO
    obtain⟨i,hgk,rfl,hG,HO,hsr,hv⟩:=hrel
    have:=hG.keeps
    rcases hv with⟨rfl,rfl⟩|⟨rfl,a,m,rfl,hOw⟩
    ·obtain⟨k0,k1,k2,k3,k4,kb⟩:=hc0.held (w:=wr)
     obtain⟨j0,j1,j2,j3,j4,jb⟩:=hc1.held (w:=wr)
     obtain⟨W5,hW5⟩:∃W,W=wr.alloc (.cells #[.int .i64 c.kind,.string (str c.nm),.int .i64 c.lo,.int .i64 c.hi,.slice ac c.parts.length mc] 31):=⟨_,rfl⟩
     obtain⟨g5,hg5⟩:∃g,g=wr.heap.size:=⟨_,rfl⟩
     have hK5:Keeps D2 W5:=by rw[hW5];exact ii
     have hG5:Gr (some p.g) w D W5 D2:=by rw[hW5];exact ii
     have hB5:Box W5 D2 g5 31 #[.int .i64 c.kind,.string (str c.nm),.int .i64 c.lo,.int .i64 c.hi,.slice ac c.parts.length mc]:=by rw[hW5,hg5];exact ii
     obtain⟨x0,x1,x2,x3,x4,xb⟩:=hc0.held (w:=W5)
     have y:=Box.held5 hB5
     have HW5:=hid hW5
     have HG5:=hid hg5
     clear hW5 hg5
     go_wp2_with fail
     rw[←HG5.out,←HW5.out]
     clear k0 k1 k2 k3 k4 kb j0 j1 j2 j3 j4 jb
     obtain⟨⟨y0,y1,y2,y3,y4⟩,_,yl⟩:=y
     have hO5:OS W5 D2 p ks true (tR::r) iri op ax:=HO.out.gro (by rw[HW5.out];exact Gr.g)
     obtain⟨W6,hW6⟩:∃W,W=(W5.alloc (.cells #[.int .i64 3,.bool false,.int .i64 l.kind,.string (str l.nm),.int .i64 l.lo,.int .i64 l.hi,.slice al l.parts.length ml,.int .i64 c.kind,.string (str c.nm),.int .i64 c.lo,.int .i64 c.hi,.slice ac c.parts.length mc,.slice none 0 0,.string ⟨#[]⟩,.string ⟨#[]⟩,.string ⟨#[]⟩] 34)).drew:=⟨_,rfl⟩
     have hG6:Gr (some p.g) w D W6 D2:=by rw[hW6];exact ii
     have hK6:Keeps D2 W6:=hG6.keeps
     have hO6:OS W6 D2 p ks true (tR::r) iri op ax:=hO5.gro (by rw[hW6];exact Gr.g)
     have hB6:Box W6 D2 W5.heap.size 34 #[.int .i64 3,.bool false,.int .i64 l.kind,.string (str l.nm),.int .i64 l.lo,.int .i64 l.hi,.slice al l.parts.length ml,.int .i64 c.kind,.string (str c.nm),.int .i64 c.lo,.int .i64 c.hi,.slice ac c.parts.length mc,.slice none 0 0,.string ⟨#[]⟩,.string ⟨#[]⟩,.string ⟨#[]⟩]:=by rw[hW6];exact@Box.drew _ D2 _ 34 _ (Box.new W5 D2 34 _)
     have hs6:w.heap.size≤W6.heap.size:=hG6.bl.size
     obtain⟨v7,w7,hrun,hO7,hc7⟩:=run_append_N (P:=prog) (t:=24) (ty:=24) underlying24 el34 ((VT.Own.nil W6 D2 34 16).base hs6) (b:=W5.heap.size) (o:=0) (m:=1) (c:=1) (news:=(#[.int .i64 3,.bool false,.int .i64 l.kind,.string (str l.nm),.int .i64 l.lo,.int .i64 l.hi,.slice al l.parts.length ml,.int .i64 c.kind,.string (str c.nm),.int .i64 c.lo,.int .i64 c.hi,.slice ac c.parts.length mc,.slice none 0 0,.string ⟨#[]⟩,.string ⟨#[]⟩,.string ⟨#[]⟩]:Array Value).toList) (by simp) (fun j u hu=>by rw[Nat.zero_add,Box.cell (D:=D2)];simpa using hu) (by intro u hu;simp only[List.mem_cons,List.not_mem_nil,or_false]at hu;rcases hu with rfl|rfl|rfl|rfl|rfl|rfl|rfl|rfl|rfl|rfl|rfl|rfl|rfl|rfl|rfl|rfl<;>rfl) (by simp[maxLen]) (by simp) hs6
     have HW6:=hid hW6
     have hc7':Cll none W6 w7:=hc7
     have hG7:Gr (some p.g) w D w7 D2:=ii
     have hB56:Box W6 D2 g5 31 #[.int .i64 c.kind,.string (str c.nm),.int .i64 c.lo,.int .i64 c.hi,.slice ac c.parts.length mc]:=by rw[hW6];exact ii
     have hB57:Box w7 D2 g5 31 #[.int .i64 c.kind,.string (str c.nm),.int .i64 c.lo,.int .i64 c.hi,.slice ac c.parts.length mc]:=Box.call W6 w7 D2 g5 31 _ none
     have:=hG7.keeps
     obtain⟨e0,e1,e2,e3,e4,_⟩:=hc0.held (w:=w7)
     have HS7:=hid (⟨e0,e1,e2,e3,e4,Box.cell (h:=hB57) 0,Box.cell (h:=hB57) 1,Box.cell (h:=hB57) 2,Box.cell (h:=hB57) 3,Box.cell (h:=hB57) 4⟩:w7.cell? ⟨b,o,none⟩=some (.int .i64 l.kind)∧w7.cell? ⟨b,o+1,none⟩=some (.string (str l.nm))∧w7.cell? ⟨b,o+2,none⟩=some (.int .i64 l.lo)∧w7.cell? ⟨b,o+3,none⟩=some (.int .i64 l.hi)∧w7.cell? ⟨b,o+4,none⟩=some (.slice al l.parts.length ml)∧w7.cell? ⟨g5,0,none⟩=some (.int .i64 c.kind)∧w7.cell? ⟨g5,1,none⟩=some (.string (str c.nm))∧w7.cell? ⟨g5,2,none⟩=some (.int .i64 c.lo)∧w7.cell? ⟨g5,3,none⟩=some (.int .i64 c.hi)∧w7.cell? ⟨g5,4,none⟩=some (.slice ac c.parts.length mc))
     have hO7':=hO6.n0 hc7'
     obtain⟨a7,m7,rfl⟩:=own_form hO7
     clear hW6 e0 e1 e2 e3 e4
     go_region_held3 (fun W'=>W'.cell? ⟨b,o,none⟩=some (.int .i64 l.kind)∧W'.cell? ⟨b,o+1,none⟩=some (.string (str l.nm))∧W'.cell? ⟨b,o+2,none⟩=some (.int .i64 l.lo)∧W'.cell? ⟨b,o+3,none⟩=some (.int .i64 l.hi)∧W'.cell? ⟨b,o+4,none⟩=some (.slice al l.parts.length ml)∧W'.cell? ⟨g5,0,none⟩=some (.int .i64 c.kind)∧W'.cell? ⟨g5,1,none⟩=some (.string (str c.nm))∧W'.cell? ⟨g5,2,none⟩=some (.int .i64 c.lo)∧W'.cell? ⟨g5,3,none⟩=some (.int .i64 c.hi)∧W'.cell? ⟨g5,4,none⟩=some (.slice ac c.parts.length mc))
      (first|exact HS7.out|go_keep) (first|(rw[←HW6.out];refine step_append_run (by rfl) _ _ 24 24 (by rfl) _ _ (by rfl) (by rfl) _ _ hrun ?_))
     all_goals
      go_wp2_with fail
      go_roundg 0
      case measure=>omega
      case rel=>exact⟨1,rfl,rfl,hG7,hid hO7',hG7.bl.size,.inr ⟨rfl,a7,m7,rfl,by simpa using hO7⟩⟩
    ·go_wp2_with fail
     go_roundg 1
     case measure=>omega
     case rel=>exact⟨1,rfl,rfl,hG,HO,hsr,.inr ⟨Nat.le_refl _,a,m,rfl,hOw⟩⟩
  ·have hgo:=hgk
   by_cases hi2:i=1
   ·subst hi2
    rcases Classical.propComplete (m2=2)with hm22|hm22
    all_goals
     go_wp2_with fail
     go_loopg [2,26] (0:Nat) (fun gk v2 v26 wr'=>v26=.int .i64 0∧v2=.slice a 1 m∧wr'=wr)
     case atStart=>exact⟨rfl,rfl,rfl⟩
     case round=>
      obtain⟨rfl,rfl,rfl⟩:=hrel
      go_wp2_with fail
      go_roundg 0
      case measure=>omega
      case rel=>exact⟨2,rfl,rfl,hG,HO,hsr,.inr ⟨by omega,a,m,rfl,hOw⟩⟩
   ·obtain rfl:i=2:=by omega
    go_wp2_with fail
    go_ret
    obtain⟨D4,hPub,hSl⟩:=hOw.pub
    have hlt:=fun k e=>(hOw.lt k e).1
    have:=hPub.gr (some p.g) w D ii hlt
    have:=hPub.le
    refine⟨_,D4,true,rfl,⟨[(⟨false,.disj l c⟩,.slice al l.parts.length ml,.slice ac c.parts.length mc,.slice none 0 0)],rfl,by rw[List.flatMap_cons,List.flatMap_nil,List.append_nil];exact hSl,fun x hx=>?_⟩,Gr.g,HO.out.pub hPub (fun e=>by have:=hlt p.g e.symm;omega)⟩
    obtain rfl:=List.mem_singleton.1 hx
    exact⟨@PV.le D2 D4 l.parts _ _ hpl,@PV.le D2 D4 c.parts _ _ hpc,SV.nil _⟩
end Go.Proofs.YticgonfhjcaohaaGreatDoor
namespace Go.Proofs.YticgonfhjcaohaaGreatDoor
open Go.RowKit Go.VT _root_.Go.Proofs.Tryz
theorem lit_add(a s:Bs)(x:ByteArray)(h:x=str a):x++str s=str (a++s):=by
 subst h
 apply ByteArray.ext
 simp[str]
theorem top57_c(w:World)(m1 m2:Nat)(a:Option Addr)(n m:Nat):Calls prog 57 #[.agg #[.map (some m1),.map (some m2)],cv C.top (.slice a n m)] w fun e w'=>e=.returned (.string (str (textC .top)))∧Cll none w w':=by
 go_enter func57,ntmps57
 go_wp2
 go_ret
 exact⟨rfl,Bel.c⟩
theorem bot58_c(w:World)(m1 m2:Nat)(a:Option Addr)(n m:Nat):Calls prog 58 #[.agg #[.map (some m1),.map (some m2)],cv C.bot (.slice a n m)] w fun e w'=>e=.returned (.string (str (textC .bot)))∧Cll none w w':=by
 go_enter func58,ntmps58
 go_wp2
 go_ret
 exact⟨rfl,Bel.c⟩
theorem named59_c(w:World)(m1 m2:Nat)(s:Bs)(a:Option Addr)(n m:Nat):Calls prog 59 #[.agg #[.map (some m1),.map (some m2)],cv (C.named s) (.slice a n m)] w fun e w'=>e=.returned (.string (str (textC (.named s))))∧Cll none w w':=by
 go_enter func59,ntmps59
 go_wp2
 go_ret
 exact⟨rfl,Bel.c⟩
theorem nom60_c(w:World)(m1 m2:Nat)(s:Bs)(a:Option Addr)(n m:Nat)(hs:(str s).size≤140737488355328):Calls prog 60 #[.agg #[.map (some m1),.map (some m2)],cv (C.nom s) (.slice a n m)] w fun e w'=>e=.returned (.string (str (textC (.nom s))))∧Cll none w w':=by
 have q1:¬9223372036854775807<1+(str (C.nom s).nm).size:=by show¬9223372036854775807<1+(str s).size;omega
 have q2:¬9223372036854775807<1+(str (C.nom s).nm).size+1:=by show¬9223372036854775807<1+(str s).size+1;omega
 go_enter func60,ntmps60
 go_wp2
 go_ret
 refine⟨?_,Bel.c⟩
 have e1:({data:=#[123]}:ByteArray)++str s=str (123::s):=lit_add [123] s _ rfl
 have e2:str (123::s)++({data:=#[125]}:ByteArray)=str (123::s++[125]):=lit_add (123::s) [125] _ rfl
 show _=Ending.returned (.string (str (123::s++[125])))
 rw[←e2,←e1]
 rfl
theorem row_cells(W:World)(t:TypeId)(xs:List Bs)(j:Nat)(x:Bs)(h:xs[j]? =some x):(W.alloc (.cells (xs.map fun s=>Value.string (str s)).toArray t)).cell? ⟨W.heap.size,0+j,none⟩=some (.string (str x)):=by
 have hb:=heap_alloc_new W (.cells (xs.map fun s=>Value.string (str s)).toArray t)
 unfold World.cell?
 rw[hb]
 simp[h]
theorem words_new(W:World)(t:TypeId)(xs:List Bs)(hN:xs.length≤140737488355328)(hlen:(Lib.join xs [32]).length≤140737488355328):
  Calls prog 73 #[.slice (some ⟨W.heap.size,0,none⟩) xs.length xs.length] (W.alloc (.cells (xs.map fun s=>Value.string (str s)).toArray t)) fun e w'=>e=.returned (.string (str (Lib.join xs [32])))∧Cll none W w':=by
 refine(words_c _ W.heap.size 0 xs.length xs (row_cells W t xs) (by simp) (Nat.le_refl _) hN hlen).mono ?_
 rintro e w' ⟨rfl,hc⟩
 have:=hc
 exact⟨rfl,Bel.c⟩
theorem some62_c(w:World)(D:Gh)[hk:Keeps D w](m1 m2:Nat)(r:Bs)(c:C)(b o:Nat)(a':Option Addr)(n' m m':Nat)
  (h134:∀w',Cll none w w'→Calls prog 134 #[.agg #[.map (some m1),.map (some m2)],cv c (.slice a' n' m')] w' fun e w''=>e=.returned (.string (str (textO c)))∧Cll none w' w'')
  (hcell:∀j u,#[.int .i64 c.kind,.string (str c.nm),.int .i64 c.lo,.int .i64 c.hi,.slice a' n' m'][j]? =some u→D b (o+j)=some u) (hlen:(textC (.some r c)).length≤140737488355328):
  Calls prog 62 #[.agg #[.map (some m1),.map (some m2)],cv (C.some r c) (.slice (some ⟨b,o,none⟩) 1 m)] w fun e w'=>e=.returned (.string (str (textC (.some r c))))∧Cll none w w':=by
 have hj:Lib.join [w_some,r,textO c] [32]=textC (.some r c):=by simp[join_cons,textC]
 have H4:=hid h134
 have HL:=hid hlen
 clear h134 hlen
 have hz2:(w.alloc (.cells #[.map (some m1),.map (some m2)] 73)).heap.size=w.heap.size+1:=by simp
 go_enter func62,ntmps62
 repeat((fail_if_success (with_reducible show Code.wp _ (Code.region 1 _ _) _ _ _));go_step)
 obtain⟨W,hW⟩:∃W,W=(w.alloc (.cells #[.map (some m1),.map (some m2)] 73)).alloc (.cells #[.int .i64 (C.some r c).kind,.string (str (C.some r c).nm),.int .i64 (C.some r c).lo,.int .i64 (C.some r c).hi,.slice (some ⟨b,o,none⟩) 1 m] 31):=⟨_,rfl⟩
 rw[←hW]
 have hB1:Box W D w.heap.size 73 #[.map (some m1),.map (some m2)]:=by rw[hW];exact ii
 have hB2:Box W D (w.heap.size+1) 31 #[.int .i64 (C.some r c).kind,.string (str (C.some r c).nm),.int .i64 (C.some r c).lo,.int .i64 (C.some r c).hi,.slice (some ⟨b,o,none⟩) 1 m]:=by rw[hW];exact Box.newAt hz2
 have hG:Bel none w W:=by rw[hW];exact ii
 have hK:Keeps D W:=by rw[hW];exact ii
 clear hW hz2
 have SH:∀W':World,Cll none W W'→(W'.cell? ⟨w.heap.size,0,none⟩=some (.map (some m1))∧W'.cell? ⟨w.heap.size,1,none⟩=some (.map (some m2))∧W'.cell? ⟨w.heap.size+1,1,none⟩=some (.string (str (C.some r c).nm))∧W'.cell? ⟨w.heap.size+1,4,none⟩=some (.slice (some ⟨b,o,none⟩) 1 m)
   ∧W'.cell? ⟨b,o,none⟩=some (.int .i64 c.kind)∧W'.cell? ⟨b,o+1,none⟩=some (.string (str c.nm))∧W'.cell? ⟨b,o+2,none⟩=some (.int .i64 c.lo)∧W'.cell? ⟨b,o+3,none⟩=some (.int .i64 c.hi)∧W'.cell? ⟨b,o+4,none⟩=some (.slice a' n' m')):=fun W' hc=>by
  have k1:Keeps D W':=ii
  have b1:Box W' D w.heap.size 73 #[.map (some m1),.map (some m2)]:=Box.call W W' D _ _ _ none
  have b2:Box W' D (w.heap.size+1) 31 #[.int .i64 (C.some r c).kind,.string (str (C.some r c).nm),.int .i64 (C.some r c).lo,.int .i64 (C.some r c).hi,.slice (some ⟨b,o,none⟩) 1 m]:=Box.call W W' D _ _ _ none
  exact⟨(b1.held (i:=0) rfl).1,(b1.held (i:=1) rfl).1,(b2.held (i:=1) rfl).1,(b2.held (i:=4) rfl).1,k1.out _ _ _ (hcell 0 _ rfl),k1.out _ _ _ (hcell 1 _ rfl),k1.out _ _ _ (hcell 2 _ rfl),k1.out _ _ _ (hcell 3 _ rfl),k1.out _ _ _ (hcell 4 _ rfl)⟩
 have HSH:=hid SH
 clear SH hcell
 go_region_held3 (fun W'=>(W'.cell? ⟨w.heap.size,0,none⟩=some (.map (some m1))∧W'.cell? ⟨w.heap.size,1,none⟩=some (.map (some m2))∧W'.cell? ⟨w.heap.size+1,1,none⟩=some (.string (str (C.some r c).nm))∧W'.cell? ⟨w.heap.size+1,4,none⟩=some (.slice (some ⟨b,o,none⟩) 1 m)
   ∧W'.cell? ⟨b,o,none⟩=some (.int .i64 c.kind)∧W'.cell? ⟨b,o+1,none⟩=some (.string (str c.nm))∧W'.cell? ⟨b,o+2,none⟩=some (.int .i64 c.lo)∧W'.cell? ⟨b,o+3,none⟩=some (.int .i64 c.hi)∧W'.cell? ⟨b,o+4,none⟩=some (.slice a' n' m')))
  (first|(refine HSH.out _ ?_;exact Bel.c;done)|go_keep)
  (first|(go_at_call 134;refine(H4.out _ Bel.c).mono ?_;rintro e w1 ⟨rfl,hc1⟩)|(go_at_call 73;refine(words_new _ _ [w_some,r,textO c] (by simp) (by rw[hj];exact HL.out)).mono ?_;rintro e w2 ⟨rfl,hc2⟩))
 all_goals
  go_wp2_with fail
  go_ret
  exact⟨rfl,Bel.c⟩
theorem span63_c(w:World)(D:Gh)[hk:Keeps D w][hT:TW w](m1 m2:Nat)(f:Bs)(lo hi:Int)(a:Option Addr)(n m:Nat)(h1: -9223372036854775808≤lo)(h2:lo≤9223372036854775807)(h3: -9223372036854775808≤hi)(h4:hi≤9223372036854775807)(hlen:(textC (.range f lo hi)).length≤140737488355328):
  Calls prog 63 #[.agg #[.map (some m1),.map (some m2)],cv (C.range f lo hi) (.slice a n m)] w fun e w'=>e=.returned (.string (str (textC (.range f lo hi))))∧Cll none w w':=by
 have hj:Lib.join [f,w_in,Lib.itoa lo,w_to,Lib.itoa hi] [32]=textC (.range f lo hi):=by simp[join_cons,textC]
 have HL:=hid hlen
 clear hlen
 have hz2:(w.alloc (.cells #[.map (some m1),.map (some m2)] 73)).heap.size=w.heap.size+1:=by simp
 go_enter func63,ntmps63
 repeat((fail_if_success (with_reducible show Code.wp _ (Code.region 1 _ _) _ _ _));go_step)
 obtain⟨W,hW⟩:∃W,W=(w.alloc (.cells #[.map (some m1),.map (some m2)] 73)).alloc (.cells #[.int .i64 (C.range f lo hi).kind,.string (str (C.range f lo hi).nm),.int .i64 (C.range f lo hi).lo,.int .i64 (C.range f lo hi).hi,.slice a n m] 31):=⟨_,rfl⟩
 rw[←hW]
 have hB2:Box W D (w.heap.size+1) 31 #[.int .i64 (C.range f lo hi).kind,.string (str (C.range f lo hi).nm),.int .i64 (C.range f lo hi).lo,.int .i64 (C.range f lo hi).hi,.slice a n m]:=by rw[hW];exact Box.newAt hz2
 have hG:Bel none w W:=by rw[hW];exact ii
 have hK:Keeps D W:=by rw[hW];exact ii
 have hTW:TW W:=by rw[hW];exact ii
 clear hW hz2
 have SH:∀W':World,Cll none W W'→(W'.cell? ⟨w.heap.size+1,1,none⟩=some (.string (str f))∧W'.cell? ⟨w.heap.size+1,2,none⟩=some (.int .i64 lo)∧W'.cell? ⟨w.heap.size+1,3,none⟩=some (.int .i64 hi)):=fun W' hc=>by
  have b2:Box W' D (w.heap.size+1) 31 #[.int .i64 (C.range f lo hi).kind,.string (str (C.range f lo hi).nm),.int .i64 (C.range f lo hi).lo,.int .i64 (C.range f lo hi).hi,.slice a n m]:=Box.call W W' D _ _ _ none
  exact⟨(b2.held (i:=1) rfl).1,(b2.held (i:=2) rfl).1,(b2.held (i:=3) rfl).1⟩
 have HSH:=hid SH
 clear SH
 have HI:=hid (fun(W':World)(hc:Cll none W W')(x:Int)(h0: -9223372036854775808≤x)(h1:x≤9223372036854775807)=>@itoa_c W' TW.call x h0 h1)
 go_region_held3 (fun W'=>(W'.cell? ⟨w.heap.size+1,1,none⟩=some (.string (str f))∧W'.cell? ⟨w.heap.size+1,2,none⟩=some (.int .i64 lo)∧W'.cell? ⟨w.heap.size+1,3,none⟩=some (.int .i64 hi)))
  (first|(refine HSH.out _ ?_;exact Bel.c;done)|go_keep)
  (first|(go_at_call 135;refine(HI.out _ Bel.c _ (by assumption) (by assumption)).mono ?_;rintro e w1 ⟨rfl,hc1⟩)|(go_at_call 73;refine(words_new _ _ [f,w_in,Lib.itoa lo,w_to,Lib.itoa hi] (by simp) (by rw[hj];exact HL.out)).mono ?_;rintro e w2 ⟨rfl,hc2⟩))
 all_goals
  go_wp2_with fail
  go_ret
  exact⟨rfl,Bel.c⟩
end Go.Proofs.YticgonfhjcaohaaGreatDoor
namespace Go.Proofs.YticgonfhjcaohaaGreatDoor
open Go.RowKit Go.VT _root_.Go.Proofs.Tryz
theorem and61_c(w:World)(D:Gh)[hk:Keeps D w][hT:TW w](m1 m2:Nat)[hM:MI w m1 mapC](l:List C)(a:Option Addr)(len m:Nat)(hp:PV D l (.slice a len m))(hl:l.length≤65536)(hl0:0<l.length)
  (h134:∀c∈l,∀(w':World)(a':Option Addr)(n' m':Nat),Keeps D w'→TW w'→MI w' m1 mapC→PV D c.parts (.slice a' n' m')→Calls prog 134 #[.agg #[.map (some m1),.map (some m2)],cv c (.slice a' n' m')] w' fun e w''=>e=.returned (.string (str (textO c)))∧Cll none w' w'')
  (hlen:(textC (.and l)).length≤140737488355328):
  Calls prog 61 #[.agg #[.map (some m1),.map (some m2)],cv (C.and l) (.slice a len m)] w fun e w'=>e=.returned (.string (str (textC (.and l))))∧Cll none w w':=by
 obtain⟨hlen0,hm1,hm2⟩:=PV_len hp
 have HL:=hid hlen0
 have HT:=hid hlen
 have H4:=hid h134
 have hl1:len≤65536:=by omega
 have hlp:0<len:=by omega
 clear hlen0 hlen h134 hl hl0
 have hB1:Box ((w.alloc (.cells #[.map (some m1),.map (some m2)] 73)).alloc (.cells #[.int .i64 (C.and l).kind,.string (str (C.and l).nm),.int .i64 (C.and l).lo,.int .i64 (C.and l).hi,.slice a len m] 31)) D w.heap.size 73 #[.map (some m1),.map (some m2)]:=ii
 have hG0:Gr none w D ((w.alloc (.cells #[.map (some m1),.map (some m2)] 73)).alloc (.cells #[.int .i64 (C.and l).kind,.string (str (C.and l).nm),.int .i64 (C.and l).lo,.int .i64 (C.and l).hi,.slice a len m] 31)) D:=ii
 go_enter func61,ntmps61
 go_wp2_with fail
 go_loopg [5,11] len (fun gk v5 v11 wr=>∃(i:Nat)(a0:Option Addr)(c0:Nat),v11=.int .i64 i∧v5=.slice a0 i c0∧gk+i=len∧Gr none w D wr D∧Box wr D w.heap.size 73 #[.map (some m1),.map (some m2)]∧w.heap.size+1≤wr.heap.size∧VT.Own wr D (w.heap.size+1) 9 1 (.slice a0 i c0) i (((l.take i).map textO).map fun s=>.string (str s)))
 case atStart=>exact⟨0,none,0,rfl,rfl,rfl,hG0,hB1,by simp,⟨⟨by simp,.inl ⟨rfl,rfl⟩⟩,⟨fun g h=>by cases h⟩⟩⟩
 case round=>
  obtain⟨i,a0,c0,rfl,rfl,hgk,hG,hB,hsz,hO⟩:=hrel
  have:=hG.keeps
  have hc0:Cll none w wr:=⟨hG.bl⟩
  have hTr:TW wr:=ii
  have hMr:MI wr m1 mapC:=ii
  have t0:=(hB.held (i:=0) rfl).1
  have ts:=Box.lt (h:=hB)
  have t1:=(hB.held (i:=1) rfl).1
  have tne:¬(w.heap.size=wr.heap.size):=by omega
  have hcx:∀(i:Nat)(o:Obj),(wr.alloc o).cell? ⟨w.heap.size,i,none⟩=wr.cell? ⟨w.heap.size,i,none⟩:=fun i o=>World.cell?_of_block (Below.heap_alloc wr o _ ts)
  by_cases hi:i<len
  ·obtain⟨c',b,o,a',n',m',hj,rfl,rfl,hp',r0,r1,r2,r3,r4,r5⟩:=PV_elem (w:=wr) hp (i:=i) (by rw[←HL.out];exact hi)
   have HJ:=hid hj
   clear hj
   go_wp2_with fail
   refine(H4.out c' (List.mem_of_getElem? HJ.out) _ a' _ m' ?_ ?_ ?_ hp').mono ?_
   ·exact ii
   ·exact ii
   ·exact ii
   rintro e w4 ⟨rfl,hc4⟩
   have hOx:∀o,VT.Own (w4.alloc o) D (w.heap.size+1) 9 1 (.slice a0 i c0) i (((l.take i).map textO).map fun s=>.string (str s)):=fun o=>ii
   have hBx:∀s,Box (w4.alloc (.cells #[.string s] 9)) D w4.heap.size 9 #[.string s]:=fun _=>ii
   have hs2:wr.heap.size+1≤w4.heap.size:=by have:=hc4.size;simpa using this
   go_wp2_with (at_builtin;refine wp_append_1 (v:=.slice a0 i c0) rfl (.tmp 15) (.tmp 19) 32 rfl underlying32 el9 rfl (hOx _) rfl (hBx _) rfl (own_strs_one [textO c']) (by unfold maxLen;omega) (by omega) (by simp;omega) ?_;intro v5 w5 hO5 hc5)
   have n1:NeX w.heap.size (Value.slice a0 i c0).ownBlock:=own_ne hO (by omega)
   have n2:VT.Sub (Value.slice a0 i c0).ownBlock none w:=⟨fun k hk _ e=>by have:=(hO.lt k e.symm).1;omega⟩
   have n3:=hO.off
   have g4:Gr none w D w4 D:=ii
   have b4:Box w4 D w.heap.size 73 #[.map (some m1),.map (some m2)]:=ii
   have hg5:Gr none w D w5 D:=ii
   have:=hg5.keeps
   obtain⟨_,_,hs5⟩:=VT.Own.pub hO5
   obtain⟨a6,c6,rfl,_,_⟩:=SlN.form hs5
   clear hs5
   go_roundg (gk-1)
   case measure=>omega
   case rel=>
    refine⟨i+1,a6,c6,by simp,rfl,by omega,ii,ii,?_,?_⟩
    ·have:=hc5.size
     simp at this
     omega
    ·rw[List.take_add_one,HJ.out,List.map_append,List.map_append];exact hO5
  ·obtain⟨D',hpub,hs⟩:=VT.Own.pub hO
   have:=hpub.keeps
   obtain⟨_,_,h1,h2,h3⟩:=SlN.cells (w:=wr) hs
   obtain⟨b5,o5,rfl,hc5⟩:=h3 (by omega)
   have hxl:((l.take i).map textO).length=i:=by have:=HL.out;simp;omega
   have hxs:l.take i=l:=List.take_of_length_le (by have:=HL.out;omega)
   have hcl:∀(j:Nat)(x:Bs),((l.take i).map textO)[j]? =some x→wr.cell? ⟨b5,o5+j,none⟩=some (.string (str x)):=fun j x e=>hc5 j _ (by rw[List.getElem?_map,e];rfl)
   have hlt:b5<wr.heap.size:=by
    obtain⟨x,hx⟩:∃x,((l.take i).map textO)[0]? =some x:=⟨_,List.getElem?_eq_getElem (by omega)⟩
    have h0:=hcl 0 x hx
    rcases Nat.lt_or_ge b5 wr.heap.size with h|h
    ·exact h
    ·unfold World.cell? at h0
     rw[Array.getElem?_eq_none h]at h0
     cases h0
   have hJ:=join_c wr b5 o5 c0 ((l.take i).map textO) (32::w_and++[32]) hcl hlt (by rw[hxl];exact h1) (by rw[hxl];omega) (by rw[hxs,join_and];exact HT.out)
   rw[hxl,hxs,join_and]at hJ
   have HJ:=hid hJ
   clear hJ hcl hc5 h3 hxl hxs hs hpub
   go_wp2_with fail
   refine HJ.out.mono ?_
   rintro e w6 ⟨rfl,hc6⟩
   go_wp2_with fail
   go_ret
   exact⟨rfl,Bel.c⟩
end Go.Proofs.YticgonfhjcaohaaGreatDoor
