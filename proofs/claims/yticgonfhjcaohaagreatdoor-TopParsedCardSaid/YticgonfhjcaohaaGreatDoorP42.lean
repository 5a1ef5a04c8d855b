/- TopParsed, part 42. -/
import Derived.Test.YticgonfhjcaohaaGreatDoorP39
set_option maxRecDepth 100000
set_option maxHeartbeats 32000000
namespace Go.Proofs.YticgonfhjcaohaaGreatDoor
open Go.RowKit Go.VT _root_.Go.Proofs.Tryz
theorem catch_o(a1 a2 a3 a4:Value)(w:World):
  CallsD prog 32 #[a1,a2,a3,a4] .returning w fun e u' w'=>e=.returned (.tuple #[])∧u'=.returning∧w'=w:=by
 refine callsD_of_wpS func32 rfl fun c₀ cs hu=>?_
 apply wpS_seq
 apply wpS_region
 simp[wpOpsS,go_sem,recoverD,hu,ntmps32,Exit.thenS]
 apply wpS_seq
 apply wpS_region
 simp[wpOpsS,go_sem,Exit.thenS]
 refine wpS_cond (t:=false) (by simp[Act.eval,Array.replicate]) ?_
 simp only[Bool.false_eq_true,if_false]
 refine wpS_of_wp (wp_skip ?_)
 cases c₀
 simp_all [bodyPostS,results,results32]
def presO(ws:List Bs):List (Bs×Bs):=([],[120])::(o_owl,o_owliri.tail.dropLast)::(o_xsd,o_xsdiri.tail.dropLast)::ws.map fun v=>(v,120::(v++[47]))
theorem pres_tok(ws:List Bs)(l:List Ax):docT ws l++[endT]=(presO ws).flatMap preX++(4,o_onto)::tL::(l.flatMap aT++[tR,endT]):=by
 have h:∀ws:List Bs,(ws.map fun v=>((v,120::(v++[47])):Bs×Bs)).flatMap preX=ws.flatMap fun v=>preT v (iriX v):=fun ws=>by
  induction ws with
  |nil=>rfl
  |cons v r ih=>rw[List.map_cons,List.flatMap_cons,List.flatMap_cons,ih];simp[preX,iriX]
 simp only[docT,presO,List.flatMap_cons,h]
 simp[preX]
structure WsOk(ws:List Bs):Prop where
 word:∀v∈ws,wordB v=true
 nd:ws.Nodup
 o:¬o_owl∈ws
 x:¬o_xsd∈ws
 len:∀v∈ws,v.length≤24
def ksO(ws:List Bs):List Bs:=(presO ws).map fun x=>x.1++[58]
theorem presO_fst(ws:List Bs):(presO ws).map (·.1)=[]::o_owl::o_xsd::ws:=by
 simp[presO,Function.comp_def]
theorem ksO_eq(ws:List Bs):ksO ws=([]::o_owl::o_xsd::ws).map (· ++[58]):=by
 rw[←presO_fst,List.map_map];rfl
theorem ws_facts{ws:List Bs}(h:WsOk ws):(∀x∈presO ws,PreOk x.1 x.2)∧(ksO ws).Nodup∧PMs (ksO ws):=by
 refine⟨fun x hx=>?_,?_,?_⟩
 ·simp only[presO,List.mem_cons,List.mem_map]at hx
  rcases hx with rfl|rfl|rfl|⟨v,hv,rfl⟩
  ·exact⟨.inl rfl,fun e=>(by cases e),fun e=>(by cases e),by simp,by simp⟩
  ·exact⟨.inr (by decide+kernel),fun _=>rfl,fun e=>absurd e (by decide),by simp,by simp⟩
  ·exact⟨.inr (by decide+kernel),fun e=>absurd e (by decide),fun _=>rfl,by simp,by simp⟩
  ·have:=h.len v hv
   exact⟨.inr (h.word v hv),fun e=>absurd (e▸hv) h.o,fun e=>absurd (e▸hv) h.x,(show v.length≤100000 by omega),(by simp;omega)⟩
 ·rw[ksO_eq]
  have hn:([]::o_owl::o_xsd::ws:List Bs).Nodup:=by
   refine List.nodup_cons.2 ⟨fun hm=>?_,List.nodup_cons.2 ⟨fun hm=>?_,List.nodup_cons.2 ⟨h.x,h.nd⟩⟩⟩
   ·rcases List.mem_cons.1 hm with e|hm
    ·cases e
    ·rcases List.mem_cons.1 hm with e|hm
     ·cases e
     ·exact absurd (h.word _ hm) (by decide)
   ·rcases List.mem_cons.1 hm with e|hm
    ·exact absurd e (by decide)
    ·exact h.o hm
  exact List.Pairwise.map _ (fun a b hab e=>hab (List.append_cancel_right e)) hn
 ·rw[ksO_eq]
  exact⟨by simp,by simp,by simp⟩
theorem cell_far{w:World}{g i b o:Nat}{u v:Value}(h:w.cell? ⟨g,i,none⟩=some v)(hne:b≠g):(w.setCell ⟨b,o,none⟩ u).cell? ⟨g,i,none⟩=some v:=
 (World.cell?_setCell_other w _ _ u (by rintro⟨⟩;exact hne rfl)).trans h
theorem leaves_put{P:Program}{fn:Func}{t t':Array Value}{R:Ending→World→Prop}(h:results fn t=results fn t'):∀(ds:List Deferred)(u:FrameMode)(w:World),Leaves P fn t R ds u w→Leaves P fn t' R ds u w
 |[],.returning,w,⟨v,h1,h2⟩=>⟨v,by rw[←h];exact h1,h2⟩
 |[],.panicking c,w,h'=>h'
 |[],.run,_,h'=>h'
 |d::ds,u,w,⟨h1,fv,cap,f,args,h2,h3,h4⟩=>⟨h1,fv,cap,f,args,h2,h3,h4.mono fun e u' w' hq=>by
   cases e with
   |returned v=>exact leaves_put h ds _ _ hq
   |panicked c=>exact leaves_put h ds _ _ hq
   |outgrown=>exact hq⟩
theorem put_res11(a:Act)(k:Nat)(v:Value)(hk:5<k):results f11 (a.put (some k) v).tmps=results f11 a.tmps:=by
 have e:∀j,j≤5→(a.put (some k) v).tmps[j]?.getD undef=a.tmps[j]?.getD undef:=fun j hj=>by
  show(a.tmps.setIfInBounds k v)[j]?.getD undef=_
  rw[Array.getElem?_setIfInBounds_ne (by omega)]
 simp only[results,results11,Array.mapM_eq_mapM_toList]
 simp[e 2 (by omega),e 3 (by omega),e 4 (by omega),e 5 (by omega)]
theorem iri_ws{ws:List Bs}(h:WsOk ws):iriF ⟨#[]⟩ (presO ws)=⟨#[120]⟩:=by
 have key:∀(q:List Bs)(a:ByteArray),(∀v∈q,wordB v=true)→iriF a (q.map fun v=>((v,120::(v++[47])):Bs×Bs))=a:=fun q=>by
  induction q with
  |nil=>intro a _;rfl
  |cons v r ih=>
   intro a hv
   have h1:v≠[]:=by rintro rfl;exact absurd (hv [] (by simp)) (by decide)
   have h2:=ih a (fun u hu=>hv u (by simp[hu]))
   simpa[iriF,h1]using h2
 exact key ws _ h.word
theorem read_c(w:World)(D:Gh)(ws:List Bs)(l:List Ax)(bs:Bs)(hbs:bs=docW ws l)(b o n c:Nat)(hn:n=bs.length)(hnc:n≤c)(hcm:c≤9223372036854775807)(hn6:n≤65536)(hws:WsOk ws)(hl:l.length≤1024)(hx:∀x∈l,KOk (ksO ws) x.k∧chkK x.k=0)[hk:Keeps D w][hT:TB D][hB:Byt D b o bs]:
  Calls prog 11 #[.slice (some ⟨b,o,none⟩) n c] w fun e w'=>∃(v:Value)(D':Gh),e=.returned (.tuple #[v,.string ⟨#[120]⟩,.int .i64 0,.int .i64 0])∧AxL D' l v∧Gr none w D w' D':=by
 obtain⟨f1,f2,f3⟩:=ws_facts hws
 have hlex:Ot bs (docT ws l++[endT]):=⟨docT ws l,rfl,by rw[hbs];exact lex_doc hws.word (fun x h=>(hx x h).1.wf)⟩
 rw[pres_tok]at hlex
 have HLX:=hid hlex
 have HX:=hid hx
 have HF1:=hid f1
 have HF2:=hid f2
 have HNN:=hid hn
 obtain⟨W0,hW0⟩:∃W,W=(((w.alloc (.cells #[.slice none 0 0] 24)).alloc (.cells #[.string ⟨#[]⟩] 9)).alloc (.cells #[.int .i64 0] 3)).alloc (.cells #[.int .i64 0] 26):=⟨_,rfl⟩
 have hs0:W0.heap.size=w.heap.size+1+1+1+1:=by rw[hW0];simp
 have r1:Box W0 D w.heap.size 24 #[.slice none 0 0]:=by rw[hW0];exact ii
 have r2:Box W0 D (w.heap.size+1) 9 #[.string ⟨#[]⟩]:=by
  rw[hW0]
  have:Box ((w.alloc (.cells #[.slice none 0 0] 24)).alloc (.cells #[.string ⟨#[]⟩] 9)) D (w.heap.size+1) 9 #[.string ⟨#[]⟩]:=newAtO (by simp)
  exact ii
 have r3:Box W0 D (w.heap.size+1+1) 3 #[.int .i64 0]:=by
  rw[hW0]
  have:Box (((w.alloc (.cells #[.slice none 0 0] 24)).alloc (.cells #[.string ⟨#[]⟩] 9)).alloc (.cells #[.int .i64 0] 3)) D (w.heap.size+1+1) 3 #[.int .i64 0]:=newAtO (by simp)
  exact ii
 have r4:Box W0 D (w.heap.size+1+1+1) 26 #[.int .i64 0]:=by rw[hW0];exact newAtO (by simp)
 have g0:Gr none w D W0 D:=by rw[hW0];exact ii
 have:=g0.keeps
 have HW0:=hid hW0
 have HNR:=hid (newReader_c W0 D (some ⟨b,o,none⟩) n c)
 have hmf:∀(fn:Fn)(first cap:Array Value)(w:World),(Instr.makeFunc fn first cap).run prog w=.ok (.func fn first cap) w:=fun _ _ _ _=>rfl
 clear hW0 hlex hx f1 f2 hn hbs
 go_enter_defers func11,ntmps11
 go_wp2_with (first|(go_at_call 33;rw[←HW0.out];refine HNR.out.mono ?_;rintro e w1 ⟨g,mp,mi,mc,rfl,b1,hmp,hmi,hmc,hz,hofp,g1⟩))
 obtain⟨z1,z2,z3,z4,z5,z6,z7,z8⟩:=hz
 have:=g1.keeps
 have hOS:OS w1 D ⟨g,b,o,c,n,bs,mp,mi,mc⟩ [] false ((presO ws).flatMap preX++(4,o_onto)::tL::(l.flatMap aT++[tR,endT])) (.string ⟨#[]⟩) false (.slice none 0 0):=
  ⟨⟨0,.slice none 0 0,⟨Nat.zero_le _,rfl,HLX.out⟩,b1⟩,hmp,hmi,hmc,HNN.out,⟨hnc,hcm,by show n≤1099511627776;omega⟩,hB⟩
 have HD:=hid (fun(_:Unit)=>doc_o w1 D ⟨g,b,o,c,n,bs,mp,mi,mc⟩ (presO ws) l HF1.out HF2.out f3 hl HX.out ⟨#[]⟩ false W0 D ⟨z3,z4⟩ ⟨z1,z2⟩ ⟨z5,z6,z7,z8⟩ g1 hofp hOS)
 clear hOS hmp hmi hmc b1 hofp HLX HX HF1 HF2 f3 g1 hB HNR HW0
 have hnl:∃nl,nl=l.length:=⟨_,rfl⟩
 obtain⟨nl,hnl⟩:=hnl
 rw[←hnl]at HD hl
 refine(HD.out ()).mono ?_
 rintro e w2 ⟨D2,a2,c2,xs,iri2,rfl,g2,hxs,o2,hv2,k6,k4,HIR⟩
 have HIQ:Hid (iri2=⟨#[120]⟩):=hid (HIR.out.trans (iri_ws hws))
 clear HIR
 have hg2:Gro none W0 D w2 D2:=@Gr.g _ _ _ _ _ g2
 have:=g2.keeps
 have s1:Box w2 D2 w.heap.size 24 #[.slice none 0 0]:=ii
 have s2:Box w2 D2 (w.heap.size+1) 9 #[.string ⟨#[]⟩]:=ii
 have s3:Box w2 D2 (w.heap.size+1+1) 3 #[.int .i64 0]:=ii
 have s4:Box w2 D2 (w.heap.size+1+1+1) 26 #[.int .i64 0]:=ii
 have hgw:Gr none w D w2 D2:=ii
 have e1:=s1.held (i:=0) rfl
 have e2:=s2.held (i:=0) rfl
 have e3:=s3.held (i:=0) rfl
 have e4:=s4.held (i:=0) rfl
 have l4:=s4.lt
 have hgg:w.heap.size+1+1+1<g:=by omega
 have hgl:g<w2.heap.size:=World.block_lt_of_cell? w2 _ k6
 have hwl:w.heap.size+1+1+1<w1.heap.size:=by omega
 change w2.cell? ⟨g,6,none⟩=some (.slice a2 nl c2)at k6
 change w2.cell? ⟨g,4,none⟩=some (.string iri2)at k4
 have HK6:=hid hxs
 have HV:=hid hv2
 have HNL:=hid hnl
 clear hg2 g2 r1 r2 r3 r4 g0 hxs hv2 hnl HD HNN
 dsimp only
 go_wp2_with fail
 refine wp_region_held_drew (S:=fun W'=>W'.cell? ⟨g,6,none⟩=some (.slice a2 nl c2)∧W'.cell? ⟨g,4,none⟩=some (.string iri2)) (by kernel_rfl) (⟨k6,k4⟩) (fun hHeld=>?_)
 refine wpAnyH_take (i:=0) (v:=?_) rfl (by kernel_rfl) (by kernel_rfl) (by kernel_rfl) (fun c a w h=>leaves_put (put_res11 a 15 _ (by decide)) _ _ _ h) (Or.inl ⟨by rfl,?_⟩) hHeld ?_
 rotate_left
 ·(intro wz hSw;(try dsimp only at hSw);go_simp;try with_reducible rfl)
 simp only[Act.put,List.getElem_toArray,List.getElem_cons_zero,List.setIfInBounds_toArray,List.set_cons_zero,List.set_cons_succ]
 refine wpAnyH_take (i:=1) (v:=?_) rfl (by kernel_rfl) (by kernel_rfl) (by kernel_rfl) (fun c a w h=>leaves_put (put_res11 a 16 _ (by decide)) _ _ _ h) (Or.inl ⟨by rfl,?_⟩) hHeld ?_
 rotate_left
 ·(intro wz hSw;(try dsimp only at hSw);go_simp;try with_reducible rfl)
 simp only[Act.put,List.getElem_toArray,List.getElem_cons_zero,List.getElem_cons_succ,List.setIfInBounds_toArray,List.set_cons_zero,List.set_cons_succ]
 refine wpAnyH_take (i:=2) (v:=?_) rfl (by kernel_rfl) (by kernel_rfl) (by kernel_rfl) (fun c a w h=>leaves_put (put_res11 a 17 _ (by decide)) _ _ _ h) (Or.inl ⟨by rfl,?_⟩) hHeld ?_
 rotate_left
 ·(intro wz hSw;(try dsimp only at hSw);go_simp;try with_reducible rfl)
 simp only[Act.put,List.getElem_toArray,List.getElem_cons_zero,List.getElem_cons_succ,List.setIfInBounds_toArray,List.set_cons_zero,List.set_cons_succ]
 refine wpAnyH_take (i:=3) (v:=?_) rfl (by kernel_rfl) (by kernel_rfl) (by kernel_rfl) (fun c a w h=>leaves_put (put_res11 a 18 _ (by decide)) _ _ _ h) (Or.inl ⟨by rfl,?_⟩) hHeld ?_
 rotate_left
 ·(intro wz hSw;(try dsimp only at hSw);go_simp;try with_reducible rfl)
 simp only[Act.put,List.getElem_toArray,List.getElem_cons_zero,List.getElem_cons_succ,List.setIfInBounds_toArray,List.set_cons_zero,List.set_cons_succ]
 refine wpAnyH_take (i:=4) (v:=?_) rfl (by kernel_rfl) (by kernel_rfl) (by kernel_rfl) (fun c a w h=>leaves_put (put_res11 a 19 _ (by decide)) _ _ _ h) (Or.inl ⟨by rfl,?_⟩) hHeld ?_
 rotate_left
 ·(intro wz hSw;(try dsimp only at hSw);go_simp;try with_reducible rfl)
 simp only[Act.put,List.getElem_toArray,List.getElem_cons_zero,List.getElem_cons_succ,List.setIfInBounds_toArray,List.set_cons_zero,List.set_cons_succ]
 refine wpAnyH_take (i:=5) (v:=?_) rfl (by kernel_rfl) (by kernel_rfl) (by kernel_rfl) (fun c a w h=>leaves_put (put_res11 a 20 _ (by decide)) _ _ _ h) (Or.inl ⟨by rfl,?_⟩) hHeld ?_
 rotate_left
 ·(intro wz hSw;(try dsimp only at hSw);go_simp;try with_reducible rfl)
 simp only[Act.put,List.getElem_toArray,List.getElem_cons_zero,List.getElem_cons_succ,List.setIfInBounds_toArray,List.set_cons_zero,List.set_cons_succ]
 refine wpAnyH_take (i:=6) (v:=?_) rfl (by kernel_rfl) (by kernel_rfl) (by kernel_rfl) (fun c a w h=>leaves_put (put_res11 a 21 _ (by decide)) _ _ _ h) (Or.inl ⟨by rfl,?_⟩) hHeld ?_
 rotate_left
 ·(intro wz hSw;(try dsimp only at hSw);go_simp;try with_reducible rfl)
 simp only[Act.put,List.getElem_toArray,List.getElem_cons_zero,List.getElem_cons_succ,List.setIfInBounds_toArray,List.set_cons_zero,List.set_cons_succ]
 refine wpAnyH_take (i:=7) (v:=?_) rfl (by kernel_rfl) (by kernel_rfl) (by kernel_rfl) (fun c a w h=>leaves_put (put_res11 a 22 _ (by decide)) _ _ _ h) (Or.inl ⟨by rfl,?_⟩) hHeld ?_
 rotate_left
 ·(intro wz hSw;(try dsimp only at hSw);go_simp;try with_reducible rfl)
 simp only[Act.put,List.getElem_toArray,List.getElem_cons_zero,List.getElem_cons_succ,List.setIfInBounds_toArray,List.set_cons_zero,List.set_cons_succ]
 refine wpAnyH_ready (rs:=[8]) (by kernel_rfl) (by simp) (AllReadyH.cons rfl (fun K' hK=>?_) AllReadyH.nil)
 go_simp
 refine hK.out _ _ (⟨(cell_far k6 (by omega)),(cell_far k4 (by omega))⟩) (fun hHeld=>?_)
 clear hK K'
 refine wpAnyH_ready (rs:=[9]) (by kernel_rfl) (by simp) (AllReadyH.cons rfl (fun K' hK=>?_) AllReadyH.nil)
 go_simp
 refine hK.out _ _ (⟨(cell_far (cell_far k6 (by omega)) (by omega)),(cell_far (cell_far k4 (by omega)) (by omega))⟩) (fun hHeld=>?_)
 clear hK K'
 refine wpAnyH_ready (rs:=[10]) (by kernel_rfl) (by simp) (AllReadyH.cons rfl (fun K' hK=>?_) AllReadyH.nil)
 go_simp
 refine hK.out _ _ (⟨(cell_far (cell_far (cell_far k6 (by omega)) (by omega)) (by omega)),(cell_far (cell_far (cell_far k4 (by omega)) (by omega)) (by omega))⟩) (fun hHeld=>?_)
 clear hK K'
 refine wpAnyH_ready (rs:=[11]) (by kernel_rfl) (by simp) (AllReadyH.cons rfl (fun K' hK=>?_) AllReadyH.nil)
 go_simp
 refine hK.out _ _ (⟨(cell_far (cell_far (cell_far (cell_far k6 (by omega)) (by omega)) (by omega)) (by omega)),(cell_far (cell_far (cell_far (cell_far k4 (by omega)) (by omega)) (by omega)) (by omega))⟩) (fun hHeld=>?_)
 clear hK K'
 refine wpAnyH_done (by kernel_rfl) ?_ _
 go_wp2_with fail
 obtain⟨W9,hW9⟩:∃W,W=((((w2.setCell ⟨w.heap.size,0,none⟩ (.slice a2 nl c2)).setCell ⟨w.heap.size+1,0,none⟩ (.string iri2)).setCell ⟨w.heap.size+1+1,0,none⟩ (.int .i64 0)).setCell ⟨w.heap.size+1+1+1,0,none⟩ (.int .i64 0)).drew:=⟨_,rfl⟩
 rw[←hW9]
 have y1:Box W9 D2 w.heap.size 24 #[.slice a2 nl c2]:=by
  rw[hW9];exact@Box.drew _ _ _ _ _ (Box.far (h:=Box.far (h:=Box.far (h:=@Box.set_ w2 D2 w.heap.size 24 _ 0 (.slice a2 nl c2) s1) (by omega) _) (by omega) _) (by omega) _)
 have y2:Box W9 D2 (w.heap.size+1) 9 #[.string iri2]:=by
  rw[hW9];exact@Box.drew _ _ _ _ _ (Box.far (h:=Box.far (h:=@Box.set_ _ D2 (w.heap.size+1) 9 _ 0 (.string iri2) (Box.far (h:=s2) (by omega) _)) (by omega) _) (by omega) _)
 have y3:Box W9 D2 (w.heap.size+1+1) 3 #[.int .i64 0]:=by
  rw[hW9];exact@Box.drew _ _ _ _ _ (Box.far (h:=@Box.set_ _ D2 (w.heap.size+1+1) 3 _ 0 (.int .i64 0) (Box.far (h:=Box.far (h:=s3) (by omega) _) (by omega) _)) (by omega) _)
 have y4:Box W9 D2 (w.heap.size+1+1+1) 26 #[.int .i64 0]:=by
  rw[hW9];exact@Box.drew _ _ _ _ _ (@Box.set_ _ D2 (w.heap.size+1+1+1) 26 _ 0 (.int .i64 0) (Box.far (h:=Box.far (h:=Box.far (h:=s4) (by omega) _) (by omega) _) (by omega) _))
 have hob:∀k,k<w1.heap.size→(Value.slice a2 nl c2).ownBlock≠some k:=fun k hk e=>by have:=(o2.lt k e).1;omega
 have o9:VT.Own W9 D2 w1.heap.size 34 16 (.slice a2 nl c2) nl (xs.flatMap arow):=by
  rw[hW9];exact@VT.Own.drew _ _ _ _ _ _ _ _ (VT.Own.far (h:=VT.Own.far (h:=VT.Own.far (h:=VT.Own.far (h:=o2) (hob _ (by omega)) _) (hob _ (by omega)) _) (hob _ (by omega)) _) (hob _ (by omega)) _)
 have:=s1.off
 have:=s2.off
 have:=s3.off
 have:=s4.off
 have:New w (w.heap.size+1):=⟨by omega⟩
 have:New w (w.heap.size+1+1):=⟨by omega⟩
 have:New w (w.heap.size+1+1+1):=⟨by omega⟩
 have g9:Gr none w D W9 D2:=by rw[hW9];exact ii
 have:=g9.keeps
 obtain⟨D3,hP,hsl⟩:=o9.pub
 have g10:=hP.gr none w D g9 (fun k e=>by have:=(o9.lt k e).1;omega)
 have i1:=Box.cell (h:=y1) 0
 have i2:=Box.cell (h:=y2) 0
 have i3:=Box.cell (h:=y3) 0
 have i4:=Box.cell (h:=y4) 0
 clear hW9
 refine leaves_cons (f:=32) (args:=#[.pointer (some ⟨w.heap.size,0,none⟩),.pointer (some ⟨w.heap.size+1,0,none⟩),.pointer (some ⟨w.heap.size+1+1,0,none⟩),.pointer (some ⟨w.heap.size+1+1+1,0,none⟩)]) (by simp) (by simp[go_sem]) ?_
 refine(catch_o _ _ _ _ W9).mono ?_
 rintro e u' w'' ⟨rfl,rfl,rfl⟩
 obtain rfl:=HIQ.out
 simp[Leaves,settle,results,results11,go_sem,i1,i2,i3,i4]
 refine⟨D3,⟨xs,HK6.out,by rw[←HNL.out];exact hsl,fun y hy=>?_⟩,g10⟩
 have:=hP.le
 exact(HV.out y hy).le
end Go.Proofs.YticgonfhjcaohaaGreatDoor
namespace Go.Proofs.YticgonfhjcaohaaGreatDoor
open Go.RowKit Go.VT _root_.Go.Proofs.Tryz
def nmO(k:Int):Option C→List Bs
 |some c=>if c.kind=k then[c.nm]else[]
 |none=>[]
def preO:Option C→List (Option C)
 |some c=>(preC c).map some
 |none=>[none]
def nodesK(k:K):List (Option C):=preO k.left++preO k.right
def cV(k:K):List Bs:=(nodesK k).flatMap (nmO 3)
def rV(k:K):List Bs:=(nodesK k).flatMap (nmO 6)++(k.roles++[k.role])
def fV(k:K):List Bs:=(nodesK k).flatMap (nmO 7)
def iV(k:K):List Bs:=(nodesK k).flatMap (nmO 4)++[k.a,k.b]
structure VocS(l:List Ax)(cs rs fs is:List Bs):Prop where
 c:∀s,s∈cs↔s∈l.flatMap fun x=>cV x.k
 r:∀s,s∈rs↔s∈l.flatMap (fun x=>rV x.k)∧s≠[]
 f:∀s,s∈fs↔s∈l.flatMap fun x=>fV x.k
 i:∀s,s∈is↔s∈l.flatMap (fun x=>iV x.k)∧s≠[]
def wordsV(ns:List Bs):List Bs:=(ns.filter hasC).map fun s=>(cutC s).1
theorem nmO_wf{k:Int}(hk:k=3∨k=6∨k=7∨k=4){c:C}(hw:c.wf):∀s∈nmO k (some c),plainB s=true:=by
 intro s hs
 cases c<;>rcases hk with rfl|rfl|rfl|rfl<;>simp[nmO,C.kind,C.nm]at hs
 all_goals subst hs;first|exact hw|exact hw.1
theorem nodes_wf{k:K}(hw:k.wf):∀o∈nodesK k,∀c,o=some c→c.wf:=by
 have key:∀q:Option C,(∀c,q=some c→c.wf)→∀o∈preO q,∀c,o=some c→c.wf:=by
  intro q hq o ho c hc
  cases q with
  |none=>simp[preO]at ho;subst ho;cases hc
  |some d=>
   subst hc
   simp only[preO,List.mem_map,Option.some.injEq,exists_eq_right]at ho
   exact wf_pre d (hq d rfl) c ho
 have h1:(∀c,k.left=some c→c.wf)∧(∀c,k.right=some c→c.wf):=by
  cases k<;>constructor<;>intro c hc<;>simp only[K.left,K.right,Option.some.injEq,reduceCtorEq]at hc
  all_goals subst hc;first|exact hw.1|exact hw.2
 intro o ho c hc
 rcases List.mem_append.1 ho with ho|ho
 ·exact key _ h1.1 o ho c hc
 ·exact key _ h1.2 o ho c hc
theorem nodes_plain{k:K}(hw:k.wf){j:Int}(hj:j=3∨j=6∨j=7∨j=4):∀s∈(nodesK k).flatMap (nmO j),plainB s=true:=by
 intro s hs
 obtain⟨o,ho,hs⟩:=List.mem_flatMap.1 hs
 cases o with
 |none=>simp[nmO]at hs
 |some c=>exact nmO_wf hj (nodes_wf hw _ ho c rfl) s hs
theorem names_plain{k:K}(hw:k.wf):(∀s∈k.roles,plainB s=true)∧(∀s∈[k.role,k.a,k.b],s≠[]→plainB s=true):=by
 cases k<;>simp only[K.wf]at hw<;>constructor<;>simp[K.roles,K.role,K.a,K.b]
 all_goals first|exact fun _=>hw.1|exact hw.1|exact⟨fun _=>hw.2.1,fun _=>hw.1,fun _=>hw.2.2⟩|exact fun _=>hw.2|exact hw.2.2.1|exact fun _=>hw.2.2.2|exact fun _=>hw
theorem voc_plain{l:List Ax}(hl:∀x∈l,x.k.wf){cs rs fs is:List Bs}(h:VocS l cs rs fs is):∀s∈cs++(rs++(fs++is)),plainB s=true:=by
 intro s hs
 simp only[List.mem_append,h.c,h.r,h.f,h.i,List.mem_flatMap]at hs
 rcases hs with⟨x,hx,hs⟩|⟨⟨x,hx,hs⟩,hn⟩|⟨x,hx,hs⟩|⟨⟨x,hx,hs⟩,hn⟩
 ·exact nodes_plain (hl x hx) (.inl rfl) s hs
 ·rcases List.mem_append.1 hs with hs|hs
  ·exact nodes_plain (hl x hx) (.inr (.inl rfl)) s hs
  ·rcases List.mem_append.1 hs with hs|hs
   ·exact(names_plain (hl x hx)).1 s hs
   ·exact(names_plain (hl x hx)).2 s (by simp at hs;simp[hs]) hn
 ·exact nodes_plain (hl x hx) (.inr (.inr (.inl rfl))) s hs
 ·rcases List.mem_append.1 hs with hs|hs
  ·exact nodes_plain (hl x hx) (.inr (.inr (.inr rfl))) s hs
  ·exact(names_plain (hl x hx)).2 s (by simp at hs;rcases hs with rfl|rfl<;>simp) hn
theorem pre_names:∀(n:Nat)(c:C),c.size≤n→∀s∈namesC c,∃y∈preC c,y.nm=s∧(y.kind=3∨y.kind=6∨y.kind=7∨y.kind=4):=by
 intro n
 induction n with
 |zero=>intro c h;have:=C.size_pos c;omega
 |succ n ih=>
  intro c hn s hs
  cases c with
  |top=>simp[namesC]at hs
  |bot=>simp[namesC]at hs
  |named t=>simp[namesC]at hs;subst hs;exact⟨.named _,by simp[preC],rfl,.inl rfl⟩
  |nom t=>simp[namesC]at hs;subst hs;exact⟨.nom _,by simp[preC],rfl,.inr (.inr (.inr rfl))⟩
  |range f lo hi=>simp[namesC]at hs;subst hs;exact⟨.range _ lo hi,by simp[preC],rfl,.inr (.inr (.inl rfl))⟩
  |some r c=>
   simp only[namesC,List.mem_cons]at hs
   simp only[C.size]at hn
   rcases hs with rfl|hs
   ·exact⟨.some _ c,by simp[preC],rfl,.inr (.inl rfl)⟩
   ·obtain⟨y,hy,h⟩:=ih c (by omega) s hs
    exact⟨y,by simp[preC,hy],h⟩
  |and l=>
   simp only[C.size]at hn
   have key:∀l:List C,sizeL l≤n→s∈namesL l→∃y∈preL l,y.nm=s∧(y.kind=3∨y.kind=6∨y.kind=7∨y.kind=4):=by
    intro l
    induction l with
    |nil=>intro _ h;simp[namesL]at h
    |cons a q ihq=>
     intro hz h
     simp only[sizeL]at hz
     simp only[namesL,List.mem_append]at h
     rcases h with h|h
     ·obtain⟨y,hy,h⟩:=ih a (by omega) s h
      exact⟨y,by simp[preL,hy],h⟩
     ·obtain⟨y,hy,h⟩:=ihq (by omega) h
      exact⟨y,by simp[preL,hy],h⟩
   obtain⟨y,hy,h⟩:=key l (by omega) (by simpa[namesC]using hs)
   exact⟨y,by simp[preC,hy],h⟩
theorem voc_all{l:List Ax}{cs rs fs is:List Bs}(h:VocS l cs rs fs is){x:Ax}(hx:x∈l):(∀c∈x.k.cons,∀s∈namesC c,s≠[]→s∈cs++(rs++(fs++is)))∧(∀s∈(x.k.role::x.k.a::x.k.b::x.k.roles),s≠[]→s∈cs++(rs++(fs++is))):=by
 constructor
 ·intro c hc s hs hn
  obtain⟨y,hy,h1,h2⟩:=pre_names c.size c (Nat.le_refl _) s hs
  have hno:some y∈nodesK x.k:=by
   have hc':x.k.left=some c∨x.k.right=some c:=by
    revert hc
    cases x.k<;>simp[K.cons,K.left,K.right]<;>intro h<;>(first|(rcases h with rfl|rfl<;>simp)|(subst h;simp))
   rcases hc' with e|e<;>simp[nodesK,e,preO,hy]
  simp only[List.mem_append,h.c,h.r,h.f,h.i,List.mem_flatMap]
  rcases h2 with e|e|e|e
  ·exact .inl ⟨x,hx,List.mem_flatMap.2 ⟨_,hno,by simp[nmO,e,h1]⟩⟩
  ·exact .inr (.inl ⟨⟨x,hx,List.mem_append.2 (.inl (List.mem_flatMap.2 ⟨_,hno,by simp[nmO,e,h1]⟩))⟩,hn⟩)
  ·exact .inr (.inr (.inl ⟨x,hx,List.mem_flatMap.2 ⟨_,hno,by simp[nmO,e,h1]⟩⟩))
  ·exact .inr (.inr (.inr ⟨⟨x,hx,List.mem_append.2 (.inl (List.mem_flatMap.2 ⟨_,hno,by simp[nmO,e,h1]⟩))⟩,hn⟩))
 ·intro s hs hn
  simp only[List.mem_append,h.c,h.r,h.f,h.i,List.mem_flatMap]
  simp only[List.mem_cons]at hs
  rcases hs with rfl|rfl|rfl|hs
  ·exact .inr (.inl ⟨⟨x,hx,by simp[rV]⟩,hn⟩)
  ·exact .inr (.inr (.inr ⟨⟨x,hx,by simp[iV]⟩,hn⟩))
  ·exact .inr (.inr (.inr ⟨⟨x,hx,by simp[iV]⟩,hn⟩))
  ·exact .inr (.inl ⟨⟨x,hx,by simp[rV,hs]⟩,hn⟩)
theorem voc_ws{l:List Ax}(hl:∀x∈l,VT.Good x){cs rs fs is ws:List Bs}(h:VocS l cs rs fs is)(hws:∀v,v∈ws↔v∈wordsV (cs++(rs++(fs++is))))(hnd:ws.Nodup)(ho:¬o_owl∈ws)(hx:¬o_xsd∈ws):
  WsOk ws∧∀x∈l,KOk (ksO ws) x.k:=by
 have hp:=voc_plain (fun x hx=>(hl x hx).wf) h
 have hw:∀s,s∈cs++(rs++(fs++is))→hasC s=true→(cutC s).1∈ws:=fun s hs hc=>(hws _).2 (List.mem_map.2 ⟨s,List.mem_filter.2 ⟨hs,hc⟩,rfl⟩)
 have hin:∀s,plainB s=true→s∈cs++(rs++(fs++is))→inP (ksO ws) s:=by
  intro s hpl hs
  rw[inP,ksO_eq]
  unfold nameW
  cases hc:s.contains 58
  ·simp[cutC]
  ·have hm:=hw s hs hc
   rw[if_pos rfl]
   exact⟨List.mem_map.2 ⟨_,by simp[hm],rfl⟩,fun e=>ho (e▸hm),fun e=>hx (e▸hm)⟩
 have hwd:∀v∈ws,wordB v=true∧v.length≤24:=by
  intro v hv
  obtain⟨s,hs,rfl⟩:=List.mem_map.1 ((hws v).1 hv)
  obtain⟨hs,hc⟩:=List.mem_filter.1 hs
  have hq:=hp s hs
  have hln:=name_len hq
  have hcut:=cutC_app s hc
  have hl2:s.length=(cutC s).1.length+((cutC s).2.length+1):=by
   have:=congrArg List.length hcut;simpa using this
  simp only[plainB,Bool.and_eq_true]at hq
  exact⟨hq.1.2,by omega⟩
 refine⟨⟨fun v hv=>(hwd v hv).1,hnd,ho,hx,fun v hv=>(hwd v hv).2⟩,fun x hxl=>⟨(hl x hxl).wf,fun c hc=>⟨?_,fun s hs=>?_⟩,fun s hs hn=>?_⟩⟩
 ·have:=okK_size (hl x hxl).ok c hc;omega
 ·have hpl:plainB s=true:=by
   obtain⟨y,hy,h1,h2⟩:=pre_names c.size c (Nat.le_refl _) s hs
   have hwc:c.wf:=by
    have hw:=(hl x hxl).wf
    revert hc hw
    cases x.k<;>simp[K.cons,K.wf]<;>intro h h1<;>(try rcases h with rfl|rfl)<;>(try subst h)<;>(try exact h1)<;>(try intro h2)<;>assumption
   have:=nmO_wf (k:=y.kind) (by omega) (wf_pre c hwc y hy) s (by simp[nmO,h1])
   exact this
  have hm:=(voc_all h hxl).1 c hc s hs (by rintro rfl;exact absurd hpl (by decide))
  exact hin s hpl hm
 ·have hm:=(voc_all h hxl).2 s hs hn
  exact hin s (hp s hm) hm
theorem nameW_len{s:Bs}(h:plainB s=true):(nameW s).length≤25:=by
 have:=name_len h
 unfold nameW
 split<;>simp<;>omega
theorem cW_len:∀(n:Nat)(c:C),c.size≤n→c.wf→(cW c).length+1≤200*c.size:=by
 intro n
 induction n with
 |zero=>intro c h;have:=C.size_pos c;omega
 |succ n ih=>
  intro c hn hw
  cases c with
  |top=>simp[cW,C.size]
  |bot=>simp[cW,C.size]
  |named s=>have:=nameW_len (s:=s) hw;simp only[cW,C.size];omega
  |nom s=>have:=nameW_len (s:=s) hw;simp[cW,C.size];omega
  |some r c=>
   simp only[C.size]at hn
   have h1:=nameW_len hw.1
   have h2:=ih c (by omega) hw.2
   simp[cW,C.size];omega
  |range f lo hi=>
   obtain⟨h1,h2,h3,h4⟩:=hw
   have k1:=nameW_len h1
   have k2:=(itoa_num h2 (by omega)).2.2.1
   have k3:=(itoa_num (n:=hi) (by omega) h4).2.2.1
   simp[cW,C.size,spanW,facetW];omega
  |and l=>
   simp only[C.size]at hn
   have hR:∀l:List C,sizeL l≤n→C.wf.wfL l→(rW l).length≤200*sizeL l:=by
    intro l
    induction l with
    |nil=>intro _ _;simp[rW]
    |cons a q ihq=>
     intro hs hw
     simp only[sizeL]at hs
     have h1:=ih a (by omega) hw.1
     have h2:=ihq (by omega) hw.2
     simp[rW,sizeL];omega
   cases l with
   |nil=>exact absurd hw.1 (by simp)
   |cons a q=>
    simp only[sizeL]at hn
    have h1:=ih a (by omega) hw.2.1
    have h2:=hR q (by omega) hw.2.2
    simp[cW,C.size,sizeL];omega
theorem argsW_len{k:K}(hw:k.wf)(hs:∀c∈k.cons,c.size≤64):(argsW k).length≤30000:=by
 cases k<;>simp only[K.wf]at hw<;>simp only[K.cons,List.mem_cons,List.not_mem_nil,or_false,forall_eq_or_imp,forall_eq]at hs<;>simp only[argsW,chainW,List.length_append,List.length_cons]
 ·have:=cW_len _ _ (Nat.le_refl _) hw.1;have:=cW_len _ _ (Nat.le_refl _) hw.2;omega
 ·have:=cW_len _ _ (Nat.le_refl _) hw.1;have:=cW_len _ _ (Nat.le_refl _) hw.2;omega
 ·have:=cW_len _ _ (Nat.le_refl _) hw.1;have:=cW_len _ _ (Nat.le_refl _) hw.2;omega
 ·have:=nameW_len hw.1;have:=cW_len _ _ (Nat.le_refl _) hw.2;omega
 ·have:=nameW_len hw.1;have:=nameW_len hw.2;omega
 ·rename_i l s
  obtain⟨h1,h2,h3,h4⟩:=hw
  have:=nameW_len h4
  have key:∀l:List Bs,(∀r∈l,plainB r=true)→(Lib.join (l.map nameW) [32]).length≤26*l.length:=by
   intro l hl
   have k2:∀r:List Bs,(∀r'∈r,plainB r'=true)→(((r.map nameW).map ([32]++ ·)).flatten).length≤26*r.length:=fun r=>by
    induction r with
    |nil=>intro _;simp
    |cons b q ih=>
     intro hr
     have:=ih (fun x hx=>hr x (by simp[hx]))
     have:=nameW_len (hr b (by simp))
     simp only[List.map_cons,List.flatten_cons,List.length_append,List.length_cons,List.length_nil]
     omega
   cases l with
   |nil=>simp[Lib.join,List.intercalate]
   |cons a r=>
    have:=k2 r (fun x hx=>hl x (by simp[hx]))
    rw[List.map_cons,join_cons,List.length_append]
    refine Nat.le_trans (Nat.add_le_add (nameW_len (hl a (by simp))) this) ?_
    simp only[List.length_cons]
    omega
  have:=key l h3
  simp;omega
 ·rename_i s;have:=nameW_len (s:=s) hw;omega
 ·have:=nameW_len hw.1;have:=cW_len _ _ (Nat.le_refl _) hw.2;omega
 ·have:=nameW_len hw.1;have:=nameW_len hw.2.1;have:=nameW_len hw.2.2;omega
theorem aW_len{x:Ax}(h:VT.Good x):(aW x).length≤40000:=by
 have h1:=argsW_len h.wf (okK_size h.ok)
 have h2:(kW x.k).length≤30:=by cases x.k<;>simp[kW]
 unfold aW
 cases x.op<;>simp[noteW]<;>omega
theorem docW_join(ws:List Bs)(l:List Ax):Lib.join ([preW [] [60,120,62],preW o_owl o_owliri,preW o_xsd o_xsdiri]++(ws.map (fun v=>preW v (iriX v))++([o_onto++[40]]++(l.map aW++[[41],[]])))) [10]=docW ws l:=by
 have hF:∀(a:Bs)(r:List Bs),a++((r.map ([10]++ ·)).flatten)++[10]=(a::r).flatMap (· ++[10]):=by
  intro a r
  induction r generalizing a with
  |nil=>simp
  |cons b q ih=>
   have:=ih b
   simp only[List.map_cons,List.flatten_cons,List.flatMap_cons]at this⊢
   rw[←this];simp
 have hJ:∀(l:List Bs),l≠[]→Lib.join (l++[[]]) [10]=l.flatMap (· ++[10]):=by
  intro l h0
  cases l with
  |nil=>exact absurd rfl h0
  |cons a r=>rw[List.cons_append,join_cons,←hF a r];simp
 have h1:[preW [] [60,120,62],preW o_owl o_owliri,preW o_xsd o_xsdiri]++(ws.map (fun v=>preW v (iriX v))++([o_onto++[40]]++(l.map aW++[[41],[]])))=([preW [] [60,120,62],preW o_owl o_owliri,preW o_xsd o_xsdiri]++(ws.map (fun v=>preW v (iriX v))++([o_onto++[40]]++(l.map aW++[[41]]))))++[[]]:=by simp
 rw[h1,hJ _ (by simp)]
 simp[docW,List.flatMap_append,List.flatMap_map]
end Go.Proofs.YticgonfhjcaohaaGreatDoor
