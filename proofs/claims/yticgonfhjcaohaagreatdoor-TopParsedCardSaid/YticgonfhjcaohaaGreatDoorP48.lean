/- TopParsed, part 48. -/
import Derived.Test.YticgonfhjcaohaaGreatDoorP47
set_option maxRecDepth 100000
set_option maxHeartbeats 32000000
namespace Go.Proofs.YticgonfhjcaohaaGreatDoor
open Go.RowKit Go.VT _root_.Go.Proofs.Tryz
def errW(l:List Ax)(ws:List Bs):Prop:=∀v∈ws,∃x∈l,∃k s,s∈axV k x.k∧hasC s=true∧v=(cutC s).1
def WrS(w:World)(D:Gh)(l:List Ax)(e:Ending)(w':World):Prop:=
 ∃(ws:List Bs)(D':Gh),Gro none w D w' D'∧errW l ws∧
  ((∃(b c:Nat),e=.returned (.tuple #[.slice (some ⟨b,0,none⟩) (docW ws l).length c,.int .i64 0])∧Byt D' b 0 (docW ws l)∧(docW ws l).length≤65536∧(docW ws l).length≤c∧c≤9223372036854775807∧WsOk ws∧∀x∈l,KOk (ksO ws) x.k)∨
   (e=.returned (.tuple #[.slice none 0 0,.int .i64 50])∧(o_owl∈ws∨o_xsd∈ws))∨(e=.returned (.tuple #[.slice none 0 0,.int .i64 2])∧65536<(docW ws l).length))
theorem voc_err{l:List Ax}{cs rs fs is ws:List Bs}(h:VocS l cs rs fs is)(hws:∀v,v∈ws↔v∈wordsV (cs++(rs++(fs++is)))):errW l ws:=by
 intro v hv
 obtain⟨s,hs,rfl⟩:=List.mem_map.1 ((hws v).1 hv)
 obtain⟨hs,hc⟩:=List.mem_filter.1 hs
 have e3:∀q:K,axV 3 q=cV q:=fun q=>by simp[axV,cV]
 have e6:∀q:K,axV 6 q=rV q:=fun q=>by simp[axV,rV]
 have e7:∀q:K,axV 7 q=fV q:=fun q=>by simp[axV,fV]
 have e4:∀q:K,axV 4 q=iV q:=fun q=>by simp[axV,iV]
 simp only[List.mem_append,h.c,h.r,h.f,h.i,List.mem_flatMap]at hs
 rcases hs with⟨x,hx,hs⟩|⟨⟨x,hx,hs⟩,hn⟩|⟨x,hx,hs⟩|⟨⟨x,hx,hs⟩,hn⟩
 ·exact⟨x,hx,3,s,by rw[e3];exact hs,hc,rfl⟩
 ·exact⟨x,hx,6,s,by rw[e6];exact hs,hc,rfl⟩
 ·exact⟨x,hx,7,s,by rw[e7];exact hs,hc,rfl⟩
 ·exact⟨x,hx,4,s,by rw[e4];exact hs,hc,rfl⟩
theorem docW_len{ws:List Bs}{l:List Ax}(hw:WsOk ws)(hl:∀x∈l,VT.Good x)(h1:ws.length≤4000000)(h2:l.length≤1024):(docW ws l).length≤140737488355328:=by
 have key:∀(q:List Bs)(K:Nat),(∀v∈q,v.length≤K)→(q.flatMap (fun v=>v++[10])).length≤(K+1)*q.length:=by
  intro q K
  induction q with
  |nil=>intro _;simp
  |cons a r ih=>
   intro h
   have:=ih (fun v hv=>h v (by simp[hv]))
   have:=h a (by simp)
   simp only[List.flatMap_cons,List.length_append,List.length_cons,List.length_nil]at*
   rw[Nat.mul_add];omega
 have k1:=key (ws.map fun v=>preW v (iriX v)) 100 (fun v hv=>by
  obtain⟨u,hu,rfl⟩:=List.mem_map.1 hv
  have:=hw.len u hu
  simp[preW,iriX];omega)
 have k2:=key (l.map aW) 40000 (fun v hv=>by
  obtain⟨x,hx,rfl⟩:=List.mem_map.1 hv
  exact aW_len (hl x hx))
 rw[List.flatMap_map,List.length_map]at k1 k2
 unfold docW
 simp only[List.length_append,List.length_cons]at*
 simp only[preW,List.length_append,List.length_cons,List.length_nil]at*
 omega
theorem write_c(w:World)(D:Gh)(l:List Ax)(a:Option Addr)(n m:Nat)(hp:AxL D l (.slice a n m))(hl:∀x∈l,VT.Good x)(hn:n≤1024)[hk:Keeps D w][hT:TB D][hTW:TW w]:
  Calls prog 10 #[.slice a n m,.string ⟨#[120]⟩] w (WrS w D l):=by
 obtain⟨hlen,hm1,hm2⟩:=AxL_len hp
 have HL:=hid hlen
 have HG:=hid hl
 have hn':¬(1024:Int)<(n:Int):=by omega
 clear hlen hl
 obtain⟨cx,W1,hrun0,hC1,_,_,hcx0,hsz1⟩:=conv_bytes [120] (by simp) w
 have hrun:Sem.run prog (convert 9 22 (.string ⟨#[120]⟩)) w=.ok (.slice (some ⟨w.heap.size,0,none⟩) 1 cx) W1:=hrun0
 have hcx:W1.cell? ⟨w.heap.size,0,none⟩=some (.int .u8 120):=hcx0 0 (by simp)
 have hG1:Gr none w D W1 D:=⟨hC1.out,Keeps.call none D w W1,fun _ _ _ h=>h,fun _ _ _=>rfl⟩
 have hT1:TW W1:=TW.call (w:=w)
 clear hrun0 hcx0 hC1
 go_enter func10,ntmps10
 go_wp2_with fail
 go_loopg [25] (1:Nat) (fun gk v wr=>∃i:Nat,v=.int .i64 i∧gk+i=1∧W1=wr)
 case atStart=>exact⟨0,rfl,rfl,rfl⟩
 case round=>
  obtain⟨i,rfl,hgk,rfl⟩:=hrel
  by_cases hi:i<1
  ·obtain rfl:i=0:=by omega
   go_wp2_with fail
   refine(inIRI_x _).mono ?_
   rintro e w3 ⟨rfl,rfl⟩
   go_wp2_with fail
   go_roundg 0
   case measure=>omega
   case rel=>exact⟨1,by simp,rfl,rfl⟩
  ·obtain rfl:i=1:=by omega
   have:=hG1.keeps
   go_wp2_with fail
   refine(vocabulary_c W1 D l a n m hp HG.out hn).mono ?_
   rintro e W2 ⟨v1,v2,v3,v4,cs,rs,fs,is,D2,rfl,hs1,hs2,hs3,hs4,hvoc,hlen4,hg2⟩
   have:=hg2
   have:=hg2.keeps
   obtain⟨a1,m1,rfl,_⟩:=SlN.form hs1
   obtain⟨a2,m2,rfl,_⟩:=SlN.form hs2
   obtain⟨a3,m3,rfl,_⟩:=SlN.form hs3
   obtain⟨a4,m4,rfl,_⟩:=SlN.form hs4
   have hG2:Gr none w D W2 D2:=ii
   have HVOC:=hid hvoc
   have hpl:=voc_plain (fun x hx=>(HG.out x hx).wf) hvoc
   have HPL:=hid hpl
   clear hvoc hpl
   go_wp2_with fail
   have hal:Gro none W2 D2 (W2.alloc (.cells #[.slice a1 cs.length m1,.slice a2 rs.length m2,.slice a3 fs.length m3,.slice a4 is.length m4] 78)) D2:=Gr.g
   have:=hal.keeps
   refine(foreign_c _ D2 cs rs fs is _ _ _ _ hs1 hs2 hs3 hs4 (by omega) (fun s hs=>by have:=name_len (HPL.out s hs);omega)).mono ?_
   rintro e W3 ⟨v,ws,D3,rfl,hSw,hg3,hnd,hmem,hwl⟩
   have:=hal
   have hG3:Gr none w D W3 D3:=by have:=hg3;exact ii
   have:=hG3.keeps
   have HERR:=hid (voc_err HVOC.out hmem)
   have HND:=hid hnd
   have HMEM:=hid hmem
   have hwl':ws.length≤4000000:=Nat.le_trans hwl hlen4
   have HC1:=hid (contains_c W3 D3 ws v o_owl hSw)
   have HC2:=hid (contains_c W3 D3 ws v o_xsd hSw)
   obtain⟨av,mv,rfl,_⟩:=SlN.form hSw
   clear hs1 hs2 hs3 hs4 hnd hmem hwl hlen4 hal hg3 hg2 hG1 hcx hG2
   have hSw':=hSw
   cases hco:ws.contains o_owl
   ·rw[hco]at HC1
    cases hcx:ws.contains o_xsd
    ·rw[hcx]at HC2
     go_wp2_with fail
     refine HC1.out.mono ?_
     rintro e w4 ⟨rfl,rfl⟩
     go_wp2_with fail
     refine HC2.out.mono ?_
     rintro e w5 ⟨rfl,rfl⟩
     go_wp2_with fail
     have hws:=voc_ws HG.out HVOC.out HMEM.out HND.out (by simpa using hco) (by simpa using hcx)
     have HWS:=hid hws
     obtain⟨B,hB⟩:∃B,B=w5.heap.size:=⟨_,rfl⟩
     obtain⟨L0,hL0⟩:∃L:List Bs,L=[preW [] [60,120,62],preW o_owl o_owliri,preW o_xsd o_xsdiri]:=⟨_,rfl⟩
     have eL:({data:=#[80,114,101,102,105,120,40,58,61,60]}:ByteArray)++{data:=#[120]}++{data:=#[62,41]}=str (preW [] [60,120,62]):=by
      have h1:=str_app [80,114,101,102,105,120,40,58,61,60] [120]
      have h2:=str_app ([80,114,101,102,105,120,40,58,61,60]++[120]) [62,41]
      rw[←h1]at h2
      exact h2
     obtain⟨W4,hW4⟩:∃W,W=w5.alloc (.cells (L0.map fun s=>Value.string (str s)).toArray 9):=⟨_,rfl⟩
     have hB4:Box W4 D3 B 9 (L0.map fun s=>Value.string (str s)).toArray:=by rw[hW4,hB];exact ii
     have hG4:Gr none w D W4 D3:=by rw[hW4];exact ii
     have hz4:W4.heap.size=B+1:=by rw[hW4,hB];simp
     have hO4:VT.Own W4 D3 B 9 1 (.slice (some ⟨B,0,none⟩) 3 3) 3 (L0.map fun s=>.string (str s)):=by
      have:=VT.Own.lit (B:=B) (s:=1) (m:=3) hB4 (by rw[hL0];simp) (by simp[maxLen]) (Nat.le_refl _)
      simpa using this
     have hwB:w.heap.size≤B:=by have:=hG3.bl.size;omega
     have HW4:Hid (w5.alloc (.cells #[.string ({data:=#[80,114,101,102,105,120,40,58,61,60]}++{data:=#[120]}++{data:=#[62,41]}),.string (str (preW o_owl o_owliri)),.string (str (preW o_xsd o_xsdiri))] 9)=W4):=hid (by rw[hW4,hL0,eL];rfl)
     have HL0:=hid hL0
     clear hco hcx hws hW4 hL0 eL hSw
     rw[show(w5.alloc (.cells #[.string ({data:=#[80,114,101,102,105,120,40,58,61,60]}++{data:=#[120]}++{data:=#[62,41]}),.string {data:=#[80,114,101,102,105,120,40,111,119,108,58,61,60,104,116,116,112,58,47,47,119,119,119,46,119,51,46,111,114,103,47,50,48,48,50,47,48,55,47,111,119,108,35,62,41]},.string {data:=#[80,114,101,102,105,120,40,120,115,100,58,61,60,104,116,116,112,58,47,47,119,119,119,46,119,51,46,111,114,103,47,50,48,48,49,47,88,77,76,83,99,104,101,109,97,35,62,41]}] 9))=W4 from HW4.out,←hB]
     obtain⟨nw,hnw⟩:∃n,n=ws.length:=⟨_,rfl⟩
     rw[←hnw]at hwl'⊢
     obtain⟨ln,hln⟩:∃ln:Nat→List Bs,∀i,ln i=L0++(ws.take i).map fun v=>preW v (iriX v):=⟨_,fun _=>rfl⟩
     have HLN:=hid hln
     have HNW:=hid hnw
     have HSW:=hid hSw'
     clear hnw hln hSw' hB hB4
     go_loopg [10,55] nw (fun gk v10 v55 wr=>∃i:Nat,v55=.int .i64 i∧gk+i=nw∧Gr none w D wr D3∧VT.Own wr D3 B 9 1 v10 (3+i) ((ln i).map fun s=>.string (str s))∧B≤wr.heap.size)
     case atStart=>exact⟨0,rfl,rfl,hG4,by rw[HLN.out];simpa using hO4,by omega⟩
     case round=>
      clear hG4 hO4 hG3
      obtain⟨i,rfl,hgk,hG,hO,hz⟩:=hrel
      have:=hG
      have:=hG.keeps
      have hofx:OffX D3 u10.ownBlock:=⟨fun g hg=>hO.off.out g hg⟩
      have hsub:=VT.Own.sub hO none (a:=w) hwB
      by_cases hi:i<nw
      ·obtain⟨v,b,o,hj,rfl,r0,r1⟩:=SV_elem (w:=wr) HSW.out (i:=i) (by rw[←HNW.out];exact hi)
       have hvl:=HWS.out.1.len v (List.mem_of_getElem? hj)
       have HL1:Hid (ln (i+1)=ln i++[preW v (iriX v)]):=hid (by rw[HLN.out,HLN.out,List.take_add_one,hj];simp)
       have e1:({data:=#[80,114,101,102,105,120,40]}:ByteArray)++str v=str ([80,114,101,102,105,120,40]++v):=str_app [80,114,101,102,105,120,40] v
       have e2:str ([80,114,101,102,105,120,40]++v)++({data:=#[58,61,60]}:ByteArray)=str ([80,114,101,102,105,120,40]++v++[58,61,60]):=str_app _ [58,61,60]
       have e3:str ([80,114,101,102,105,120,40]++v++[58,61,60])++({data:=#[120]}:ByteArray)=str ([80,114,101,102,105,120,40]++v++[58,61,60]++[120]):=str_app _ [120]
       have e4:str ([80,114,101,102,105,120,40]++v++[58,61,60]++[120])++str v=str ([80,114,101,102,105,120,40]++v++[58,61,60]++[120]++v):=str_app _ v
       have e5:str ([80,114,101,102,105,120,40]++v++[58,61,60]++[120]++v)++({data:=#[47,62,41]}:ByteArray)=str (preW v (iriX v)):=by
        rw[show({data:=#[47,62,41]}:ByteArray)=str [47,62,41]from rfl,str_app];simp[preW,iriX]
       have q1:¬9223372036854775807<7+(str v).size:=by rw[str_size];omega
       have q2:¬9223372036854775807<(str ([80,114,101,102,105,120,40]++v)).size+3:=by rw[str_size];simp;omega
       have q3:¬9223372036854775807<(str ([80,114,101,102,105,120,40]++v++[58,61,60])).size+1:=by rw[str_size];simp;omega
       have q4:¬9223372036854775807<(str ([80,114,101,102,105,120,40]++v++[58,61,60]++[120])).size+(str v).size:=by rw[str_size,str_size];simp;omega
       have q5:¬9223372036854775807<(str ([80,114,101,102,105,120,40]++v++[58,61,60]++[120]++v)).size+3:=by rw[str_size];simp;omega
       obtain⟨p1,hp1⟩:∃p,p=[80,114,101,102,105,120,40]++v:=⟨_,rfl⟩
       obtain⟨p2,hp2⟩:∃p,p=p1++[58,61,60]:=⟨_,rfl⟩
       obtain⟨p3,hp3⟩:∃p,p=p2++[120]:=⟨_,rfl⟩
       obtain⟨p4,hp4⟩:∃p,p=p3++v:=⟨_,rfl⟩
       simp only[←hp1,←hp2,←hp3,←hp4]at e1 e2 e3 e4 e5 q2 q3 q4 q5
       have hi':(i:Int)<(nw:Int):=by omega
       clear hj hvl hp1 hp2 hp3 hp4
       have hOx:∀o,VT.Own (wr.alloc o) D3 B 9 1 u10 (3+i) ((ln i).map fun s=>.string (str s)):=fun o=>ii
       have hBx:∀s,Box (wr.alloc (.cells #[.string s] 9)) D3 wr.heap.size 9 #[.string s]:=fun _=>ii
       go_wp2_with (at_builtin;refine wp_append_1 (v:=u10) rfl (.tmp 59) (.tmp 68) 32 rfl underlying32 el9 rfl (hOx _) rfl (hBx _) rfl (own_strs_one [preW v (iriX v)]) (by simp[maxLen];omega) (by omega) (by simp;omega) ?_;intro v6 w6 hO6 hc6)
       have hc6i:=hc6
       have hG6:Gr none w D w6 D3:=ii
       have hz6:=hc6.out.size
       go_wp2_with fail
       go_roundg (gk-1)
       case measure=>omega
       case rel=>exact⟨i+1,by simp,by omega,hG6,by rw[HL1.out,List.map_append];exact hO6,by simp at hz6;omega⟩
      ·obtain rfl:i=nw:=by omega
       have hi':¬(i:Int)<(i:Int):=by omega
       have hOx:∀o,VT.Own (wr.alloc o) D3 B 9 1 u10 (3+i) ((ln i).map fun s=>.string (str s)):=fun o=>ii
       have hBx:∀s,Box (wr.alloc (.cells #[.string s] 9)) D3 wr.heap.size 9 #[.string s]:=fun _=>ii
       go_wp2_with (at_builtin;refine wp_append_1 (v:=u10) rfl (.tmp 71) (.tmp 72) 32 rfl underlying32 el9 rfl (hOx _) rfl (hBx _) rfl (own_strs_one [[79,110,116,111,108,111,103,121,40]]) (by simp[maxLen];omega) (by omega) (by simp;omega) ?_;intro v6 w6 hO6 hc6)
       have hc6i:=hc6
       have hG6:Gr none w D w6 D3:=ii
       have hz6:=hc6.out.size
       go_wp2_with fail
       obtain⟨l2,hl2⟩:∃l2:Nat→List Bs,∀j,l2 j=ln i++[o_onto++[40]]++(l.take j).map aW:=⟨_,fun _=>rfl⟩
       have HL2:=hid hl2
       have hO60:VT.Own w6 D3 B 9 1 v6 (4+i+0) ((l2 0).map fun s=>.string (str s)):=by
        rw[hl2,show 4+i+0=3+i+1 by omega,List.map_append,List.map_append]
        simp only[List.take_zero,List.map_nil,List.append_nil]
        exact hO6
       have hz60:B≤w6.heap.size:=by simp at hz6;omega
       clear hl2 hO6 hz6 hc6 hc6i hO
       go_loopg [10,76] n (fun gk v10 v76 wr=>∃j:Nat,v76=.int .i64 j∧gk+j=n∧Gr none w D wr D3∧VT.Own wr D3 B 9 1 v10 (4+i+j) ((l2 j).map fun s=>.string (str s))∧B≤wr.heap.size)
       case atStart=>exact⟨0,rfl,by omega,hG6,hO60,hz60⟩
       case round=>
        clear hG hz hG6 hO60 hz60 hOx hBx hofx hsub
        obtain⟨j,rfl,hgk,hG,hO,hz⟩:=hrel
        have:=hG
        have:=hG.keeps
        have hkD:=keeps_le ⟨hG.le⟩ (w:=wr)
        have hTr:TW wr:=TW.call (w:=w) (hc:=⟨hG.bl⟩)
        have hofx:OffX D3 u10.ownBlock:=⟨fun g hg=>hO.off.out g hg⟩
        have hsub:=VT.Own.sub hO none (a:=w) hwB
        by_cases hj:j<n
        ·obtain⟨x,lp,rp,rl,b,o,hjx,rfl,hav,hc,r1⟩:=AxL_elem (D:=D) (w:=wr) hp (i:=j) (by rw[←HL.out];exact hj)
         have hgd:=HG.out x (List.mem_of_getElem? hjx)
         have HL1:Hid (l2 (j+1)=l2 j++[aW x]):=hid (by rw[HL2.out,HL2.out,List.take_add_one,hjx];simp)
         have hav':=hav
         obtain⟨a5,m5,rfl⟩:=PV_form hav.l
         obtain⟨a6,m6,rfl⟩:=PV_form hav.r
         obtain⟨a7,m7,rfl,_⟩:=SlN.form hav.s
         have hj':(j:Int)<(n:Int):=by omega
         have HAX:Hid (∀W',Cll none wr W'→Calls prog 30 #[.agg (axc x (.slice a5 (oP x.k.left).length m5) (.slice a6 (oP x.k.right).length m6) (.slice a7 x.k.roles.length m7))] W' fun e w'=>e=.returned (.string (str (aW x)))∧Cll none W' w'):=hid fun W' hcc=>by
          have:Keeps D W':=Keeps.call none D wr W'
          have:TW W':=TW.call (w:=wr)
          exact ow_ax W' D x _ _ _ hgd hav'
         clear hjx hgd hav hav'
         generalize(oP x.k.left).length=n5 at*
         generalize(oP x.k.right).length=n6 at*
         generalize x.k.roles.length=n7 at*
         have hB2:Box (wr.alloc (.cells (axc x (.slice a5 n5 m5) (.slice a6 n6 m6) (.slice a7 n7 m7)) 34)) D3 wr.heap.size 34 (axc x (.slice a5 n5 m5) (.slice a6 n6 m6) (.slice a7 n7 m7)):=Box.new wr D3 34 _
         go_wp2_with (first|((with_reducible show wpList _ _ _ ((⟨_,.load 34 _,_,_,_,_⟩:Oper)::_) _ _);refine load34 rfl _ rfl rfl hc ?_)|((with_reducible show wpList _ _ _ ((⟨_,.load 34 _,_,_,_,_⟩:Oper)::_) _ _);refine wpList_load_row rfl 34 _ rfl (wr.heap.size) rfl (34) _ (0,0) _ (hB2.heap) underlying34 rfl (hz34) ?_))
         refine(HAX.out _ Bel.c).mono ?_
         rintro e w4 ⟨rfl,hc4⟩
         have hOx:∀o,VT.Own (w4.alloc o) D3 B 9 1 u10 (4+i+j) ((l2 j).map fun s=>.string (str s)):=fun o=>ii
         have hBx:∀s,Box (w4.alloc (.cells #[.string s] 9)) D3 w4.heap.size 9 #[.string s]:=fun _=>ii
         have hz4':=hc4.out.size
         have hz5':wr.heap.size≤w4.heap.size:=by simp at hz4';omega
         clear hc hB2
         go_wp2_with (at_builtin;refine wp_append_1 (v:=u10) rfl (.tmp 80) (.tmp 83) 32 rfl underlying32 el9 rfl (hOx _) rfl (hBx _) rfl (own_strs_one [aW x]) (by simp[maxLen];omega) (by omega) (by simp;omega) ?_;intro v8 w8 hO8 hc8)
         have hc8i:=hc8
         have hG8:Gr none w D w8 D3:=ii
         have hz8:=hc8.out.size
         go_wp2_with fail
         go_roundg (gk-1)
         case measure=>omega
         case rel=>exact⟨j+1,by simp,by omega,hG8,by rw[HL1.out,List.map_append];exact hO8,by simp at hz8;omega⟩
        ·obtain rfl:j=n:=by omega
         have hj':¬(j:Int)<(j:Int):=by omega
         have hOx:∀o,VT.Own (wr.alloc o) D3 B 9 1 u10 (4+i+j) ((l2 j).map fun s=>.string (str s)):=fun o=>ii
         have hcl:∀(q:Nat)(u:Value),[Value.string ⟨#[41]⟩,.string ⟨#[]⟩][q]? =some u→(wr.alloc (.cells #[.string ⟨#[41]⟩,.string ⟨#[]⟩] 9)).cell? ⟨wr.heap.size,0+q,none⟩=some u:=fun q u e=>by
          rw[Nat.zero_add];exact(Box.cell (h:=Box.new wr D3 9 _) q).trans (by simpa using e)
         have HCL:=hid hcl
         clear hcl
         go_wp2_with (at_builtin;refine wp_append_N (v:=u10) (D:=D3) rfl (.tmp 86) (.tmp 87) 32 rfl underlying32 el9 rfl (hOx _) (b:=wr.heap.size) (off:=0) (m:=2) (c:=2) (news:=[.string ⟨#[41]⟩,.string ⟨#[]⟩]) rfl rfl HCL.out (own_strs_one [[41],[]]) (by simp[maxLen];omega) (by omega) (by simp;omega) ?_;intro v9 w9 hO9 hc9)
         have hc9i:=hc9
         have hG9:Gr none w D w9 D3:=ii
         have:=hG9.keeps
         have hO9':VT.Own w9 D3 B 9 1 v9 (4+i+j+2) ((l2 j++[[41],[]]).map fun s=>.string (str s)):=by rw[List.map_append];exact hO9
         obtain⟨D4,hP,hS4⟩:=SV.of_own hO9'
         have hG10:Gr none w D w9 D4:=hP.gr none w D hG9 (fun k hk=>by have:=(VT.Own.lt hO9' k hk).1;omega)
         have:=hG10.keeps
         have hjn:Lib.join (l2 j++[[41],[]]) [10]=docW ws l:=by
          have t1:ws.take i=ws:=List.take_of_length_le (by have:=HNW.out;omega)
          have t2:l.take j=l:=List.take_of_length_le (by have:=HL.out;omega)
          rw[←docW_join,HL2.out,HLN.out,HL0.out,t1,t2]
          simp
         obtain⟨a9,c9,rfl,hm9,hm9'⟩:=SlN.form hS4
         have hl9:(l2 j++[[41],[]]).length=4+i+j+2:=by have:=hO9'.own.1;simpa using this
         obtain⟨b9,o9,rfl,hD9⟩:=SV_first hS4 (by omega)
         have hdl:(docW ws l).length≤140737488355328:=docW_len HWS.out.1 HG.out (by have:=HNW.out;omega) (by have:=HL.out;omega)
         have HJ:=hid (join_c w9 b9 o9 c9 (l2 j++[[41],[]]) [10] (fun q x e=>Keeps.out (D:=D4) _ _ _ (hD9 q x e)) (Keeps.lt (D:=D4) (hD9 0 _ (List.getElem?_eq_getElem (by omega)))) hm9 (by omega) (by rw[hjn];exact hdl))
         rw[hjn]at HJ
         obtain⟨dw,hdw⟩:∃d,d=docW ws l:=⟨_,rfl⟩
         rw[←hdw]at HJ hdl
         have HDW:=hid hdw
         clear hO9 hc9 hc9i hO9' hP hD9 hm9 hm9' hjn hdw hG hG9 hO hOx hofx hsub hl9
         go_wp2_with fail
         refine HJ.out.mono ?_
         rintro e w10 ⟨rfl,hc10⟩
         have:=hc10
         have hG11:Gr none w D w10 D4:=ii
         have hsd:(str dw).size=dw.length:=str_size dw
         by_cases hbig:65536<dw.length
         ·have hb:(65536:Int)<((str dw).size:Int):=by rw[hsd];omega
          have HB:Hid (65536<(docW ws l).length):=hid (by rw[←HDW.out];exact hbig)
          clear hsd hS4
          go_wp2_with fail
          exact bodyPost_ret (v:=.tuple #[.slice none 0 0,.int .i64 2]) (by simp[results,results10,go_sem]) rfl ⟨ws,D4,(have:=hG11;Gr.g),HERR.out,.inr (.inr ⟨rfl,HB.out⟩)⟩
         ·have hb:¬(65536:Int)<((str dw).size:Int):=by rw[hsd];omega
          obtain⟨cf,wf,hrf,hCf,hcf1,hcf2,hcf3,hszf⟩:=conv_bytes dw (by omega) w10
          have:=hCf
          have hGf:Gr none w D wf D4:=ii
          have:=hGf.keeps
          have:Off D4 w10.heap.size:=by have:=hG11.keeps;exact ii
          have hPf:Pub wf D4 (D4.add w10.heap.size (dw.map bv)) (some w10.heap.size):=pub_add (fun o v e=>by
           rw[List.getElem?_map]at e
           obtain⟨y,hy,rfl⟩:=Option.map_eq_some_iff.1 e
           obtain⟨hlt,rfl⟩:=List.getElem?_eq_some_iff.1 hy
           exact hcf3 o hlt)
          have hGz:Gr none w D wf (D4.add w10.heap.size (dw.map bv)):=hPf.gr none w D hGf (fun k hk=>by cases hk;exact hG11.bl.size)
          have hBy:Byt (D4.add w10.heap.size (dw.map bv)) w10.heap.size 0 dw:=⟨fun q c e=>by
           rw[Nat.zero_add,Gh.add_at,List.getElem?_map,e];rfl⟩
          have HFIN:Hid ((docW ws l).length≤65536∧(docW ws l).length≤cf∧Byt (D4.add w10.heap.size (dw.map bv)) w10.heap.size 0 (docW ws l)):=hid (by rw[←HDW.out];exact⟨by omega,hcf1,hBy⟩)
          have hHf:=hid hcf3
          clear hsd hS4 hcf3 hPf hGf hBy hbig
          go_wp2_with fail
          exact bodyPost_ret (v:=.tuple #[.slice (some ⟨w10.heap.size,0,none⟩) dw.length cf,.int .i64 0]) (by simp[results,results10,go_sem]) rfl ⟨ws,_,(have:=hGz;Gr.g),HERR.out,.inl ⟨w10.heap.size,cf,by rw[←HDW.out],HFIN.out.2.2,HFIN.out.1,HFIN.out.2.1,hcf2,HWS.out.1,HWS.out.2⟩⟩
    ·rw[hcx]at HC2
     have hmx:Hid (o_xsd∈ws):=hid (by simpa using hcx)
     go_wp2_with fail
     refine HC1.out.mono ?_
     rintro e w4 ⟨rfl,rfl⟩
     go_wp2_with fail
     refine HC2.out.mono ?_
     rintro e w5 ⟨rfl,rfl⟩
     go_wp2_with fail
     exact bodyPost_ret (v:=.tuple #[.slice none 0 0,.int .i64 50]) (by simp[results,results10,go_sem]) rfl ⟨ws,D3,(have:=hG3;Gr.g),HERR.out,.inr (.inl ⟨rfl,.inr hmx.out⟩)⟩
   ·rw[hco]at HC1
    have hmx:Hid (o_owl∈ws):=hid (by simpa using hco)
    go_wp2_with fail
    refine HC1.out.mono ?_
    rintro e w4 ⟨rfl,rfl⟩
    go_wp2_with fail
    exact bodyPost_ret (v:=.tuple #[.slice none 0 0,.int .i64 50]) (by simp[results,results10,go_sem]) rfl ⟨ws,D3,(have:=hG3;Gr.g),HERR.out,.inr (.inl ⟨rfl,.inl hmx.out⟩)⟩
end Go.Proofs.YticgonfhjcaohaaGreatDoor
namespace Go.Proofs.YticgonfhjcaohaaGreatDoor
open Go.RowKit Go.VT _root_.Go.Proofs.Tryz
theorem AxL.one{D:Gh}{b:Nat}{x:Ax}{lp rp rl:Value}(h:∀j u,(axc x lp rp rl)[j]? =some u→D b j=some u)(hv:AV D x lp rp rl):AxL D [x] (.slice (some ⟨b,0,none⟩) 1 1):=by
 refine⟨[(x,lp,rp,rl)],rfl,⟨by simp[arow],some ⟨b,0,none⟩,1,rfl,Nat.le_refl _,by simp[maxLen],fun h=>by simp at h,fun _=>⟨b,0,rfl,fun j u e=>?_⟩⟩,fun y hy=>?_⟩
 ·rw[Nat.zero_add];exact h j u (by simpa[arow]using e)
 ·rw[List.mem_singleton.1 hy];exact hv
theorem byt_of{D:Gh}{bs:Bs}{v:Value}(h:SlN D 1 v bs.length (byV bs)):∃a c,v=.slice a bs.length c∧bs.length≤c∧c≤9223372036854775807∧(bs≠[]→∃b o,a=some ⟨b,o,none⟩∧Byt D b o bs):=by
 obtain⟨_,a,c,rfl,h1,h2,_,h4⟩:=h
 refine⟨a,c,rfl,h1,by unfold maxLen at h2;omega,fun hb=>?_⟩
 obtain⟨b,o,rfl,hc⟩:=h4 (List.length_pos_iff.2 hb)
 exact⟨b,o,rfl,⟨fun j c e=>hc j _ (by unfold byV;rw[List.getElem?_map,e];rfl)⟩⟩
theorem parsed_back(w:World)(D:Gh)(l:List Ax)(a:Option Addr)(c:Nat)[hk:Keeps D w][hT:TB D](hs:textD l≠[]→∃b o,a=some ⟨b,o,none⟩∧Byt D b o (textD l))(hl:∀x∈l,VT.Good x)(hn:l.length≤1024)(hl6:(textD l).length≤65536)(hc:(textD l).length≤c)(hcm:c≤9223372036854775807):
  Calls prog 5 #[.slice a (textD l).length c] w fun e w'=>∃(vl:Value)(ab:Option Addr)(cb:Nat)(D':Gh),e=.returned (.tuple #[vl,.slice ab 0 cb,.int .i64 0])∧AxL D' l vl∧Gro none w D w' D':=by
 have hlex:=Lx_D l (fun x hx=>(hl x hx).wf) ((textD l).length+1)
 refine(document_c w D ((textD l).length+1+(tokD l).length) (2*((textD l).length+1)+202) (textD l) a c hs (by omega) hl6 hc hcm (by omega) (by omega)).mono ?_
 rintro e w' ⟨l',D',nb,hg,_,_,hf,h⟩
 obtain⟨rfl,rfl⟩:=hf l hl hlex
 rcases h with⟨_,vl,ab,cb,rfl,hx⟩|⟨h,_⟩
 ·exact⟨vl,ab,cb,D',rfl,hx,hg⟩
 ·omega
abbrev x0:Ax:=⟨false,.typ [97] (.named [65])⟩
theorem good0:VT.Good x0:=⟨⟨by decide,(by decide:plainB [65]=true)⟩,by decide,by rfl⟩
theorem AxL.le{D D':Gh}{l:List Ax}{v:Value}(h:AxL D l v)(hd:Le D D'):AxL D' l v:=by
 obtain⟨xs,h1,h2,h3⟩:=h
 exact⟨xs,h1,h2.le,fun x hx=>(h3 x hx).le⟩
theorem err0{ws:List Bs}(h:errW [x0] ws):ws=[]:=by
 rcases ws with _|⟨v,r⟩
 ·rfl
 ·obtain⟨x,hx,k,s,hs,hc,_⟩:=h v (by simp)
  rw[List.mem_singleton.1 hx]at hs
  have h1:s=[65]∨s=[97]∨s=[]:=by
   rcases List.mem_append.1 hs with hs|hs
   ·left
    simp only[nodesK,K.left,K.right,preO,preC,List.map_cons,List.map_nil,List.cons_append,List.nil_append,List.flatMap_cons,List.flatMap_nil,nmO,C.nm,List.append_nil]at hs
    split at hs
    ·simpa using hs
    ·cases hs
   ·right
    rcases List.mem_append.1 hs with hs|hs
    ·split at hs
     ·right;simpa[K.roles,K.role]using hs
     ·cases hs
    ·split at hs
     ·simpa[K.a,K.b]using hs
     ·cases hs
  rcases h1 with rfl|rfl|rfl<;>exact absurd hc (by decide)
theorem conv_bs(w:World)(D:Gh)[hk:Keeps D w]{bs:Bs}{a:Option Addr}{c:Nat}(hs:bs≠[]→∃b o,a=some ⟨b,o,none⟩∧Byt D b o bs)(h0:bs≠[]):
  Sem.run prog (convert 22 9 (.slice a bs.length c)) w=.ok (.string (str bs)) w:=by
 obtain⟨b,o,rfl,h⟩:=hs h0
 exact byt_str (D:=D)
theorem sane_c(w:World)(D:Gh)[hk:Keeps D w][hT:TB D][hTW:TW w]:Calls prog 4 #[] w fun e w'=>e=.returned (.bool true)∧Cll none w w':=by
 obtain⟨W0,hW0⟩:∃W,W=w.alloc (.cells (axc x0 (.slice none 0 0) (.slice none 0 0) (.slice none 0 0)) 34):=⟨_,rfl⟩
 obtain⟨D0,hg0,hc0⟩:=new_pub (w:=w) (D:=D) 34 (axc x0 (.slice none 0 0) (.slice none 0 0) (.slice none 0 0))
 rw[←hW0]at hg0
 have:=hg0
 have:=hg0.keeps
 have:=hg0.le
 have:Gr none w D W0 D0:=ii
 have hA0:AxL D0 [x0] (.slice (some ⟨w.heap.size,0,none⟩) 1 1):=AxL.one hc0 ⟨PV.nil,PV.nil,SV.nil _⟩
 have hgood:∀x∈[x0],VT.Good x:=fun x hx=>by rw[List.mem_singleton.1 hx];exact good0
 have hT0:TB D0:=ii
 have hTW0:TW W0:=by rw[hW0];exact ii
 have HW0:=hid hW0
 have HGD:=hid hgood
 have htl:(textD [x0]).length=10:=by rfl
 obtain⟨tb,htb⟩:∃t,t=textD [x0]:=⟨_,rfl⟩
 have hp8:=print_c W0 D0 [x0] (some ⟨w.heap.size,0,none⟩) 1 1 hA0 hgood (by omega) (by rw[htl];omega)
 rw[←htb]at hp8 htl
 have HTL:=hid htl
 have HP8:=hid hp8
 have HTB:=hid htb
 have hgo:Gro none w D W0 D0:=hg0
 clear hW0 hc0 hgood hp8 htb htl
 go_enter func4,ntmps4
 go_wp2_with fail
 change Calls _ _ _ (w.alloc (.cells (axc x0 (.slice none 0 0) (.slice none 0 0) (.slice none 0 0)) 34)) _
 rw[←HW0.out]
 refine HP8.out.mono ?_
 rintro e w1 ⟨v1,D1,rfl,hS1,hg1⟩
 obtain⟨a1,c1,rfl,hl1,hcm1,hb1⟩:=byt_of hS1
 have:=hg1
 have:=hg1.keeps
 have:=hg1.le
 have hT1:TB D1:=ii
 have hTW1:TW w1:=TW.call (w:=W0) (hc:=⟨hg1.bl⟩)
 have HB1:=hid hb1
 clear hS1 hb1
 go_wp2_with fail
 refine(write_c w1 D1 [x0] (some ⟨w.heap.size,0,none⟩) 1 1 (hA0.le hg1.le) HGD.out (by omega)).mono ?_
 rintro e w2 ⟨ws,D2,hg2,herr,hcs⟩
 obtain rfl:=err0 herr
 rcases hcs with⟨b2,c2,rfl,hby2,hl6,hlc2,hcm2,hws2,hkk2⟩|⟨_,h|h⟩|⟨_,h⟩
 rotate_left
 ·cases h
 ·cases h
 ·exact absurd h (by decide+kernel)
 have:=hg2
 have:=hg2.keeps
 have:=hg2.le
 have hT2:TB D2:=ii
 obtain⟨n2,hn2⟩:∃n,n=(docW [] [x0]).length:=⟨_,rfl⟩
 rw[←hn2]at hl6 hlc2⊢
 have HN2:=hid hn2
 have HBY2:=hid hby2
 have HWS2:=hid hws2
 have HKK2:=hid hkk2
 have hpb:Hid (Calls prog 5 #[.slice a1 tb.length c1] w2 fun e w'=>∃(vl:Value)(ab:Option Addr)(cb:Nat)(D':Gh),e=.returned (.tuple #[vl,.slice ab 0 cb,.int .i64 0])∧AxL D' [x0] vl∧Gro none w2 D2 w' D'):=hid (by
  have:=parsed_back w2 D2 [x0] a1 c1 (by rw[←HTB.out];intro h0;obtain⟨b,o,e,hb⟩:=HB1.out h0;exact⟨b,o,e,ii⟩) HGD.out (by simp) (by rw[←HTB.out];have:=HTL.out;omega) (by rw[←HTB.out];omega) hcm1
  rwa[←HTB.out]at this)
 clear herr hby2 hws2 hkk2 hn2
 go_wp2_with fail
 refine hpb.out.mono ?_
 rintro e w3 ⟨v3,a3,c3,D3,rfl,hA3,hg3⟩
 have:=hg3
 have:=hg3.keeps
 have:=hg3.le
 have hT3:TB D3:=ii
 have hrd:Hid (Calls prog 11 #[.slice (some ⟨b2,0,none⟩) n2 c2] w3 fun e w'=>∃(v:Value)(D':Gh),e=.returned (.tuple #[v,.string ⟨#[120]⟩,.int .i64 0,.int .i64 0])∧AxL D' [x0] v∧Gr none w3 D3 w' D'):=hid (by
  have:=HBY2.out
  exact read_c w3 D3 [] [x0] (docW [] [x0]) rfl b2 0 n2 c2 HN2.out hlc2 hcm2 hl6 HWS2.out (by simp) (fun x hx=>⟨HKK2.out x hx,(chkK_zero x.k).2 (HGD.out x hx).ok⟩))
 obtain⟨s3,m3,rfl,_⟩:∃a m,v3=.slice a 1 m∧True:=by obtain⟨_,_,h,_⟩:=hA3;obtain⟨a,m,e,_⟩:=SlN.form h;exact⟨a,m,e,trivial⟩
 go_wp2_with fail
 refine hrd.out.mono ?_
 rintro e w4 ⟨v4,D4,rfl,hA4,hg4⟩
 have:=hg4
 have:=hg4.keeps
 obtain⟨s4,m4,rfl,_⟩:∃a m,v4=.slice a 1 m∧True:=by obtain⟨_,_,h,_⟩:=hA4;obtain⟨a,m,e,_⟩:=SlN.form h;exact⟨a,m,e,trivial⟩
 have hle4:Le D3 D4:=⟨hg4.le⟩
 have htl0:tb≠[]:=by have:=HTL.out;rintro rfl;simp at this
 have hcv:Sem.run prog (convert 22 9 (.slice a1 tb.length c1)) w4=.ok (.string ⟨#[116,121,112,101,32,97,32,65,46,10]⟩) w4:=by
  have h:=conv_bs w4 D4 (bs:=tb) (a:=a1) (c:=c1) (fun h0=>by obtain⟨b,o,e,hb⟩:=HB1.out h0;have:=hb;have:Byt D2 b o tb:=ii;have:Byt D3 b o tb:=ii;exact⟨b,o,e,ii⟩) htl0
  rw[h,HTB.out];rfl
 have hle14:Le D0 D4:=le_trans hg1.le (le_trans hg2.le (le_trans hg3.le hle4))
 have hSA:=hid (sameAxs_c w4 D4 [x0] (some ⟨w.heap.size,0,none⟩) s3 1 1 1 m3 (hA0.le hle14) (hA3.le hle4))
 have hSB:=hid (fun(w5:World)(_:Keeps D4 w5)=>sameAxs_c w5 D4 [x0] (some ⟨w.heap.size,0,none⟩) s4 1 1 1 m4 (hA0.le hle14) hA4)
 clear hpb hrd hA3 hA4 hA0
 go_wp2_with fail
 refine hSA.out.mono ?_
 rintro e w5 ⟨rfl,hc5⟩
 have:Keeps D4 w5:=Keeps.call none D4 w4 w5
 go_wp2_with fail
 refine(hSB.out _ ii).mono ?_
 rintro e w6 ⟨rfl,hc6⟩
 go_wp2_with fail
 go_ret
 exact⟨rfl,⟨((((hgo.bl.trans hg1.bl).trans hg2.bl).trans hg3.bl).trans hg4.bl).trans (hc5.out.trans hc6.out)⟩⟩
end Go.Proofs.YticgonfhjcaohaaGreatDoor
