/- TopParsed, part 36. -/
import Derived.Test.YticgonfhjcaohaaGreatDoorP34
set_option maxRecDepth 100000
set_option maxHeartbeats 32000000
namespace Go.Proofs.YticgonfhjcaohaaGreatDoor
open Go.RowKit Go.VT _root_.Go.Proofs.Tryz
theorem arow_at(xs:List (Ax×Value×Value×Value))(j:Nat)(x:Ax×Value×Value×Value)(h:xs[j]? =some x)(i:Nat)(u:Value)(hu:(arow x)[i]? =some u):(xs.flatMap arow)[j*16+i]? =some u:=by
 induction xs generalizing j with
 |nil=>simp at h
 |cons y r ih=>
  rw[List.flatMap_cons]
  have hl:∀z,(arow z).length=16:=fun z=>rfl
  have hi:i<16:=by
   rcases Nat.lt_or_ge i 16 with hi|hi
   ·exact hi
   ·rw[List.getElem?_eq_none (by rw[hl];exact hi)]at hu;cases hu
  cases j with
  |zero=>
   obtain rfl:y=x:=by simpa using h
   rw[List.getElem?_append_left (by rw[hl];omega),Nat.zero_mul,Nat.zero_add];exact hu
  |succ j=>
   rw[List.getElem?_append_right (by rw[hl];omega)]
   have e:(j+1)*16+i-(arow y).length=j*16+i:=by rw[hl];omega
   rw[e];exact ih j (by simpa using h)
theorem AxL_len{D:Gh}{l:List Ax}{a:Option Addr}{n m:Nat}(h:AxL D l (.slice a n m)):n=l.length∧n≤m∧m≤9223372036854775807:=by
 obtain⟨xs,hx,h2,_⟩:=h
 obtain⟨_,a',c,hv,h1,h2,_⟩:=h2
 cases hv
 exact⟨rfl,h1,h2⟩
theorem AxL_elem{D:Gh}{w:World}[hk:Keeps D w]{l:List Ax}{a:Option Addr}{n m i:Nat}(h:AxL D l (.slice a n m))(hi:i<l.length):
  ∃x lp rp rl b o,l[i]? =some x∧a=some ⟨b,o,none⟩∧AV D x lp rp rl∧(∀j u,(axc x lp rp rl)[j]? =some u→w.cell? ⟨b,o+i*16+j,none⟩=some u)∧b<w.heap.size:=by
 obtain⟨rfl,_,_⟩:=AxL_len h
 obtain⟨xs,rfl,h2,hv⟩:=h
 obtain⟨_,a',c,he,h1,h2,_,h4⟩:=h2
 cases he
 obtain⟨b,o,rfl,hc⟩:=h4 (by omega)
 have hi':i<xs.length:=by simpa using hi
 have hj:=List.getElem?_eq_getElem hi'
 have hcell:∀j u,(axc xs[i].1 xs[i].2.1 xs[i].2.2.1 xs[i].2.2.2)[j]? =some u→w.cell? ⟨b,o+i*16+j,none⟩=some u:=fun j u e=>by
  have:=hk.out _ _ _ (hc (i*16+j) u (arow_at xs i _ hj j u (by rw[arow,Array.getElem?_toList];exact e)))
  rw[←Nat.add_assoc]at this;exact this
 exact⟨xs[i].1,_,_,_,b,o,by rw[List.getElem?_map,hj];rfl,rfl,hv _ (List.getElem_mem hi'),hcell,(by
  have h0:∃u,(axc xs[i].1 xs[i].2.1 xs[i].2.2.1 xs[i].2.2.2)[0]? =some u:=⟨_,rfl⟩
  obtain⟨u,hu⟩:=h0
  exact Keeps.lt (hc (i*16+0) u (arow_at xs i _ hj 0 u (by rw[arow,Array.getElem?_toList];exact hu))))⟩
theorem sameAxs_c(w:World)(D:Gh)(l:List Ax)(a a2:Option Addr)(len m len2 m2:Nat)(hp:AxL D l (.slice a len m))(hp2:AxL D l (.slice a2 len2 m2))[Keeps D w]:
  Calls prog 9 #[.slice a len m,.slice a2 len2 m2] w fun e w'=>e=.returned (.bool true)∧Cll none w w':=by
 obtain⟨hlen,hm1,hm2⟩:=AxL_len hp
 obtain⟨hlen2,hm21,hm22⟩:=AxL_len hp2
 obtain rfl:len2=len:=by omega
 have HL:=hid hlen
 clear hlen hlen2
 go_enter func9,ntmps9
 go_wp2_with fail
 go_loopg [5] len2 (fun gk v wr=>∃i:Nat,v=.int .i64 i∧gk+i=len2∧Gr none w D wr D)
 case atStart=>exact⟨0,rfl,rfl,ii⟩
 case round=>
  obtain⟨i,rfl,hgk,hG⟩:=hrel
  have:=hG.keeps
  have hle:=hG.bl.size
  by_cases hi:i<len2
  ·obtain⟨x,lp,rp,rl,b,o,hj,rfl,hav,hc,r1⟩:=AxL_elem (w:=wr) hp (i:=i) (by rw[←HL.out];exact hi)
   obtain⟨x2,lp2,rp2,rl2,b2,o2,hj2,e1,hav2,hc2,s1⟩:=AxL_elem (w:=wr) hp2 (i:=i) (by rw[←HL.out];exact hi)
   obtain rfl:x2=x:=by rw[hj]at hj2;exact(Option.some.inj hj2).symm
   subst e1
   clear hj hj2
   obtain⟨a3,m3,rfl⟩:=PV_form hav.l
   obtain⟨b3,q3,rfl⟩:=PV_form hav2.l
   obtain⟨a4,m4,rfl⟩:=PV_form hav.r
   obtain⟨b4,q4,rfl⟩:=PV_form hav2.r
   obtain⟨a5,m5,rfl,_⟩:=SlN.form hav.s
   obtain⟨b5,q5,rfl,_⟩:=SlN.form hav2.s
   have c0:wr.cell? ⟨b,o+i*16,none⟩=some (.int .i64 x2.k.kind):=hc 0 _ rfl
   have c1:wr.cell? ⟨b,o+i*16+1,none⟩=some (.bool x2.op):=hc 1 _ rfl
   have c2:wr.cell? ⟨b,o+i*16+2,none⟩=some (.int .i64 (oK x2.k.left)):=hc 2 _ rfl
   have c3:wr.cell? ⟨b,o+i*16+3,none⟩=some (.string (str (oN x2.k.left))):=hc 3 _ rfl
   have c4:wr.cell? ⟨b,o+i*16+4,none⟩=some (.int .i64 (oLo x2.k.left)):=hc 4 _ rfl
   have c5:wr.cell? ⟨b,o+i*16+5,none⟩=some (.int .i64 (oHi x2.k.left)):=hc 5 _ rfl
   have c6:wr.cell? ⟨b,o+i*16+6,none⟩=some (.slice a3 (oP x2.k.left).length m3):=hc 6 _ rfl
   have c7:wr.cell? ⟨b,o+i*16+7,none⟩=some (.int .i64 (oK x2.k.right)):=hc 7 _ rfl
   have c8:wr.cell? ⟨b,o+i*16+8,none⟩=some (.string (str (oN x2.k.right))):=hc 8 _ rfl
   have c9:wr.cell? ⟨b,o+i*16+9,none⟩=some (.int .i64 (oLo x2.k.right)):=hc 9 _ rfl
   have c10:wr.cell? ⟨b,o+i*16+10,none⟩=some (.int .i64 (oHi x2.k.right)):=hc 10 _ rfl
   have c11:wr.cell? ⟨b,o+i*16+11,none⟩=some (.slice a4 (oP x2.k.right).length m4):=hc 11 _ rfl
   have c12:wr.cell? ⟨b,o+i*16+12,none⟩=some (.slice a5 x2.k.roles.length m5):=hc 12 _ rfl
   have c13:wr.cell? ⟨b,o+i*16+13,none⟩=some (.string (str x2.k.role)):=hc 13 _ rfl
   have c14:wr.cell? ⟨b,o+i*16+14,none⟩=some (.string (str x2.k.a)):=hc 14 _ rfl
   have c15:wr.cell? ⟨b,o+i*16+15,none⟩=some (.string (str x2.k.b)):=hc 15 _ rfl
   have d0:wr.cell? ⟨b2,o2+i*16,none⟩=some (.int .i64 x2.k.kind):=hc2 0 _ rfl
   have d1:wr.cell? ⟨b2,o2+i*16+1,none⟩=some (.bool x2.op):=hc2 1 _ rfl
   have d2:wr.cell? ⟨b2,o2+i*16+2,none⟩=some (.int .i64 (oK x2.k.left)):=hc2 2 _ rfl
   have d3:wr.cell? ⟨b2,o2+i*16+3,none⟩=some (.string (str (oN x2.k.left))):=hc2 3 _ rfl
   have d4:wr.cell? ⟨b2,o2+i*16+4,none⟩=some (.int .i64 (oLo x2.k.left)):=hc2 4 _ rfl
   have d5:wr.cell? ⟨b2,o2+i*16+5,none⟩=some (.int .i64 (oHi x2.k.left)):=hc2 5 _ rfl
   have d6:wr.cell? ⟨b2,o2+i*16+6,none⟩=some (.slice b3 (oP x2.k.left).length q3):=hc2 6 _ rfl
   have d7:wr.cell? ⟨b2,o2+i*16+7,none⟩=some (.int .i64 (oK x2.k.right)):=hc2 7 _ rfl
   have d8:wr.cell? ⟨b2,o2+i*16+8,none⟩=some (.string (str (oN x2.k.right))):=hc2 8 _ rfl
   have d9:wr.cell? ⟨b2,o2+i*16+9,none⟩=some (.int .i64 (oLo x2.k.right)):=hc2 9 _ rfl
   have d10:wr.cell? ⟨b2,o2+i*16+10,none⟩=some (.int .i64 (oHi x2.k.right)):=hc2 10 _ rfl
   have d11:wr.cell? ⟨b2,o2+i*16+11,none⟩=some (.slice b4 (oP x2.k.right).length q4):=hc2 11 _ rfl
   have d12:wr.cell? ⟨b2,o2+i*16+12,none⟩=some (.slice b5 x2.k.roles.length q5):=hc2 12 _ rfl
   have d13:wr.cell? ⟨b2,o2+i*16+13,none⟩=some (.string (str x2.k.role)):=hc2 13 _ rfl
   have d14:wr.cell? ⟨b2,o2+i*16+14,none⟩=some (.string (str x2.k.a)):=hc2 14 _ rfl
   have d15:wr.cell? ⟨b2,o2+i*16+15,none⟩=some (.string (str x2.k.b)):=hc2 15 _ rfl
   have hi':(i:Int)<(len2:Int):=by omega
   clear hc hc2
   repeat((fail_if_success (with_reducible show Code.wp _ (Code.region 6 _ _) _ _ _));go_step)
   refine wp_region_still_tail 8 (by kernel_rfl) (by kernel_rfl) ?_
   simp only[List.take_succ_cons,List.take_zero,List.drop_succ_cons,List.drop_zero]
   repeat still_step
   refine wpStill_nil ?_
   change wpList _ _ _ _ _ wr.drew
   go_wp2_with fail
   refine(sameAx_c _ D x2 _ _ _ _ _ _ hav hav2).mono ?_
   rintro e w3 ⟨rfl,hc3⟩
   go_wp2_with fail
   go_roundg (gk-1)
   case measure=>omega
   case rel=>exact⟨i+1,by simp,by omega,ii⟩
  ·go_wp2_with fail
   go_ret
   have:=hG.toBel
   exact⟨rfl,Bel.c⟩
end Go.Proofs.YticgonfhjcaohaaGreatDoor
namespace Go.Proofs.YticgonfhjcaohaaGreatDoor
open Go.RowKit Go.VT _root_.Go.Proofs.Tryz
theorem ownCap{w:World}{D:Gh}{B:Nat}{e:TypeId}{s:Nat}{a:Option Addr}{n c n':Nat}{xs:List Value}(h:VT.Own w D B e s (.slice a n c) n' xs):n≤c∧c≤maxLen:=by
 rcases h.own.2 with⟨hv,_⟩|⟨g,cap,cur,hv,_,_,h1,h2,_⟩
 ·cases hv;exact⟨Nat.le_refl _,by simp[maxLen]⟩
 ·cases hv;exact⟨h1,h2⟩
def DocS(w:World)(D:Gh)(N:Nat)(bs:Bs)(e:Ending)(w':World):Prop:=
 ∃(l:List Ax)(D':Gh)(nb:Nat),Gro none w D w' D'∧(∀y∈l,VT.Good y)∧(tokD l).length≤bs.length∧(∀L,(∀x∈L,VT.Good x)→lexF N bs=(tokD L,true)→l=L∧nb=0)∧
  ((l.length≤1024∧∃(vl:Value)(ab:Option Addr)(cb:Nat),e=.returned (.tuple #[vl,.slice ab nb cb,.int .i64 0])∧AxL D' l vl)∨(1024<l.length∧e=.returned (.tuple #[.slice none 0 0,.slice none 0 0,.int .i64 2])))
structure DocL(w0:World)(D0 D1:Gh)(p:PC)(NN B2 B3 nb0:Nat)(k:Nat)(v2 v3:Value)(W:World):Prop where
 out:∃(D:Gh)(xs:List (Ax×Value×Value×Value))(nb:Nat)(ps:List (Int×Int)),Gr none w0 D0 W D∧Le D1 D∧PS W D p k∧PM W p∧VT.Own W D B2 34 16 v2 xs.length (xs.flatMap arow)∧(∀x∈xs,AV D x.1 x.2.1 x.2.2.1 x.2.2.2)∧
  VT.Own W D B3 50 2 v3 nb (ps.flatMap prow)∧xs.length≤k∧nb0≤nb∧nb≤nb0+k∧B2≤W.heap.size∧B3≤W.heap.size∧DocI NN p.toks k (xs.map (·.1)) (nb-nb0)
theorem document_c(w:World)(D:Gh)(N NN:Nat)(bs:Bs)(a:Option Addr)(c:Nat)[hk:Keeps D w][hTB:TB D](hs:bs≠[]→∃b o,a=some ⟨b,o,none⟩∧Byt D b o bs)(hN:bs.length<N)(hl6:bs.length≤65536)(hc:bs.length≤c)(hcm:c≤9223372036854775807)(hNN:200≤NN)(hNN2:2*(bs.length+1)+2≤NN):
  Calls prog 5 #[.slice a bs.length c] w (DocS w D N bs):=by
 have HT:=hid (tokens_c w D N bs a c hs hN hl6 hc hcm)
 obtain⟨nbs,hnbs⟩:∃n,n=bs.length:=⟨_,rfl⟩
 rw[←hnbs]at hl6 hNN2
 rw[←hnbs]at HT⊢
 have HNB:=hid hnbs
 clear hnbs hs hN hc hcm
 go_enter func5,ntmps5
 go_wp2_with fail
 refine HT.out.mono ?_
 clear HT
 rintro e w1 ⟨D1,vt,vb,nb,ps,ts,rfl,hg1,hst,hsb,hnb,hLI⟩
 obtain⟨at',ct,rfl,hct1,hct2⟩:=SlN.form hst
 obtain⟨b,o,rfl⟩:∃b o,at'=some ⟨b,o,none⟩:=by
  obtain⟨_,a',c',hv,h1,h2,h3,h4⟩:=hst
  cases hv
  obtain⟨b,o,ha,_⟩:=h4 (by omega)
  exact⟨b,o,ha⟩
 obtain⟨ab,cb,rfl,hcb1,hcb2⟩:=SlN.form hsb
 have:=hg1.keeps
 have hle1:=hg1.le
 have hts:=hLI.hn
 rw[←HNB.out]at hts
 have HLI:=hid hLI
 clear hLI
 obtain⟨nt,hnt⟩:∃n,n=ts.length+1:=⟨_,rfl⟩
 rw[←hnt]at hst hct1⊢
 have HNT:=hid hnt
 clear hnt
 have hnt6:nt≤65537:=by have:=HNT.out;omega
 dsimp only
 go_wp2_with fail
 refine(clone_c w1 D1 nb _ ps hsb hnb).mono ?_
 rintro e w2 ⟨v3,rfl,hO3,hc2⟩
 obtain⟨a3,c3,rfl⟩:=ownForm hO3
 have:Keeps D1 w2:=ii
 go_wp2_with fail
 refine(newParser_c w2 D1 (some ⟨b,o,none⟩) nt ct).mono ?_
 rintro e w4 ⟨g,m,es,rfl,hBx,hMB,hne,hge,hes,hc4⟩
 have hs1:=hg1.bl.size
 have hs2:=hc2.size
 have hs4:=hc4.size
 have hO34:VT.Own w4 D1 w1.heap.size 50 2 (.slice a3 nb c3) nb (ps.flatMap prow):=ii
 have hG4:Gr none w D w4 D1:=ii
 obtain⟨p,hp⟩:∃p:PC,p=⟨g,b,o,ct,.map (some m),ts++[⟨4,[],bs.length⟩]⟩:=⟨_,rfl⟩
 have hpl:p.toks.length=nt:=by rw[hp,HNT.out];simp
 have hPS:PS w4 D1 p 0:=by
  refine⟨?_,by rw[hpl,HNT.out];omega⟩
  rw[hpl,hp];exact hBx
 have hPM:PM w4 p:=by rw[hp];exact⟨m,es,rfl,hMB,by rw[hes];rfl,hne⟩
 have hTS:TS D1 p:=by rw[hp];exact ts_of (by rw[←HNT.out];exact hst) HLI.out.ok (by omega)
 have hpg:p.g=g:=by rw[hp]
 have hptr:(Value.pointer (some ⟨g,0,none⟩))=p.ptr:=by rw[hp]
 have HTK:=hid (show p.toks=ts++[⟨4,[],bs.length⟩]by rw[hp])
 have hD0:DocL w D D1 p NN w4.heap.size w1.heap.size nb 0 (.slice none 0 0) (.slice a3 nb c3) w4:=
  ⟨D1,[],nb,ps,hG4,⟨fun _ _ _ h=>h⟩,hPS,hPM,Own.nil _ _ _ _,by simp,hO34,by simp,Nat.le_refl _,by omega,Nat.le_refl _,by omega,by rw[Nat.sub_self];exact DocI.start _ _⟩
 have hgw:w.heap.size≤p.g:=by rw[hpg];omega
 dsimp only
 rw[hptr]
 have HPL:=hid hpl
 have HP:=hid hp
 clear hBx hMB hPS hPM hst hsb hO3 hO34 hes hp hpg hptr hpl hG4 hc4 hc2 hge hne
 repeat((fail_if_success (with_reducible show Code.wp _ (Code.loop _) _ _ _));go_step)
 go_loopg [2,3] nt (fun gk v2 v3 wr=>∃k,gk+k=nt∧Hid (DocL w D D1 p NN w4.heap.size w1.heap.size nb k v2 v3 wr))
 case atStart=>exact⟨0,by omega,hid hD0⟩
 case round=>
  clear hD0
  obtain⟨k,hgk,HD⟩:=hrel
  obtain⟨D',xs,nb',ps',gW,leD,pW,mW,o2,hav,o3,hxk,hnb1,hnb2,hB2,hB3,hI⟩:=HD.out
  have:=gW.keeps
  have:TS D' p:=ii
  have:TB D':=by have:Le D D':=⟨gW.le⟩;exact ii
  have hkl:=pW.lt
  obtain⟨a2,c2,rfl⟩:=ownForm o2
  obtain⟨a5,c5,rfl⟩:=ownForm o3
  obtain⟨nx,hnx⟩:∃n,n=xs.length:=⟨_,rfl⟩
  have HNX:=hid hnx
  rw[←hnx]at o2 hxk⊢
  clear hnx
  have hpl6:p.toks.length≤65537:=by rw[HPL.out];exact hnt6
  go_wp2_with fail
  refine(token_c wr D' p k).mono ?_
  rintro e w5 ⟨⟨t,ht,rfl⟩,hc5⟩
  have hlast:=(hTS.last k t ht).2
  have HTT:=hid ht
  clear ht
  have f50:=fld54_0
  have gW5:Gr none w D w5 D':=ii
  have pW5:PS w5 D' p k:=ii
  have mW5:PM w5 p:=ii
  have o25:VT.Own w5 D' w4.heap.size 34 16 (.slice a2 nx c2) nx (xs.flatMap arow):=ii
  have o35:VT.Own w5 D' w1.heap.size 50 2 (.slice a5 nb' c5) nb' (ps'.flatMap prow):=ii
  have hs5:=hc5.size
  have:=gW5.keeps
  have HI:=hid hI
  clear hI HD gW pW mW o2 o3
  dsimp only
  by_cases h4:t.kind=4
  ·have hq:(t.kind != 4)=false:=by simpa using h4
   have hk1:=hlast.1 h4
   have hfull:∀L,(∀x∈L,VT.Good x)→lexF N bs=(tokD L,true)→xs.map (·.1)=L∧nb'=0:=fun L hL hlx=>by
    obtain⟨f1,f2⟩:=HLI.out.fin
    rw[hlx]at f1 f2
    have hz:=f2 rfl
    have hkt:p.toks.map kt=tokD L++[(4,[])]:=by
     rw[HTK.out,List.map_append,←f1];rfl
    obtain⟨q1,q2⟩:=HI.out.done HTT.out h4 (L.length+1) L (doc_tok NN hNN L p.toks hL hkt _ (by omega))
    exact⟨q2.symm,by omega⟩
   have HFU:=hid hfull
   have htok:(tokD (xs.map (·.1))).length≤bs.length:=by
    have h1:=HI.out.tok
    rw[List.length_drop,HPL.out]at h1
    rw[HPL.out]at hk1
    have:=HNT.out
    have:=HNB.out
    omega
   have HTO:=hid htok
   have hnbc:nb'≤c5∧c5≤maxLen:=ownCap o35
   obtain⟨hnbc,hnbm⟩:=hnbc
   have hc5m:(c5:Int)≤9223372036854775807:=by unfold maxLen at hnbm;omega
   clear hlast h4 hfull htok hnbm
   by_cases hbig:1024<nx
   ·have hz:decide ((nx:Int)>1024)=true:=decide_eq_true (by omega)
    have hz2:decide ((1024:Int)<nx)=true:=decide_eq_true (by omega)
    go_wp2_with fail
    refine bodyPost_ret (v:=.tuple #[.slice none 0 0,.slice none 0 0,.int .i64 2]) (by simp[results,results5,go_sem]) rfl ?_
    exact⟨xs.map (·.1),D',nb',gW5.g,HI.out.good,HTO.out,HFU.out,.inr ⟨by rw[List.length_map,←HNX.out];exact hbig,rfl⟩⟩
   ·have hz:decide ((nx:Int)>1024)=false:=decide_eq_false (by omega)
    have hz2:decide ((1024:Int)<nx)=false:=decide_eq_false (by omega)
    have hsrt:=sortP_c w5 D' w1.heap.size nb' _ ps' o35 (by omega)
    have HSR:=hid hsrt
    clear hsrt
    go_wp2_with fail
    refine HSR.out.mono ?_
    rintro e w6 ⟨rfl,ps2,o36,hc6⟩
    have:=o35.off
    have:=o35.sub none (a:=w) (by omega)
    have hap:=ownApartT (v:=.slice a2 nx c2) o25 o35 (by decide)
    have gW6:Gr none w D w6 D':=Gr.call _ none w w5 w6 D D'
    have o26:VT.Own w6 D' w4.heap.size 34 16 (.slice a2 nx c2) nx (xs.flatMap arow):=Own.call (w:=w5) _
    have hs6:=hc6.size
    have fin:∀q,∃D7,Gro none w D (w6.drewN q) D7∧AxL D7 (xs.map (·.1)) (.slice a2 nx c2):=fun q=>by
     have:=gW6.keeps
     obtain⟨D7,hP7,hs7⟩:=(ii:VT.Own (w6.drewN q) D' w4.heap.size 34 16 (.slice a2 nx c2) nx (xs.flatMap arow)).pub
     have:=hP7.le
     have g7:=hP7.gr none w D ii (fun k hk=>by have:=(o26.lt k hk).1;omega)
     exact⟨D7,g7.g,xs,rfl,by rw[List.length_map,←HNX.out];exact hs7,fun x hx=>(hav x hx).le⟩
    have HFI:=hid fin
    clear fin o26 gW6 hap
    go_wp2_with fail
    have close:∀q(nn:Nat),nn=min nb' 64→DocS w D N bs (.returned (.tuple #[.slice a2 nx c2,.slice a5 nn c5,.int .i64 0])) (w6.drewN q):=fun q nn hn=>by
     obtain⟨D7,g7,hx7⟩:=HFI.out q
     refine⟨xs.map (·.1),D7,nn,g7,HI.out.good,HTO.out,fun L h1 h2=>?_,.inl ⟨by rw[List.length_map,←HNX.out];omega,_,_,_,rfl,hx7⟩⟩
     obtain⟨q1,q2⟩:=HFU.out L h1 h2
     exact⟨q1,by rw[hn,q2];rfl⟩
    have HCL:=hid close
    clear close
    by_cases hle:nb'≤64
    ·have hm:(nb':Int)≤64:=by omega
     have hnc:(nb':Int)≤c5:=by omega
     go_quiet (fail)
     go_wp2_with fail
     refine bodyPost_ret (v:=.tuple #[.slice a2 nx c2,.slice a5 nb' c5,.int .i64 0]) (by simp[results,results5,go_sem];omega) rfl ?_
     exact HCL.out _ nb' (by omega)
    ·have hm:¬((nb':Int)≤64):=by omega
     have hm2:(64:Int)<nb':=by omega
     have hnc:(64:Int)≤c5:=by omega
     go_quiet (fail)
     go_wp2_with fail
     refine bodyPost_ret (v:=.tuple #[.slice a2 nx c2,.slice a5 64 c5,.int .i64 0]) (by simp[results,results5,go_sem];omega) rfl ?_
     exact HCL.out _ 64 (by omega)
  ·have hq:(t.kind != 4)=true:=by simpa using h4
   have hk1:k+1<p.toks.length:=by
    have h9:¬k+1=p.toks.length:=fun e=>h4 (hlast.2 e)
    omega
   have H4:=hid h4
   clear hlast h4
   go_wp2_with fail
   obtain⟨R,hR⟩:∃R,R=pItemT NN (p.ts k):=⟨_,rfl⟩
   have HR:=hid hR
   clear hR
   refine((item_c NN w5 D' p k (by rw[HPL.out,HNT.out];have:=HNB.out;omega) hk1).mono (fun e w' q=>(show ItemS w5 D' p k R e w' by rw[HR.out];exact q))).mono ?_
   rintro e w6 ⟨D6,k6,hg6,pW6,hkk,hm⟩
   have:=hg6.keeps
   have hle6:=hg6.le
   have:New w p.g:=⟨hgw⟩
   have ap2:Apart (.slice a2 nx c2) (some p.g):=neApart (ownNeT o25 pW5.box (by decide))
   have ap3:Apart (.slice a5 nb' c5) (some p.g):=neApart (ownNeT o35 pW5.box (by decide))
   have gW6:Gr none w D w6 D6:=ii
   have hcl6:Cll (some p.g) w5 w6:=⟨hg6.bl⟩
   have mW6:PM w6 p:=ii
   have o26:VT.Own w6 D6 w4.heap.size 34 16 (.slice a2 nx c2) nx (xs.flatMap arow):=ii
   have o36:VT.Own w6 D6 w1.heap.size 50 2 (.slice a5 nb' c5) nb' (ps'.flatMap prow):=ii
   have hs6:=hg6.bl.size
   rcases R with _|⟨y,r⟩
   ·obtain⟨f,cc,rfl⟩:=hm
    have hone:=axz_one
    dsimp only
    have b7:Box ((w6.alloc (.cells axz 34)).alloc (.cells #[.int .i64 0,.int .i64 0] 56)) D6 w6.heap.size 34 axz:=ii
    have b8:Box ((w6.alloc (.cells axz 34)).alloc (.cells #[.int .i64 0,.int .i64 0] 56)) D6 (w6.heap.size+1) 56 #[.int .i64 0,.int .i64 0]:=by
     have:=Box.new (w6.alloc (.cells axz 34)) D6 56 #[.int .i64 0,.int .i64 0]
     rw[World.size_alloc]at this;exact this
    have:=b7.off
    have:=b8.off
    have:New w w6.heap.size:=⟨gW6.bl.size⟩
    have:New w (w6.heap.size+1):=⟨Nat.le_trans gW6.bl.size (by omega)⟩
    have:NeX (w6.heap.size+1) (some w6.heap.size):=⟨fun e=>by have:=Option.some.inj e;omega⟩
    have:NeX w6.heap.size (some p.g):=⟨fun e=>by have:=Option.some.inj e;have:=pW6.box.lt;omega⟩
    have:NeX p.g (some w6.heap.size):=⟨fun e=>by have:=Option.some.inj e;have:=pW6.box.lt;omega⟩
    have:NeX (w6.heap.size+1) (some p.g):=⟨fun e=>by have:=Option.some.inj e;have:=pW6.box.lt;omega⟩
    have aq2:Apart (.slice a2 nx c2) (some w6.heap.size):=⟨fun k hk e=>by have:=(o26.lt k hk).2;have:=Option.some.inj e;omega⟩
    have aq3:Apart (.slice a5 nb' c5) (some w6.heap.size):=⟨fun k hk e=>by have:=(o36.lt k hk).2;have:=Option.some.inj e;omega⟩
    obtain⟨W7,hW7⟩:∃W,W=((w6.alloc (.cells axz 34)).alloc (.cells #[.int .i64 0,.int .i64 0] 56)).setRow w6.heap.size axz:=⟨_,rfl⟩
    have e7:Box W7 D6 w6.heap.size 34 axz:=hW7▸ii
    have e8:Box W7 D6 (w6.heap.size+1) 56 #[.int .i64 0,.int .i64 0]:=hW7▸ii
    have g7:Gr none w D W7 D6:=hW7▸ii
    have p7:PS W7 D6 p k6:=by
     refine⟨?_,pW6.lt⟩
     have:=pW6.box
     rw[hW7];exact ii
    have m7:PM W7 p:=hW7▸ii
    have o27:VT.Own W7 D6 w4.heap.size 34 16 (.slice a2 nx c2) nx (xs.flatMap arow):=hW7▸ii
    have o37:VT.Own W7 D6 w1.heap.size 50 2 (.slice a5 nb' c5) nb' (ps'.flatMap prow):=hW7▸ii
    have z7:w6.heap.size+2≤W7.heap.size:=by rw[hW7];simp
    have HW7:=hid hW7
    have b7h:=b7.heap
    clear hW7 b7 b8
    have x80:=e8.held (i:=0) rfl
    have x81:=e8.held (i:=1) rfl
    have l8:=e8.lt
    have:=e8.off
    obtain⟨W8,hW8⟩:∃W,W=(W7.setCell ⟨w6.heap.size+1,0,none⟩ (.int .i64 f)).setCell ⟨w6.heap.size+1,1,none⟩ (.int .i64 cc):=⟨_,rfl⟩
    have i8:Box W8 D6 (w6.heap.size+1) 56 #[.int .i64 f,.int .i64 cc]:=by
     have a1:=@Box.set_ W7 D6 (w6.heap.size+1) 56 _ 0 (.int .i64 f) e8
     have a2:=@Box.set_ _ D6 (w6.heap.size+1) 56 _ 1 (.int .i64 cc) a1
     rw[hW8];simpa using a2
    have i7:Box W8 D6 w6.heap.size 34 axz:=by rw[hW8];exact Box.far (h:=Box.far (h:=e7) (by omega) _) (by omega) _
    have g8:Gr none w D W8 D6:=hW8▸ii
    have p8:PS W8 D6 p k6:=hW8▸ii
    have m8:PM W8 p:=hW8▸ii
    have o28:VT.Own W8 D6 w4.heap.size 34 16 (.slice a2 nx c2) nx (xs.flatMap arow):=by
     rw[hW8]
     exact Own.far (h:=Own.far (h:=o27) (fun e=>by have:=(o26.lt _ e).2;omega) _) (fun e=>by have:=(o26.lt _ e).2;omega) _
    have o38:VT.Own W8 D6 w1.heap.size 50 2 (.slice a5 nb' c5) nb' (ps'.flatMap prow):=by
     rw[hW8]
     exact Own.far (h:=Own.far (h:=o37) (fun e=>by have:=(o36.lt _ e).2;omega) _) (fun e=>by have:=(o36.lt _ e).2;omega) _
    have z8:w6.heap.size+2≤W8.heap.size:=by rw[hW8];simpa[World.setCell]using z7
    have HW8:=hid hW8
    clear hW8 g7 p7 m7 o27 o37 e7 e8 o26 o36 aq2 aq3 pW6 mW6 gW6
    have:=g8.keeps
    go_wp2_with (first
     |((with_reducible show wpList _ _ _ ((⟨_,.store 34 _ _,_,_,_,_⟩:Oper)::_) _ _);refine wpList_storeTo rfl 34 _ _ rfl rfl w6.heap.size axz rfl rfl 34 axz b7h hz34 rfl hone ?_;rw[←HW7.out];refine stopL ?_))
    unfold Stop
    clear b7h
    have q80:=i8.held (i:=0) rfl
    have q81:=i8.held (i:=1) rfl
    have hNx:Box (W8.alloc (.cells #[.int .i64 f,.int .i64 cc] 50)) D6 W8.heap.size 50 #[.int .i64 f,.int .i64 cc]:=ii
    have hOx:VT.Own (W8.alloc (.cells #[.int .i64 f,.int .i64 cc] 50)) D6 w1.heap.size 50 2 (.slice a5 nb' c5) nb' (ps'.flatMap prow):=ii
    have h1x:∀u,u∈(#[.int .i64 f,.int .i64 cc]:Array Value).toList→u.oneCell'=true:=by
     intro u hu
     simp only[List.mem_cons,List.not_mem_nil,or_false]at hu
     rcases hu with rfl|rfl<;>rfl
    go_wp2_with (first
     |((with_reducible show wpList _ _ _ ((⟨_,.load 56 _,_,_,_,_⟩:Oper)::_) _ _);rw[←HW8.out];refine stopL ?_))
    unfold Stop
    go_wp2_with (((with_reducible show wpList _ _ _ ((⟨some 37,_,_,_,_,_⟩:Oper)::_) _ _);refine stopL ?_))
    unfold Stop
    refine wp_append_1 (v:=.slice a5 nb' c5) rfl (.tmp 34) (.tmp 36) 25 rfl underlying25 el50 rfl hOx rfl hNx rfl h1x (by unfold maxLen;omega) (by omega) (by simp;omega) ?_
    intro v9 w9 o39 hc9
    obtain⟨a9,c9,rfl⟩:=ownForm o39
    have hc9s:=hc9.size
    have:NeX p.g (Value.slice a5 nb' c5).ownBlock:=ownNeT o38 p8.box (by decide)
    have:=o38.off
    have:=hOx.off
    have:=o38.sub none (a:=w) (by omega)
    have hap:=ownApartT (v:=.slice a2 nx c2) o28 o38 (by decide)
    have gf:Gr none w D w9 D6:=Gr.call _ none w (W8.alloc (.cells #[.int .i64 f,.int .i64 cc] 50)) w9 D D6
    have pf:PS w9 D6 p k6:=PS.call _ _ _ _ _ (Value.slice a5 nb' c5).ownBlock
    have mf:PM w9 p:=by
     obtain⟨m',es',q1,q2,q3,q4⟩:=m8.out
     have hne':NeX m' (Value.slice a5 nb' c5).ownBlock:=⟨fun e=>by
      obtain⟨c',hh⟩:=q2.out
      rcases o38.own.2 with⟨hv,_⟩|⟨g',cap',cur',hv,hg',hh',_⟩
      ·rw[hv]at e;cases e
      ·rw[hv]at e
       simp only[Value.ownBlock,Option.some.injEq]at e
       subst e
       rw[hh]at hh';cases hh'⟩
     exact⟨m',es',q1,MB.call (w:=W8.alloc (.cells #[.int .i64 f,.int .i64 cc] 50)) _,q3,q4⟩
    have o2f:VT.Own w9 D6 w4.heap.size 34 16 (.slice a2 nx c2) nx (xs.flatMap arow):=Own.call (w:=W8.alloc (.cells #[.int .i64 f,.int .i64 cc] 50)) _
    have hIN:=HI.out.no HTT.out H4.out (show pItemT NN (p.ts k)=none by rw[←HR.out]) (Nat.le_of_lt hkk) (nb'+1-nb)
    have fin:DocL w D D1 p NN w4.heap.size w1.heap.size nb k6 (.slice a2 nx c2) (.slice a9 (nb'+1) c9) w9:=by
     refine⟨D6,xs,nb'+1,ps'++[(f,cc)],gf,⟨fun b o v e=>hle6.out _ _ _ (leD.out _ _ _ e)⟩,pf,mf,by rw[←HNX.out];exact o2f,fun x hx=>(hav x hx).le,?_,by rw[←HNX.out];omega,by omega,by omega,by simp at hc9s;omega,by simp at hc9s;omega,hIN⟩
     have e9:(ps'++[(f,cc)]).flatMap prow=ps'.flatMap prow++[.int .i64 f,.int .i64 cc]:=by simp[prow]
     rw[e9];exact o39
    have HF:=hid fin
    have pfl:=pf.lt
    clear fin hIN
    go_wp2_with fail
    go_roundg (nt-k6)
    case measure=>rw[HPL.out]at pfl;omega
    case rel=>exact⟨k6,by rw[HPL.out]at pfl;omega,HF⟩
   ·obtain⟨hr,lp,rp,rl,f,rfl,hay⟩:=hm
    obtain⟨n10,hn10⟩:∃n,n=(oP y.k.left).length:=⟨_,rfl⟩
    obtain⟨n11,hn11⟩:∃n,n=(oP y.k.right).length:=⟨_,rfl⟩
    obtain⟨n12,hn12⟩:∃n,n=y.k.roles.length:=⟨_,rfl⟩
    obtain⟨a10,c10,rfl,_,_⟩:=PV.form hay.l
    obtain⟨a11,c11,rfl,_,_⟩:=PV.form hay.r
    obtain⟨a12,c12,rfl,_,_⟩:=SlN.form hay.s
    rw[←hn10,←hn11,←hn12]at hay⊢
    clear hn10 hn11 hn12
    have hone:(axc y (.slice a10 n10 c10) (.slice a11 n11 c11) (.slice a12 n12 c12)).all (·.oneCell')=true:=axc_one _ _ _ _ _ _ _ _ _ _
    dsimp only
    have b7:Box ((w6.alloc (.cells axz 34)).alloc (.cells #[.int .i64 0,.int .i64 0] 56)) D6 w6.heap.size 34 axz:=ii
    have b8:Box ((w6.alloc (.cells axz 34)).alloc (.cells #[.int .i64 0,.int .i64 0] 56)) D6 (w6.heap.size+1) 56 #[.int .i64 0,.int .i64 0]:=by
     have:=Box.new (w6.alloc (.cells axz 34)) D6 56 #[.int .i64 0,.int .i64 0]
     rw[World.size_alloc]at this;exact this
    have:=b7.off
    have:=b8.off
    have:New w w6.heap.size:=⟨gW6.bl.size⟩
    have:New w (w6.heap.size+1):=⟨Nat.le_trans gW6.bl.size (by omega)⟩
    have:NeX (w6.heap.size+1) (some w6.heap.size):=⟨fun e=>by have:=Option.some.inj e;omega⟩
    have:NeX w6.heap.size (some p.g):=⟨fun e=>by have:=Option.some.inj e;have:=pW6.box.lt;omega⟩
    have:NeX p.g (some w6.heap.size):=⟨fun e=>by have:=Option.some.inj e;have:=pW6.box.lt;omega⟩
    have:NeX (w6.heap.size+1) (some p.g):=⟨fun e=>by have:=Option.some.inj e;have:=pW6.box.lt;omega⟩
    have aq2:Apart (.slice a2 nx c2) (some w6.heap.size):=⟨fun k hk e=>by have:=(o26.lt k hk).2;have:=Option.some.inj e;omega⟩
    have aq3:Apart (.slice a5 nb' c5) (some w6.heap.size):=⟨fun k hk e=>by have:=(o36.lt k hk).2;have:=Option.some.inj e;omega⟩
    obtain⟨W7,hW7⟩:∃W,W=((w6.alloc (.cells axz 34)).alloc (.cells #[.int .i64 0,.int .i64 0] 56)).setRow w6.heap.size (axc y (.slice a10 n10 c10) (.slice a11 n11 c11) (.slice a12 n12 c12)):=⟨_,rfl⟩
    have e7:Box W7 D6 w6.heap.size 34 (axc y (.slice a10 n10 c10) (.slice a11 n11 c11) (.slice a12 n12 c12)):=hW7▸ii
    have e8:Box W7 D6 (w6.heap.size+1) 56 #[.int .i64 0,.int .i64 0]:=hW7▸ii
    have g7:Gr none w D W7 D6:=hW7▸ii
    have p7:PS W7 D6 p k6:=by
     refine⟨?_,pW6.lt⟩
     have:=pW6.box
     rw[hW7];exact ii
    have m7:PM W7 p:=hW7▸ii
    have o27:VT.Own W7 D6 w4.heap.size 34 16 (.slice a2 nx c2) nx (xs.flatMap arow):=hW7▸ii
    have o37:VT.Own W7 D6 w1.heap.size 50 2 (.slice a5 nb' c5) nb' (ps'.flatMap prow):=hW7▸ii
    have z7:w6.heap.size+2≤W7.heap.size:=by rw[hW7];simp
    have HW7:=hid hW7
    have b7h:=b7.heap
    clear hW7 b7 b8
    have x80:=e8.held (i:=0) rfl
    have x81:=e8.held (i:=1) rfl
    have l8:=e8.lt
    have:=e8.off
    obtain⟨W8,hW8⟩:∃W,W=(W7.setCell ⟨w6.heap.size+1,0,none⟩ (.int .i64 f)).setCell ⟨w6.heap.size+1,1,none⟩ (.int .i64 0):=⟨_,rfl⟩
    have i8:Box W8 D6 (w6.heap.size+1) 56 #[.int .i64 f,.int .i64 0]:=by
     have a1:=@Box.set_ W7 D6 (w6.heap.size+1) 56 _ 0 (.int .i64 f) e8
     have a2:=@Box.set_ _ D6 (w6.heap.size+1) 56 _ 1 (.int .i64 0) a1
     rw[hW8];simpa using a2
    have i7:Box W8 D6 w6.heap.size 34 (axc y (.slice a10 n10 c10) (.slice a11 n11 c11) (.slice a12 n12 c12)):=by rw[hW8];exact Box.far (h:=Box.far (h:=e7) (by omega) _) (by omega) _
    have g8:Gr none w D W8 D6:=hW8▸ii
    have p8:PS W8 D6 p k6:=hW8▸ii
    have m8:PM W8 p:=hW8▸ii
    have o28:VT.Own W8 D6 w4.heap.size 34 16 (.slice a2 nx c2) nx (xs.flatMap arow):=by
     rw[hW8]
     exact Own.far (h:=Own.far (h:=o27) (fun e=>by have:=(o26.lt _ e).2;omega) _) (fun e=>by have:=(o26.lt _ e).2;omega) _
    have o38:VT.Own W8 D6 w1.heap.size 50 2 (.slice a5 nb' c5) nb' (ps'.flatMap prow):=by
     rw[hW8]
     exact Own.far (h:=Own.far (h:=o37) (fun e=>by have:=(o36.lt _ e).2;omega) _) (fun e=>by have:=(o36.lt _ e).2;omega) _
    have z8:w6.heap.size+2≤W8.heap.size:=by rw[hW8];simpa[World.setCell]using z7
    have HW8:=hid hW8
    clear hW8 g7 p7 m7 o27 o37 e7 e8 o26 o36 aq2 aq3 pW6 mW6 gW6
    have:=g8.keeps
    go_wp2_with (first
     |((with_reducible show wpList _ _ _ ((⟨_,.store 34 _ _,_,_,_,_⟩:Oper)::_) _ _);refine wpList_storeTo rfl 34 _ _ rfl rfl w6.heap.size (axc y (.slice a10 n10 c10) (.slice a11 n11 c11) (.slice a12 n12 c12)) rfl rfl 34 axz b7h hz34 rfl hone ?_;rw[←HW7.out];refine stopL ?_))
    unfold Stop
    clear b7h
    have i7h:=i7.heap
    have q80:=i8.held (i:=0) rfl
    have q81:=i8.held (i:=1) rfl
    have hNx:Box (W8.alloc (.cells (axc y (.slice a10 n10 c10) (.slice a11 n11 c11) (.slice a12 n12 c12)) 34)) D6 W8.heap.size 34 (axc y (.slice a10 n10 c10) (.slice a11 n11 c11) (.slice a12 n12 c12)):=ii
    have hOx:VT.Own (W8.alloc (.cells (axc y (.slice a10 n10 c10) (.slice a11 n11 c11) (.slice a12 n12 c12)) 34)) D6 w4.heap.size 34 16 (.slice a2 nx c2) nx (xs.flatMap arow):=ii
    have h1x:∀u,u∈(axc y (.slice a10 n10 c10) (.slice a11 n11 c11) (.slice a12 n12 c12)).toList→u.oneCell'=true:=fun u hu=>Array.all_eq_true'.1 hone u (by simpa using hu)
    go_wp2_with (first
     |((with_reducible show wpList _ _ _ ((⟨_,.load 34 _,_,_,_,_⟩:Oper)::_) _ _);rw[←HW8.out];((with_reducible show wpList _ _ _ ((⟨_,.load 34 _,_,_,_,_⟩:Oper)::_) _ _);refine wpList_load_row rfl 34 _ rfl (w6.heap.size) rfl (34) _ (0,0) _ (i7h) underlying34 rfl (hz34) ?_))
     |((with_reducible show wpList _ _ _ ((⟨some 41,_,_,_,_,_⟩:Oper)::_) _ _);refine stopL ?_))
    unfold Stop
    refine wp_append_1 (v:=.slice a2 nx c2) rfl (.tmp 38) (.tmp 40) 24 rfl underlying24 el34 rfl hOx rfl hNx rfl h1x (by unfold maxLen;omega) (by omega) (by simp;omega) ?_
    intro v9 w9 o29 hc9
    obtain⟨a9,c9,rfl⟩:=ownForm o29
    have hc9s:=hc9.size
    have:NeX p.g (Value.slice a2 nx c2).ownBlock:=ownNeT o28 p8.box (by decide)
    have:=o28.off
    have:=hOx.off
    have:=o28.sub none (a:=w) (by omega)
    have hap:=ownApartT (v:=.slice a5 nb' c5) o38 o28 (by decide)
    have gf:Gr none w D w9 D6:=Gr.call _ none w (W8.alloc (.cells (axc y (.slice a10 n10 c10) (.slice a11 n11 c11) (.slice a12 n12 c12)) 34)) w9 D D6
    have pf:PS w9 D6 p k6:=PS.call _ _ _ _ _ (Value.slice a2 nx c2).ownBlock
    have mf:PM w9 p:=by
     obtain⟨m',es',q1,q2,q3,q4⟩:=m8.out
     have hne':NeX m' (Value.slice a2 nx c2).ownBlock:=⟨fun e=>by
      obtain⟨c',hh⟩:=q2.out
      rcases o28.own.2 with⟨hv,_⟩|⟨g',cap',cur',hv,hg',hh',_⟩
      ·rw[hv]at e;cases e
      ·rw[hv]at e
       simp only[Value.ownBlock,Option.some.injEq]at e
       subst e
       rw[hh]at hh';cases hh'⟩
     exact⟨m',es',q1,MB.call (w:=W8.alloc (.cells (axc y (.slice a10 n10 c10) (.slice a11 n11 c11) (.slice a12 n12 c12)) 34)) _,q3,q4⟩
    have o3f:VT.Own w9 D6 w1.heap.size 50 2 (.slice a5 nb' c5) nb' (ps'.flatMap prow):=Own.call (w:=W8.alloc (.cells (axc y (.slice a10 n10 c10) (.slice a11 n11 c11) (.slice a12 n12 c12)) 34)) _
    have hIN:=HI.out.yes HTT.out H4.out (y:=y) (k':=k6) (show pItemT NN (p.ts k)=_ by rw[←HR.out,hr];rfl)
    have fin:DocL w D D1 p NN w4.heap.size w1.heap.size nb k6 (.slice a9 (nx+1) c9) (.slice a5 nb' c5) w9:=by
     refine⟨D6,xs++[(y,.slice a10 n10 c10,.slice a11 n11 c11,.slice a12 n12 c12)],nb',ps',gf,⟨fun b o v e=>hle6.out _ _ _ (leD.out _ _ _ e)⟩,pf,mf,?_,?_,o3f,by rw[List.length_append,←HNX.out];simp;omega,by omega,by omega,by simp at hc9s;omega,by simp at hc9s;omega,by rw[List.map_append];exact hIN⟩
     ·have e9:(xs++[(y,Value.slice a10 n10 c10,Value.slice a11 n11 c11,Value.slice a12 n12 c12)]).flatMap arow=xs.flatMap arow++(axc y (.slice a10 n10 c10) (.slice a11 n11 c11) (.slice a12 n12 c12)).toList:=by rw[List.flatMap_append];rfl
      rw[e9,List.length_append,←HNX.out];exact o29
     ·intro x hx
      rcases List.mem_append.1 hx with hx|hx
      ·exact(hav x hx).le
      ·rw[List.mem_singleton.1 hx];exact hay
    have HF:=hid fin
    have pfl:=pf.lt
    clear fin hIN
    go_wp2_with fail
    go_roundg (nt-k6)
    case measure=>rw[HPL.out]at pfl;omega
    case rel=>exact⟨k6,by rw[HPL.out]at pfl;omega,HF⟩
end Go.Proofs.YticgonfhjcaohaaGreatDoor
