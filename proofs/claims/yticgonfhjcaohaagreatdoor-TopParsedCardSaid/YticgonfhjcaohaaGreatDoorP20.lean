/- TopParsed, part 20. -/
import Derived.Test.YticgonfhjcaohaaGreatDoorP18
set_option maxRecDepth 100000
set_option maxHeartbeats 32000000
namespace Go.Proofs.YticgonfhjcaohaaGreatDoor
open Go.RowKit Go.VT _root_.Go.Proofs.Tryz
abbrev czero:Value:=.agg #[.int .i64 0,.string ⟨#[]⟩,.int .i64 0,.int .i64 0,.slice none 0 0]
def TRet(w:World)(D:Gh)(R:Option C)(e:Ending)(w':World):Prop:=match R with
 |some x=>∃p D',e=.returned (.tuple #[cv x p,.int .i64 0])∧PV D' x.parts p∧Gro none w D w' D'
 |none=>e=.returned (.tuple #[czero,.int .i64 2])∧Cll none w w'
def TidyS(N:Nat):Prop:=∀(w:World)(D:Gh)(c:C)(a:Option Addr)(n m:Nat),c.size≤N→c.size≤1000→PV D c.parts (.slice a n m)→∀[Keeps D w],
 Calls prog 20 #[cv c (.slice a n m)] w (TRet w D (tidyC c))
theorem tidyL_cons(c:C)(r:List C):tidyL (c::r)=(tidyC c).bind fun x=>(tidyL r).map fun q=>x::q:=by rw[tidyL]
theorem tidyL_drop{l:List C}{i:Nat}{c:C}(h:l[i]? =some c):tidyL (l.drop i)=(tidyC c).bind fun x=>(tidyL (l.drop (i+1))).map fun q=>x::q:=by
 obtain⟨hl,rfl⟩:=List.getElem?_eq_some_iff.1 h
 rw[List.drop_eq_getElem_cons hl,tidyL_cons]
theorem ccs_one(a b d:Int)(s:ByteArray)(e:Option Addr)(f g:Nat):(#[.int .i64 a,.string s,.int .i64 b,.int .i64 d,.slice e f g]:Array Value).all (fun x=>x.oneCell')=true:=by simp[Value.oneCell']
theorem flat1{x:C}(h:x.kind=1):flatC x=[]:=by cases x<;>simp_all [C.kind,flatC]
theorem flat5{x:C}(h:x.kind=5):flatC x=x.parts:=by cases x<;>simp_all [C.kind,flatC,C.parts]
theorem flat0{x:C}(h:x.kind≠1)(k:x.kind≠5):flatC x=[x]:=by cases x<;>simp_all [C.kind,flatC]
theorem trow_one(c:C)(a b:Option Addr)(n m k l:Nat):∀u,u∈(#[.int .i64 c.kind,.string (str c.nm),.int .i64 c.lo,.int .i64 c.hi,.slice a n m,.int .i64 c.size,.slice b k l]:Array Value).toList→u.oneCell'=true:=by
 intro u hu
 simp only[List.mem_cons,List.not_mem_nil,or_false]at hu
 rcases hu with rfl|rfl|rfl|rfl|rfl|rfl|rfl<;>rfl
theorem compactNil_c(w:World)(a:Option Addr)(c:Nat):Calls prog 128 #[.slice a 0 c,.func (.func 129) #[] #[]] w fun e w'=>e=.returned (.slice a 0 c)∧w'=w:=by
 go_enter func128,ntmps128
 go_wp2_with fail
 go_ret
 exact⟨rfl,rfl⟩
theorem compactAny_c(w:World)(D:Gh)[hk:Keeps D w](B n:Nat)(v:Value)(xs:List (C×Value×Value))(hO:Own w D B 115 7 v n (xs.flatMap trow))(hx:∀x∈xs,OkT D x)(hn:n≤1099511627776):
  Calls prog 128 #[v,.func (.func 129) #[] #[]] w fun e w'=>∃(a:Option Addr)(c m:Nat)(ys:List (C×Value×Value)),e=.returned (.slice a m c)∧m=ys.length∧ys.map (·.1)=compactC (xs.map (·.1))∧(∀y∈ys,OkT D y)∧Own w' D B 115 7 (.slice a m c) m (ys.flatMap trow)∧Cll v.ownBlock w w'∧(Value.slice a m c).ownBlock=v.ownBlock:=by
 have hl:n=xs.length:=by have:=hO.own.1;rw[trow_len]at this;omega
 rcases hO.own.2 with⟨rfl,rfl⟩|⟨g,cap,cur,rfl,hB,hh,h1,h2,h3,h4⟩
 ·obtain rfl:xs=[]:=List.eq_nil_of_length_eq_zero hl.symm
  refine(compactNil_c w none 0).mono ?_
  rintro e w' ⟨rfl,rfl⟩
  exact⟨none,0,0,[],rfl,rfl,by simp[compactC],hx,hO,⟨Bl.refl _ _⟩,rfl⟩
 ·refine(compactT_c w D B g cap n xs hO hx hn).mono ?_
  rintro e w' ⟨m,ys,rfl,h5,h6,h7,h8⟩
  exact⟨some ⟨g,0,none⟩,cap,m,ys,rfl,by have:=h7.own.1;rw[trow_len]at this;omega,h5,h6,h7,h8,rfl⟩
structure Gath(D:Gh)(zs:List (C×Value×Value))(v:Value)(w:World)(B:Nat)(k:Nat):Prop where
 own:Own w D B 115 7 v zs.length (zs.flatMap trow)
 ok:∀z∈zs,OkT D z
 nil:zs=[]→v=.slice none 0 0
 size:sizeL (zs.map (·.1))≤k
theorem meet_s(N:Nat)(ih:TidyS N)(w:World)(D:Gh)(l:List C)(a:Option Addr)(n m:Nat)(hN:sizeL l≤N)(h1000:sizeL l≤1000)(hp:PV D l (.slice a n m))[hk:Keeps D w]:
  Calls prog 54 #[.slice a n m] w (TRet w D ((tidyL l).bind meetC)):=by
 have IH:=hid ih
 clear ih
 obtain⟨hlen,hm1,hm2⟩:=PV_len hp
 have hln:=len_sizeL l
 have HL:=hid hlen
 have HZ:=hid (show sizeL l≤N∧sizeL l≤1000 from⟨hN,h1000⟩)
 have hn1000:n≤1000:=by omega
 obtain⟨R,hR⟩:∃R,R=(tidyL l).bind meetC:=⟨_,rfl⟩
 rw[←hR]
 have HR:=hid hR
 clear hlen hR hN h1000 hln
 go_enter func54,ntmps54
 go_wp2_with fail
 obtain⟨W0,hW0⟩:∃W0,W0=w.alloc (.cells #[.int .i64 0,.string ⟨#[]⟩,.int .i64 0,.int .i64 0,.slice none 0 0] 31):=⟨_,rfl⟩
 rw[←hW0]
 have hB0:Box W0 D w.heap.size 31 #[.int .i64 0,.string ⟨#[]⟩,.int .i64 0,.int .i64 0,.slice none 0 0]:=hW0▸ii
 have hG0:Gr none w D W0 D:=hW0▸ii
 have hs0:w.heap.size+1=W0.heap.size:=by rw[hW0];simp
 clear hW0
 go_loopg [4,17] n (fun gk v4 v17 wr=>∃(i:Nat)(D':Gh)(zs:List (C×Value×Value))(qs:List C),v17=.int .i64 i∧gk+i=n∧Gr none w D wr D'∧Box wr D' w.heap.size 31 #[.int .i64 0,.string ⟨#[]⟩,.int .i64 0,.int .i64 0,.slice none 0 0]∧
  Gath D' zs v4 wr W0.heap.size (sizeL (l.take i))∧Hid (zs.map (·.1)=qs.flatMap flatC)∧Hid (tidyL l=(tidyL (l.drop i)).map (qs++ ·)))
 case atStart=>
  have:=hG0.keeps
  exact⟨0,D,[],[],rfl,rfl,hG0,hB0,⟨Own.nil W0 D 115 7,by simp,fun _=>rfl,by simp[sizeL]⟩,hid rfl,hid (by simp)⟩
 case round=>
  obtain⟨i,D',zs,qs,rfl,hgk,hG,hB,hGa,HF,HT⟩:=hrel
  have:=hG.keeps
  have:=gr_le hG
  obtain⟨a4,c4,rfl⟩:=own_form hGa.own
  by_cases hi:i<n
  ·obtain⟨c',b,o,a',n',m',hj,rfl,rfl,hp',r0,r1,r2,r3,r4,r5⟩:=PV_elem (w:=wr) (ii:PV D' l (.slice a n m)) (i:=i) (by rw[←HL.out];exact hi)
   have hat:=sizeL_at _ _ _ hj
   have htk:=sizeL_take _ _ _ hj
   have HTD:=hid (tidyL_drop hj)
   have hz:=HZ.out
   have hc1:c'.size≤N:=by omega
   have hc2:c'.size≤1000:=by omega
   have HTK:=hid htk
   clear hj hat htk hz
   go_wp2_with fail
   refine(IH.out _ D' c' a' _ m' hc1 hc2 hp').mono ?_
   intro e w3 h3
   cases hq:tidyC c' with
   |none=>
    rw[hq]at h3
    obtain⟨rfl,hc3⟩:=h3
    have HN:Hid (R=none):=hid (by rw[HR.out,HT.out,HTD.out,hq];rfl)
    clear hq
    have hB3:Box (w3.alloc (.cells #[.int .i64 0,.string ⟨#[]⟩,.int .i64 0,.int .i64 0,.slice none 0 0] 31)) D' w.heap.size 31 #[.int .i64 0,.string ⟨#[]⟩,.int .i64 0,.int .i64 0,.slice none 0 0]:=ii
    have:=hB3.off
    go_wp2_with (((with_reducible show wpList _ _ _ ((⟨_,.store 31 _ _,_,_,_,_⟩:Oper)::_) _ _);refine wpList_storeTo rfl 31 _ _ rfl rfl (w.heap.size) ((#[.int .i64 0,.string ⟨#[]⟩,.int .i64 0,.int .i64 0,.slice none 0 0])) rfl rfl _ ((#[.int .i64 0,.string ⟨#[]⟩,.int .i64 0,.int .i64 0,.slice none 0 0])) (hB3.heap) (hz31) rfl (ccs_one _ _ _ _ _ _ _) ?_))
    have hB4:Box ((w3.alloc (.cells #[.int .i64 0,.string ⟨#[]⟩,.int .i64 0,.int .i64 0,.slice none 0 0] 31)).setRow w.heap.size #[.int .i64 0,.string ⟨#[]⟩,.int .i64 0,.int .i64 0,.slice none 0 0]) D' w.heap.size 31 #[.int .i64 0,.string ⟨#[]⟩,.int .i64 0,.int .i64 0,.slice none 0 0]:=ii
    have:=hG.toBel
    refine bodyPost_ret (v:=.tuple #[czero,.int .i64 2]) ?_ rfl ?_
    ·simp[results,results54,go_sem,Box.cell (D:=D') (g:=w.heap.size)]
    ·rw[HN.out]
     exact⟨rfl,Bel.c⟩
   |some x=>
    rw[hq]at h3
    obtain⟨p3,D3,rfl,hp3,hg3⟩:=h3
    obtain⟨ap,mp,rfl,_,_⟩:=PV.form hp3
    have:=hg3.keeps
    have:=hg3.le
    have HQ:=hid hq
    have hxs:x.size≤c'.size:=(tidyC_of hq).size
    have hfs:sizeL (flatC x)≤x.size:=size_flat x
    have hz:=HZ.out
    have htk:=HTK.out
    have hzt:sizeL (l.take (i+1))≤sizeL l:=sizeL_sub (List.take_sublist _ _)
    have hx1000:x.size≤1000:=by omega
    have hzi:sizeL (l.take i)≤1000:=by have:=sizeL_sub (List.take_sublist i l);omega
    have HXS:=hid hxs
    have HFS:=hid hfs
    have HT2:Hid (tidyL l=(tidyL (l.drop (i+1))).map ((qs++[x])++ ·)):=hid (by
     rw[HT.out,HTD.out,hq]
     simp only[Option.bind_some,Option.map_map]
     congr 1;funext q;simp)
    have hgs:=hGa.size
    have hG3:Gr none w D w3 D3:=ii
    have hB3:Box w3 D3 w.heap.size 31 #[.int .i64 0,.string ⟨#[]⟩,.int .i64 0,.int .i64 0,.slice none 0 0]:=ii
    have hGO:=hGa.own
    have hO3:Own w3 D3 W0.heap.size 115 7 (.slice a4 zs.length c4) zs.length (zs.flatMap trow):=ii
    have hok3:∀z∈zs,OkT D3 z:=fun z hz=>⟨have:=(hGa.ok z hz).1;ii,have:=(hGa.ok z hz).2;ii⟩
    have hnil:=hGa.nil
    clear hq hxs hfs hz htk hzt hGO hGa HTD hg3 hp' r0 r1 r2 r3 r4 r5
    obtain⟨W3,hW3⟩:∃W3,W3=w3.alloc (.cells #[.int .i64 x.kind,.string (str x.nm),.int .i64 x.lo,.int .i64 x.hi,.slice ap x.parts.length mp] 31):=⟨_,rfl⟩
    have hG4:Gr none w D W3 D3:=hW3▸ii
    have hB4:Box W3 D3 w.heap.size 31 #[.int .i64 0,.string ⟨#[]⟩,.int .i64 0,.int .i64 0,.slice none 0 0]:=hW3▸ii
    have hO4:Own W3 D3 W0.heap.size 115 7 (.slice a4 zs.length c4) zs.length (zs.flatMap trow):=hW3▸ii
    have hX4:Box W3 D3 w3.heap.size 31 #[.int .i64 x.kind,.string (str x.nm),.int .i64 x.lo,.int .i64 x.hi,.slice ap x.parts.length mp]:=hW3▸ii
    have hs4:w3.heap.size+1≤W3.heap.size:=by rw[hW3];simp
    have hs3:W0.heap.size≤w3.heap.size:=by have:=hB3.lt;omega
    have:=hG4.keeps
    have x0:=(hX4.held (i:=0) rfl).1
    have x1:=(hX4.held (i:=1) rfl).1
    have x2:=(hX4.held (i:=2) rfl).1
    have x3:=(hX4.held (i:=3) rfl).1
    have x4:=(hX4.held (i:=4) rfl).1
    have HW3:=hid hW3
    clear hW3
    go_wp2_with ((with_reducible show wpList _ _ _ ((⟨some 30,_,_,_,_,_⟩:Oper)::_) _ _);refine stopL ?_)
    rw[←HW3.out]
    unfold Stop
    by_cases h1:x.kind=1
    ·have k1:(x.kind==1)=true:=by simp[h1]
     have HF2:Hid (zs.map (·.1)=(qs++[x]).flatMap flatC):=hid (by rw[HF.out,List.flatMap_append];simp[flat1 h1])
     clear h1
     go_wp2_with fail
     go_roundg (gk-1)
     case measure=>omega
     case rel=>exact⟨i+1,D3,zs,qs++[x],by simp,by omega,hG4,hB4,⟨hO4,hok3,hnil,by have:=HTK.out;omega⟩,HF2,HT2⟩
    ·have k1:(x.kind==1)=false:=by simp[h1]
     by_cases h5:x.kind=5
     ·have k5:(x.kind==5)=true:=by simp[h5]
      have h1x:=h5
      clear h5
      have HFX:Hid (flatC x=x.parts):=hid (flat5 h1x)
      have hpl:=x.size_parts
      have hlp:=len_sizeL x.parts
      have hpn:x.parts.length≤1000:=by omega
      have HPL:=hid hpl
      have hps:sizeL x.parts≤1000:=by omega
      clear h1 h1x hpl hlp
      go_wp2_with fail
      go_loopg [4,44] x.parts.length (fun g2 u4 u44 wr2=>∃(j:Nat)(D6:Gh)(ys:List (C×Value×Value)),u44=.int .i64 j∧g2+j=x.parts.length∧Gr none w D wr2 D6∧Box wr2 D6 w.heap.size 31 #[.int .i64 0,.string ⟨#[]⟩,.int .i64 0,.int .i64 0,.slice none 0 0]∧PV D6 x.parts (.slice ap x.parts.length mp)∧
       Gath D6 ys u4 wr2 W0.heap.size (sizeL (l.take i)+sizeL (x.parts.take j))∧Hid (ys.map (·.1)=qs.flatMap flatC++x.parts.take j))
      case atStart=>exact⟨0,D3,zs,rfl,by omega,hG4,hB4,hp3,⟨hO4,hok3,hnil,by simp[sizeL];omega⟩,hid (by rw[HF.out];simp)⟩
      case round=>
       obtain⟨j,D6,ys,rfl,hgj,hG7,hB7,hp7,hGa7,HF7⟩:=hrel
       have:=hG7.keeps
       have:=gr_le hG7
       obtain⟨a7,c7,rfl⟩:=own_form hGa7.own
       have hgs7:=hGa7.size
       have hO7a:=hGa7.own
       have hnil7:=hGa7.nil
       have hok7a:=hGa7.ok
       by_cases hj:j<x.parts.length
       ·obtain⟨c2,b2,o2,a2,n2,m2,hj2,rfl,rfl,hp2,s0,s1,s2,s3,s4,s5⟩:=PV_elem (w:=wr) hp7 (i:=j) hj
        have hat2:=sizeL_at _ _ _ hj2
        have htk2:=sizeL_take _ _ _ hj2
        have hxt2:sizeL (x.parts.take j)≤sizeL x.parts:=sizeL_sub (List.take_sublist _ _)
        have hc2s:c2.size≤1000:=by omega
        have HJ2:=hid hj2
        have HTK2:=hid htk2
        clear hj2 htk2 hGa7
        go_wp2_with fail
        refine(grow_c _ D6 c2 a2 _ m2 hc2s hp2).mono ?_
        rintro e w5 ⟨q5,D5,rfl,ht5,hg5⟩
        obtain⟨b5,m5,rfl,_,_⟩:=TV.form ht5
        have:=hg5.keeps
        have:=hg5.le
        have hG5:Gr none w D w5 D5:=ii
        have hO5:Own w5 D5 W0.heap.size 115 7 (.slice a7 ys.length c7) ys.length (ys.flatMap trow):=ii
        have hB5:Box w5 D5 w.heap.size 31 #[.int .i64 0,.string ⟨#[]⟩,.int .i64 0,.int .i64 0,.slice none 0 0]:=ii
        have hp5:PV D5 c2.parts (.slice a2 c2.parts.length m2):=ii
        have hOx:Own (w5.alloc (.cells #[.int .i64 c2.kind,.string (str c2.nm),.int .i64 c2.lo,.int .i64 c2.hi,.slice a2 c2.parts.length m2,.int .i64 c2.size,.slice b5 c2.parts.length m5] 115)) D5 W0.heap.size 115 7 (.slice a7 ys.length c7) ys.length (ys.flatMap trow):=ii
        have hNx:Box (w5.alloc (.cells #[.int .i64 c2.kind,.string (str c2.nm),.int .i64 c2.lo,.int .i64 c2.hi,.slice a2 c2.parts.length m2,.int .i64 c2.size,.slice b5 c2.parts.length m5] 115)) D5 w5.heap.size 115 #[.int .i64 c2.kind,.string (str c2.nm),.int .i64 c2.lo,.int .i64 c2.hi,.slice a2 c2.parts.length m2,.int .i64 c2.size,.slice b5 c2.parts.length m5]:=ii
        have hlt5:=hB5.lt
        have hln5:=len_sizeL (ys.map (·.1))
        rw[List.length_map]at hln5
        have:=hO5.off
        have:=hO5.sub none (a:=w) (by omega)
        have:NeX w.heap.size (Value.slice a7 ys.length c7).ownBlock:=own_ne hO5 (by omega)
        go_wp2_with (at_builtin;refine wp_append_1 (v:=.slice a7 ys.length c7) rfl (.tmp 48) (.tmp 51) 113 rfl underlying113 el115 rfl hOx rfl hNx rfl (trow_one _ _ _ _ _ _ _) (by unfold maxLen;omega) (by omega) (by simp;omega) ?_;intro v6 w6 hO6 hc6;obtain⟨a6,c6,rfl⟩:=own_form hO6)
        have hG6:Gr none w D w6 D5:=ii
        have hB6:Box w6 D5 w.heap.size 31 #[.int .i64 0,.string ⟨#[]⟩,.int .i64 0,.int .i64 0,.slice none 0 0]:=ii
        have hO7:Own w6 D5 W0.heap.size 115 7 (Value.slice a6 (ys.length+1) c6) (ys++[(c2,Value.slice a2 c2.parts.length m2,Value.slice b5 c2.parts.length m5)]).length ((ys++[(c2,Value.slice a2 c2.parts.length m2,Value.slice b5 c2.parts.length m5)]).flatMap trow):=by
         have e1:(ys++[(c2,Value.slice a2 c2.parts.length m2,Value.slice b5 c2.parts.length m5)]).flatMap trow=ys.flatMap trow++(#[.int .i64 c2.kind,.string (str c2.nm),.int .i64 c2.lo,.int .i64 c2.hi,.slice a2 c2.parts.length m2,.int .i64 c2.size,.slice b5 c2.parts.length m5]:Array Value).toList:=by simp[trow]
         rw[e1,List.length_append];exact hO6
        have hok7:∀z∈ys++[(c2,Value.slice a2 c2.parts.length m2,Value.slice b5 c2.parts.length m5)],OkT D5 z:=fun z hz=>by
         rcases List.mem_append.1 hz with hz|hz
         ·exact⟨have:=(hok7a z hz).1;ii,have:=(hok7a z hz).2;ii⟩
         ·obtain rfl:=List.mem_singleton.1 hz;exact⟨hp5,ht5⟩
        have hp8:PV D5 x.parts (.slice (some ⟨b2,o2,none⟩) x.parts.length mp):=ii
        go_roundg (gk-1)
        case measure=>omega
        case rel=>
         refine⟨j+1,D5,_,by simp,by omega,hG6,hB6,hp8,⟨by simpa using hO7,hok7,by simp,?_⟩,hid ?_⟩
         ·rw[List.map_append,sizeL_append];have:=HTK2.out;simp only[List.map_cons,List.map_nil,sizeL];omega
         ·rw[List.map_append,HF7.out,List.take_add_one,HJ2.out];simp
       ·have HFE:Hid (x.parts.take j=x.parts):=hid (List.take_of_length_le (by omega))
        go_wp2_with fail
        go_roundg (n-(i+1))
        case measure=>omega
        case rel=>
         refine⟨i+1,D6,ys,qs++[x],by simp,by omega,hG7,hB7,⟨hO7a,hok7a,hnil7,?_⟩,hid ?_,HT2⟩
         ·have h1:=HFE.out
          rw[h1]at hgs7
          have:=HTK.out;have:=HXS.out;have:=HPL.out;omega
         ·rw[HF7.out,HFE.out,List.flatMap_append];simp[HFX.out]
     ·have k5:(x.kind==5)=false:=by simp[h5]
      have HFX:Hid (flatC x=[x]):=hid (flat0 h1 h5)
      clear h1 h5
      go_wp2_with fail
      refine(grow_c _ D3 x ap _ mp hx1000 hp3).mono ?_
      rintro e w5 ⟨q5,D5,rfl,ht5,hg5⟩
      obtain⟨b5,m5,rfl,_,_⟩:=TV.form ht5
      have:=hg5.keeps
      have:=hg5.le
      have hG5:Gr none w D w5 D5:=ii
      have hO5:Own w5 D5 W0.heap.size 115 7 (.slice a4 zs.length c4) zs.length (zs.flatMap trow):=ii
      have hB5:Box w5 D5 w.heap.size 31 #[.int .i64 0,.string ⟨#[]⟩,.int .i64 0,.int .i64 0,.slice none 0 0]:=ii
      have hp5:PV D5 x.parts (.slice ap x.parts.length mp):=ii
      have hOx:Own (w5.alloc (.cells #[.int .i64 x.kind,.string (str x.nm),.int .i64 x.lo,.int .i64 x.hi,.slice ap x.parts.length mp,.int .i64 x.size,.slice b5 x.parts.length m5] 115)) D5 W0.heap.size 115 7 (.slice a4 zs.length c4) zs.length (zs.flatMap trow):=ii
      have hNx:Box (w5.alloc (.cells #[.int .i64 x.kind,.string (str x.nm),.int .i64 x.lo,.int .i64 x.hi,.slice ap x.parts.length mp,.int .i64 x.size,.slice b5 x.parts.length m5] 115)) D5 w5.heap.size 115 #[.int .i64 x.kind,.string (str x.nm),.int .i64 x.lo,.int .i64 x.hi,.slice ap x.parts.length mp,.int .i64 x.size,.slice b5 x.parts.length m5]:=ii
      have hlt5:=hB5.lt
      have hln5:=len_sizeL (zs.map (·.1))
      rw[List.length_map]at hln5
      have:=hO5.off
      have:=hO5.sub none (a:=w) (by omega)
      have:NeX w.heap.size (Value.slice a4 zs.length c4).ownBlock:=own_ne hO5 (by omega)
      go_wp2_with (at_builtin;refine wp_append_1 (v:=.slice a4 zs.length c4) rfl (.tmp 32) (.tmp 35) 113 rfl underlying113 el115 rfl hOx rfl hNx rfl (trow_one _ _ _ _ _ _ _) (by unfold maxLen;omega) (by omega) (by simp;omega) ?_;intro v6 w6 hO6 hc6;obtain⟨a6,c6,rfl⟩:=own_form hO6)
      have hG6:Gr none w D w6 D5:=ii
      have hB6:Box w6 D5 w.heap.size 31 #[.int .i64 0,.string ⟨#[]⟩,.int .i64 0,.int .i64 0,.slice none 0 0]:=ii
      have hO7:Own w6 D5 W0.heap.size 115 7 (Value.slice a6 (zs.length+1) c6) (zs++[(x,Value.slice ap x.parts.length mp,Value.slice b5 x.parts.length m5)]).length ((zs++[(x,Value.slice ap x.parts.length mp,Value.slice b5 x.parts.length m5)]).flatMap trow):=by
       have e1:(zs++[(x,Value.slice ap x.parts.length mp,Value.slice b5 x.parts.length m5)]).flatMap trow=zs.flatMap trow++(#[.int .i64 x.kind,.string (str x.nm),.int .i64 x.lo,.int .i64 x.hi,.slice ap x.parts.length mp,.int .i64 x.size,.slice b5 x.parts.length m5]:Array Value).toList:=by simp[trow]
       rw[e1,List.length_append];exact hO6
      have hok7:∀z∈zs++[(x,Value.slice ap x.parts.length mp,Value.slice b5 x.parts.length m5)],OkT D5 z:=fun z hz=>by
       rcases List.mem_append.1 hz with hz|hz
       ·exact⟨have:=(hok3 z hz).1;ii,have:=(hok3 z hz).2;ii⟩
       ·obtain rfl:=List.mem_singleton.1 hz;exact⟨hp5,ht5⟩
      go_roundg (gk-1)
      case measure=>omega
      case rel=>
       refine⟨i+1,D5,_,qs++[x],by simp,by omega,hG6,hB6,⟨by simpa using hO7,hok7,by simp,?_⟩,hid ?_,HT2⟩
       ·rw[List.map_append,sizeL_append];have:=HTK.out;have:=HXS.out;simp only[List.map_cons,List.map_nil,sizeL];omega
       ·rw[List.map_append,HF.out,List.flatMap_append];simp[HFX.out]
  ·have hlz:(zs.map (·.1)).length≤sizeL (zs.map (·.1)):=len_sizeL _
   rw[List.length_map]at hlz
   have hzl:zs.length≤1000:=by have:=hGa.size;have:=HZ.out;have:=sizeL_sub (List.take_sublist i l);omega
   have hTL:tidyL l=some qs:=by
    rw[HT.out,List.drop_eq_nil_of_le (by have:=HL.out;omega)];simp[tidyL]
   have HRM:Hid (R=meetC qs):=hid (by rw[HR.out,hTL];rfl)
   have hO1:=hGa.own
   have hok:=hGa.ok
   have HFQ:=HF
   clear hTL hlz hGa HT HR hp HL HZ
   go_wp2_with fail
   refine(sort_c wr D' W0.heap.size zs.length _ zs hO1 hok (by omega)).mono ?_
   rintro e w2 ⟨rfl,ys,hperm,hsort,hO2,hc2⟩
   have:=hO1.sub none (a:=w) (by omega)
   have:=hO1.off
   have hne1:NeX w.heap.size (Value.slice a4 zs.length c4).ownBlock:=own_ne hO1 (by omega)
   have hG2:Gr none w D w2 D':=ii
   have hB2:Box w2 D' w.heap.size 31 #[.int .i64 0,.string ⟨#[]⟩,.int .i64 0,.int .i64 0,.slice none 0 0]:=ii
   have:=hG2.keeps
   have hok2:∀y∈ys,OkT D' y:=fun y hy=>hok y (hperm.mem_iff.1 hy)
   go_wp2_with fail
   refine(compactAny_c w2 D' W0.heap.size zs.length _ ys hO2 hok2 (by omega)).mono ?_
   rintro e w3 ⟨a5,c5,m5,xs,rfl,hm5,hcomp,hok3,hO3,hc3,hob⟩
   have hG3:Gr none w D w3 D':=ii
   have hB3:Box w3 D' w.heap.size 31 #[.int .i64 0,.string ⟨#[]⟩,.int .i64 0,.int .i64 0,.slice none 0 0]:=ii
   have hm5z:m5≤1000:=by
    have h1:xs.length=(compactC (ys.map (·.1))).length:=by rw[←hcomp,List.length_map]
    have h2:=(compactC_sub (ys.map (·.1))).length_le
    have h3:=hperm.length_eq
    rw[List.length_map]at h2;omega
   have HM5:=hid hm5
   have HP:Hid (xs.map (·.1)=partsC qs):=hid (by rw[hcomp,hsort,HF.out];rfl)
   have hne3:NeX w.heap.size (Value.slice a5 m5 c5).ownBlock:=by rw[hob];exact hne1
   clear hm5 hperm hsort hO2 hok2 hcomp hok hO1 hgk hi HF HFQ hc2 hc3
   go_wp2_with fail
   go_loopg [61] m5 (fun gk u61 wr=>∃i:Nat,u61=.int .i64 i∧gk+i=m5∧Gr none w D wr D'∧Box wr D' w.heap.size 31 #[.int .i64 0,.string ⟨#[]⟩,.int .i64 0,.int .i64 0,.slice none 0 0]∧Own wr D' W0.heap.size 115 7 (.slice a5 m5 c5) m5 (xs.flatMap trow)∧Hid (∀z∈xs.take i,isBot z.1=false))
   case atStart=>exact⟨0,rfl,rfl,hG3,hB3,hO3,hid (by simp)⟩
   case round=>
    obtain⟨i,rfl,hgk,hGr,hBr,hOr,HNB⟩:=hrel
    have:=hGr.keeps
    have hBel:=hGr.toBel
    by_cases hi:i<m5
    ·obtain⟨g5,rfl⟩:∃g,a5=some ⟨g,0,none⟩:=by
      rcases hOr.own.2 with⟨_,h0⟩|⟨g',_,_,hv,_⟩
      ·omega
      ·cases hv;exact⟨_,rfl⟩
     obtain⟨x,hx⟩:∃x,xs[i]? =some x:=⟨_,List.getElem?_eq_getElem (by have:=HM5.out;omega)⟩
     obtain⟨a6,b6,n6,m6,m6',hn6,ex1,ex2,hp6,hq6,r0,r1,r2,r3,r4,r5,r6⟩:=rowAt hOr hx (hok3 _ (List.mem_of_getElem? hx)) (i*7) rfl
     have hBa:Box (wr.alloc (.cells #[.int .i64 x.1.kind,.string (str x.1.nm),.int .i64 x.1.lo,.int .i64 x.1.hi,.slice a6 n6 m6,.int .i64 x.1.size,.slice b6 n6 m6'] 115)) D' w.heap.size 31 #[.int .i64 0,.string ⟨#[]⟩,.int .i64 0,.int .i64 0,.slice none 0 0]:=ii
     have hGa:Gr none w D (wr.alloc (.cells #[.int .i64 x.1.kind,.string (str x.1.nm),.int .i64 x.1.lo,.int .i64 x.1.hi,.slice a6 n6 m6,.int .i64 x.1.size,.slice b6 n6 m6'] 115)) D':=ii
     have hOa:Own (wr.alloc (.cells #[.int .i64 x.1.kind,.string (str x.1.nm),.int .i64 x.1.lo,.int .i64 x.1.hi,.slice a6 n6 m6,.int .i64 x.1.size,.slice b6 n6 m6'] 115)) D' W0.heap.size 115 7 (.slice (some ⟨g5,0,none⟩) m5 c5) m5 (xs.flatMap trow):=ii
     have HX:=hid hx
     clear hx ex1 ex2 hn6
     by_cases hb:x.1.kind=2
     ·have kb:(x.1.kind==2)=true:=by simp[hb]
      have hbt:isBot x.1=true:=by revert hb;cases x.1<;>simp[C.kind,isBot]
      have HN:Hid (R=some .bot∧x.1=.bot):=hid ⟨by
       rw[HRM.out]
       have:(partsC qs).any isBot=true:=by
        rw[←HP.out,List.any_map];exact List.any_eq_true.2 ⟨x,List.mem_of_getElem? HX.out,hbt⟩
       show(if(partsC qs).any isBot then some C.bot else _)=_
       rw[this];rfl,by revert hb;cases x.1<;>simp[C.kind]⟩
      clear hb hbt
      go_wp2_with (((with_reducible show wpList _ _ _ ((⟨_,.store 31 _ _,_,_,_,_⟩:Oper)::_) _ _);refine wpList_storeTo rfl 31 _ _ rfl rfl (w.heap.size) ((#[.int .i64 x.1.kind,.string (str x.1.nm),.int .i64 x.1.lo,.int .i64 x.1.hi,.slice a6 n6 m6])) rfl rfl _ ((#[.int .i64 0,.string ⟨#[]⟩,.int .i64 0,.int .i64 0,.slice none 0 0])) (hBa.heap) (hz31) rfl (ccs_one _ _ _ _ _ _ _) ?_))
      have:=hBa.off
      have hB4:Box ((wr.alloc (.cells #[.int .i64 x.1.kind,.string (str x.1.nm),.int .i64 x.1.lo,.int .i64 x.1.hi,.slice a6 n6 m6,.int .i64 x.1.size,.slice b6 n6 m6'] 115)).setRow w.heap.size #[.int .i64 x.1.kind,.string (str x.1.nm),.int .i64 x.1.lo,.int .i64 x.1.hi,.slice a6 n6 m6]) D' w.heap.size 31 #[.int .i64 x.1.kind,.string (str x.1.nm),.int .i64 x.1.lo,.int .i64 x.1.hi,.slice a6 n6 m6]:=ii
      refine bodyPost_ret (v:=.tuple #[cv x.1 (.slice a6 n6 m6),.int .i64 0]) ?_ rfl ?_
      ·simp[results,results54,go_sem,Box.cell (D:=D') (g:=w.heap.size)]
      ·rw[HN.out.1]
       have e1:=HN.out.2
       rw[e1]at hp6 hB4⊢
       exact⟨_,D',rfl,hp6,Gr.g⟩
     ·have kb:(x.1.kind==2)=false:=by simp[hb]
      have hbt:isBot x.1=false:=by revert hb;cases x.1<;>simp[C.kind,isBot]
      clear hb
      go_wp2_with fail
      go_roundg (gk-1)
      case measure=>omega
      case rel=>
       refine⟨i+1,by simp,by omega,hGa,hBa,hOa,hid fun z hz=>?_⟩
       rw[List.take_add_one,HX.out]at hz
       rcases List.mem_append.1 hz with hz|hz
       ·exact HNB.out z hz
       ·simp at hz;subst hz;exact hbt
    ·have HRN:Hid (R=match partsC qs with| []=>some .top| [y]=>some y|l=>if l.length≤8 then some (.and l)else none):=hid (by
      have hnb:=HNB.out
      rw[List.take_of_length_le (by have:=HM5.out;omega)]at hnb
      have:(partsC qs).any isBot=false:=by
       rw[←HP.out,List.any_map];exact List.any_eq_false.2 fun z hz=>by simp[hnb z hz]
      rw[HRM.out]
      show(if(partsC qs).any isBot then some C.bot else _)=_
      rw[this];rfl)
     have HPL:Hid (m5=(partsC qs).length):=hid (by rw[←HP.out,List.length_map];exact HM5.out)
     clear HNB HRM
     have:=hBr.off
     rcases Nat.lt_or_ge m5 2 with h2|h2
     ·rcases Nat.lt_or_ge m5 1 with h1|h1
      ·obtain rfl:m5=0:=by omega
       have HN:Hid (R=some .top):=hid (by
        rw[HRN.out,List.eq_nil_of_length_eq_zero HPL.out.symm])
       go_wp2_with (((with_reducible show wpList _ _ _ ((⟨_,.store 31 _ _,_,_,_,_⟩:Oper)::_) _ _);refine wpList_storeTo rfl 31 _ _ rfl rfl (w.heap.size) ((#[.int .i64 1,.string ⟨#[]⟩,.int .i64 0,.int .i64 0,.slice none 0 0])) rfl rfl _ ((#[.int .i64 0,.string ⟨#[]⟩,.int .i64 0,.int .i64 0,.slice none 0 0])) (hBr.heap) (hz31) rfl (ccs_one _ _ _ _ _ _ _) ?_))
       have hB4:Box (wr.setRow w.heap.size #[.int .i64 1,.string ⟨#[]⟩,.int .i64 0,.int .i64 0,.slice none 0 0]) D' w.heap.size 31 #[.int .i64 1,.string ⟨#[]⟩,.int .i64 0,.int .i64 0,.slice none 0 0]:=ii
       refine bodyPost_ret (v:=.tuple #[.agg #[.int .i64 1,.string ⟨#[]⟩,.int .i64 0,.int .i64 0,.slice none 0 0],.int .i64 0]) ?_ rfl ?_
       ·simp[results,results54,go_sem,Box.cell (D:=D') (g:=w.heap.size)]
       ·rw[HN.out]
        exact⟨.slice none 0 0,D',rfl,PV.nil,Gr.g⟩
      ·obtain rfl:m5=1:=by omega
       obtain⟨g5,rfl⟩:∃g,a5=some ⟨g,0,none⟩:=by
        rcases hOr.own.2 with⟨_,h0⟩|⟨g',_,_,hv,_⟩
        ·omega
        ·cases hv;exact⟨_,rfl⟩
       obtain⟨x,hx⟩:∃x,xs[0]? =some x:=⟨_,List.getElem?_eq_getElem (by have:=HM5.out;omega)⟩
       have HN:Hid (R=some x.1):=hid (by
        rcases xs with _|⟨y,_|⟨z,r⟩⟩
        ·simp at hx
        ·simp only[List.getElem?_cons_zero,Option.some.injEq]at hx;subst hx
         rw[HRN.out,←HP.out];rfl
        ·have:=HM5.out;simp at this)
       obtain⟨a6,b6,n6,m6,m6',hn6,ex1,ex2,hp6,hq6,r0,r1,r2,r3,r4,r5,r6⟩:=rowAt hOr hx (hok3 _ (List.mem_of_getElem? hx)) 0 rfl
       simp only[Nat.zero_add]at r0 r1 r2 r3 r4
       clear hx ex1 ex2 hn6
       go_wp2_with (((with_reducible show wpList _ _ _ ((⟨_,.store 31 _ _,_,_,_,_⟩:Oper)::_) _ _);refine wpList_storeTo rfl 31 _ _ rfl rfl (w.heap.size) ((#[.int .i64 x.1.kind,.string (str x.1.nm),.int .i64 x.1.lo,.int .i64 x.1.hi,.slice a6 n6 m6])) rfl rfl _ ((#[.int .i64 0,.string ⟨#[]⟩,.int .i64 0,.int .i64 0,.slice none 0 0])) (hBr.heap) (hz31) rfl (ccs_one _ _ _ _ _ _ _) ?_))
       have hB4:Box (wr.setRow w.heap.size #[.int .i64 x.1.kind,.string (str x.1.nm),.int .i64 x.1.lo,.int .i64 x.1.hi,.slice a6 n6 m6]) D' w.heap.size 31 #[.int .i64 x.1.kind,.string (str x.1.nm),.int .i64 x.1.lo,.int .i64 x.1.hi,.slice a6 n6 m6]:=ii
       refine bodyPost_ret (v:=.tuple #[cv x.1 (.slice a6 n6 m6),.int .i64 0]) ?_ rfl ?_
       ·simp[results,results54,go_sem,Box.cell (D:=D') (g:=w.heap.size)]
       ·rw[HN.out]
        exact⟨_,D',rfl,hp6,Gr.g⟩
     ·have b0:((m5:Int)==0)=false:=beq_eq_false_iff_ne.2 (by omega)
      have b1:((m5:Int)==1)=false:=beq_eq_false_iff_ne.2 (by omega)
      by_cases h8:8<m5
      ·have HN:Hid (R=none):=hid (by
        rw[HRN.out]
        have hpl:=HPL.out
        rcases h:partsC qs with _|⟨y,_|⟨z,r⟩⟩
        ·rw[h]at hpl;simp only[List.length_nil]at hpl;omega
        ·rw[h]at hpl;simp only[List.length_cons,List.length_nil]at hpl;omega
        ·rw[h]at hpl;show(if(y::z::r).length≤8 then _ else _)=_
         rw[if_neg (by omega)])
       go_wp2_with (((with_reducible show wpList _ _ _ ((⟨_,.store 31 _ _,_,_,_,_⟩:Oper)::_) _ _);refine wpList_storeTo rfl 31 _ _ rfl rfl (w.heap.size) ((#[.int .i64 0,.string ⟨#[]⟩,.int .i64 0,.int .i64 0,.slice none 0 0])) rfl rfl _ ((#[.int .i64 0,.string ⟨#[]⟩,.int .i64 0,.int .i64 0,.slice none 0 0])) (hBr.heap) (hz31) rfl (ccs_one _ _ _ _ _ _ _) ?_))
       have hB4:Box (wr.setRow w.heap.size #[.int .i64 0,.string ⟨#[]⟩,.int .i64 0,.int .i64 0,.slice none 0 0]) D' w.heap.size 31 #[.int .i64 0,.string ⟨#[]⟩,.int .i64 0,.int .i64 0,.slice none 0 0]:=ii
       refine bodyPost_ret (v:=.tuple #[czero,.int .i64 2]) ?_ rfl ?_
       ·simp[results,results54,go_sem,Box.cell (D:=D') (g:=w.heap.size)]
       ·rw[HN.out]
        exact⟨rfl,Bel.c⟩
      ·have HN:Hid (R=some (.and (partsC qs))):=hid (by
        rw[HRN.out]
        have hpl:=HPL.out
        rcases h:partsC qs with _|⟨y,_|⟨z,r⟩⟩
        ·rw[h]at hpl;simp only[List.length_nil]at hpl;omega
        ·rw[h]at hpl;simp only[List.length_cons,List.length_nil]at hpl;omega
        ·rw[h]at hpl;show(if(y::z::r).length≤8 then _ else _)=_
         rw[if_pos (by omega)])
       have e0:=hBr.held (i:=0) rfl
       have hsr:=hBr.lt
       have hG4:Gr none w D (wr.setCell ⟨w.heap.size,0,none⟩ (.int .i64 5)) D':=ii
       have hB4:Box (wr.setCell ⟨w.heap.size,0,none⟩ (.int .i64 5)) D' w.heap.size 31 #[.int .i64 5,.string ⟨#[]⟩,.int .i64 0,.int .i64 0,.slice none 0 0]:=ii
       have hO4:Own (wr.setCell ⟨w.heap.size,0,none⟩ (.int .i64 5)) D' W0.heap.size 115 7 (.slice a5 m5 c5) m5 (xs.flatMap trow):=Own.far (h:=hOr) (fun q=>by have:=(hOr.lt _ q).1;omega) _
       go_wp2_with fail
       generalize wr.setCell ⟨w.heap.size,0,none⟩ (.int .i64 5)=W4 at*
       have:=hG4.keeps
       clear hBr hOr hGr e0 hBel
       have hK4:∀q,(Value.slice a5 m5 c5).ownBlock=some q→q<W4.heap.size:=fun q hq=>(hO4.lt q hq).2
       have hs4:w.heap.size<W4.heap.size:=hB4.lt
       go_loopg [93] m5 (fun gk u93 wr=>∃(i:Nat)(v:Value)(ps:List (C×Value)),u93=.int .i64 i∧gk+i=m5∧W4.heap.size≤wr.heap.size∧Gr none w D wr D'∧Box wr D' w.heap.size 31 #[.int .i64 5,.string ⟨#[]⟩,.int .i64 0,.int .i64 0,v]∧Own wr D' W0.heap.size 115 7 (.slice a5 m5 c5) m5 (xs.flatMap trow)∧
        Own wr D' W4.heap.size 31 5 v i (ps.flatMap crow)∧(∀z∈ps,PV D' z.1.parts z.2)∧Hid (ps.map (·.1)=(xs.map (·.1)).take i))
       case atStart=>exact⟨0,.slice none 0 0,[],rfl,rfl,Nat.le_refl _,hG4,hB4,hO4,Own.nil W4 D' 31 5,by simp,hid rfl⟩
       case round=>
        obtain⟨i,v,ps,rfl,hgk,hW4r,hGr,hBr,hOr,hV,hPs,HPX⟩:=hrel
        have:=hGr.keeps
        have:=hBr.off
        obtain⟨av,cv',rfl⟩:=own_form hV
        have hsr2:=hBr.lt
        by_cases hi:i<m5
        ·obtain⟨g5,rfl⟩:∃g,a5=some ⟨g,0,none⟩:=by
          rcases hOr.own.2 with⟨_,h0⟩|⟨g',_,_,hv,_⟩
          ·omega
          ·cases hv;exact⟨_,rfl⟩
         obtain⟨x,hx⟩:∃x,xs[i]? =some x:=⟨_,List.getElem?_eq_getElem (by have:=HM5.out;omega)⟩
         obtain⟨a6,b6,n6,m6,m6',hn6,ex1,ex2,hp6,hq6,r0,r1,r2,r3,r4,r5,r6⟩:=rowAt hOr hx (hok3 _ (List.mem_of_getElem? hx)) (i*7) rfl
         have HX:=hid hx
         obtain⟨Wa,hWa⟩:∃Wa,Wa=wr.alloc (.cells #[.int .i64 x.1.kind,.string (str x.1.nm),.int .i64 x.1.lo,.int .i64 x.1.hi,.slice a6 n6 m6,.int .i64 x.1.size,.slice b6 n6 m6'] 115):=⟨_,rfl⟩
         have hGa:Gr none w D Wa D':=hWa▸ii
         have hBa:Box Wa D' w.heap.size 31 #[.int .i64 5,.string ⟨#[]⟩,.int .i64 0,.int .i64 0,.slice av i cv']:=hWa▸ii
         have hTa:Box Wa D' wr.heap.size 115 #[.int .i64 x.1.kind,.string (str x.1.nm),.int .i64 x.1.lo,.int .i64 x.1.hi,.slice a6 n6 m6,.int .i64 x.1.size,.slice b6 n6 m6']:=hWa▸ii
         have hOa:Own Wa D' W0.heap.size 115 7 (.slice (some ⟨g5,0,none⟩) m5 c5) m5 (xs.flatMap trow):=hWa▸ii
         have hVa:Own Wa D' W4.heap.size 31 5 (.slice av i cv') i (ps.flatMap crow):=hWa▸ii
         have hsa:wr.heap.size+1≤Wa.heap.size:=by rw[hWa];simp
         have:=hGa.keeps
         have t0:=(hTa.held (i:=0) rfl).1
         have t1:=(hTa.held (i:=1) rfl).1
         have t2:=(hTa.held (i:=2) rfl).1
         have t3:=(hTa.held (i:=3) rfl).1
         have t4:=(hTa.held (i:=4) rfl).1
         have b4:=(hBa.held (i:=4) rfl).1
         have HWa:=hid hWa
         clear hx ex1 ex2 hn6 hWa
         go_wp2_with ((with_reducible show wpList _ _ _ ((⟨some 97,_,_,_,_,_⟩:Oper)::_) _ _);refine stopL ?_)
         rw[←HWa.out]
         unfold Stop
         have hVx:Own (Wa.alloc (.cells #[.int .i64 x.1.kind,.string (str x.1.nm),.int .i64 x.1.lo,.int .i64 x.1.hi,.slice a6 n6 m6] 31)) D' W4.heap.size 31 5 (.slice av i cv') i (ps.flatMap crow):=ii
         have hNx:Box (Wa.alloc (.cells #[.int .i64 x.1.kind,.string (str x.1.nm),.int .i64 x.1.lo,.int .i64 x.1.hi,.slice a6 n6 m6] 31)) D' Wa.heap.size 31 #[.int .i64 x.1.kind,.string (str x.1.nm),.int .i64 x.1.lo,.int .i64 x.1.hi,.slice a6 n6 m6]:=ii
         have h1x:∀u,u∈(#[.int .i64 x.1.kind,.string (str x.1.nm),.int .i64 x.1.lo,.int .i64 x.1.hi,.slice a6 n6 m6]:Array Value).toList→u.oneCell'=true:=by
          intro u hu
          simp only[List.mem_cons,List.not_mem_nil,or_false]at hu
          rcases hu with rfl|rfl|rfl|rfl|rfl<;>rfl
         have:=hVa.off
         have:=hVa.sub none (a:=w) (by omega)
         have:NeX w.heap.size (Value.slice av i cv').ownBlock:=own_ne hVa (by omega)
         have:Apart (Value.slice (some ⟨g5,0,none⟩) m5 c5) (Value.slice av i cv').ownBlock:=⟨fun k hk q=>by have h1:=hK4 k hk;have h2:=(hVa.lt k q.symm).1;omega⟩
         go_wp2_with (at_builtin;refine wp_append_1 (v:=.slice av i cv') rfl (.tmp 98) (.tmp 101) 29 rfl underlying29 el31 rfl hVx rfl hNx rfl h1x (by unfold maxLen;omega) (by omega) (by simp;omega) ?_;intro v6 w6 hO6 hc6;obtain⟨a7,c7,rfl⟩:=own_form hO6;have hB6:Box w6 D' w.heap.size 31 _:=ii;have e66:=hB6.held (i:=4) rfl;have hs6:=Box.lt (h:=hB6))
         have:=hB6.off
         have hs6':=Cll.size (hb:=hc6)
         simp only[World.size_alloc]at hs6'
         have hG6:Gr none w D w6 D':=ii
         have hO7:Own w6 D' W0.heap.size 115 7 (.slice (some ⟨g5,0,none⟩) m5 c5) m5 (xs.flatMap trow):=ii
         have hG8:Gr none w D (w6.setCell ⟨w.heap.size,4,none⟩ (.slice a7 (i+1) c7)) D':=ii
         have hB8:Box (w6.setCell ⟨w.heap.size,4,none⟩ (.slice a7 (i+1) c7)) D' w.heap.size 31 #[.int .i64 5,.string ⟨#[]⟩,.int .i64 0,.int .i64 0,.slice a7 (i+1) c7]:=ii
         have hO8:Own (w6.setCell ⟨w.heap.size,4,none⟩ (.slice a7 (i+1) c7)) D' W0.heap.size 115 7 (.slice (some ⟨g5,0,none⟩) m5 c5) m5 (xs.flatMap trow):=Own.far (h:=hO7) (fun q=>by have:=(hO7.lt _ q).1;omega) _
         have hV8:Own (w6.setCell ⟨w.heap.size,4,none⟩ (.slice a7 (i+1) c7)) D' W4.heap.size 31 5 (.slice a7 (i+1) c7) (i+1) ((ps++[(x.1,Value.slice a6 n6 m6)]).flatMap crow):=by
          have e1:(ps++[(x.1,Value.slice a6 n6 m6)]).flatMap crow=ps.flatMap crow++(#[.int .i64 x.1.kind,.string (str x.1.nm),.int .i64 x.1.lo,.int .i64 x.1.hi,.slice a6 n6 m6]:Array Value).toList:=by simp[crow]
          rw[e1];exact Own.far (h:=hO6) (fun q=>by have:=(hO6.lt _ q).1;omega) _
         go_roundg (gk-1)
         case measure=>omega
         case rel=>
          refine⟨i+1,.slice a7 (i+1) c7,ps++[(x.1,Value.slice a6 n6 m6)],by simp,by omega,by simp[World.setCell];omega,hG8,hB8,hO8,hV8,fun z hz=>?_,hid ?_⟩
          ·rcases List.mem_append.1 hz with hz|hz
           ·exact hPs z hz
           ·obtain rfl:=List.mem_singleton.1 hz;exact hp6
          ·rw[List.map_append,HPX.out,List.take_add_one,List.getElem?_map,HX.out];rfl
        ·have HFE:Hid (ps.map (·.1)=partsC qs):=hid (by rw[HPX.out,List.take_of_length_le (by rw[List.length_map];have:=HM5.out;omega)];exact HP.out)
         have hpne:ps≠[]:=fun h=>by
          have h1:=HFE.out;rw[h]at h1
          have h2:=HPL.out;rw[←h1]at h2;simp at h2;omega
         have hsub:=fun q hq=>(hV.lt q hq).1
         have hneV:some w.heap.size≠(Value.slice av i cv').ownBlock:=(own_ne hV (g:=w.heap.size) (by omega)).out
         go_wp2_with (first|((with_reducible show wpList _ _ _ ((⟨_,.load 31 _,_,_,_,_⟩:Oper)::_) _ _);refine wpList_load_row rfl 31 _ rfl (w.heap.size) rfl (31) _ (0,0) _ (hBr.heap) underlying31 rfl (hz31) ?_)|((with_reducible show wpList _ _ _ ((⟨_,.store 31 _ _,_,_,_,_⟩:Oper)::_) _ _);refine wpList_storeTo rfl 31 _ _ rfl rfl (w.heap.size) ((#[.int .i64 5,.string ⟨#[]⟩,.int .i64 0,.int .i64 0,.slice av i cv'])) rfl rfl _ ((#[.int .i64 5,.string ⟨#[]⟩,.int .i64 0,.int .i64 0,.slice av i cv'])) (hBr.heap) (hz31) rfl (ccs_one _ _ _ _ _ _ _) ?_))
         have:=hV.apart (g:=w.heap.size) (by omega)
         have hB9:Box (wr.setRow w.heap.size #[.int .i64 5,.string ⟨#[]⟩,.int .i64 0,.int .i64 0,.slice av i cv']) D' w.heap.size 31 #[.int .i64 5,.string ⟨#[]⟩,.int .i64 0,.int .i64 0,.slice av i cv']:=ii
         have hG9:Gr none w D (wr.setRow w.heap.size #[.int .i64 5,.string ⟨#[]⟩,.int .i64 0,.int .i64 0,.slice av i cv']) D':=ii
         have hV9:Own (wr.setRow w.heap.size #[.int .i64 5,.string ⟨#[]⟩,.int .i64 0,.int .i64 0,.slice av i cv']) D' W4.heap.size 31 5 (.slice av i cv') i (ps.flatMap crow):=ii
         have:=hG9.keeps
         obtain⟨D9,hPub,hPV⟩:=hV9.pubPV hpne hPs
         rw[HFE.out]at hPV
         have:=hPub.gr none w D hG9 (fun q e=>by have:=hsub q e;omega)
         have hB10:=hPub.box hB9 hneV
         refine bodyPost_ret (v:=.tuple #[.agg #[.int .i64 5,.string ⟨#[]⟩,.int .i64 0,.int .i64 0,.slice av i cv'],.int .i64 0]) ?_ rfl ?_
         ·simp[results,results54,go_sem,Box.cell (D:=D9) (g:=w.heap.size)]
         ·rw[HN.out]
          exact⟨_,D9,rfl,hPV,Gr.g⟩
end Go.Proofs.YticgonfhjcaohaaGreatDoor
