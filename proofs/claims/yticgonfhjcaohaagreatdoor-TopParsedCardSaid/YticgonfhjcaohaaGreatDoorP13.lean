/- TopParsed, part 13. -/
import Derived.Test.YticgonfhjcaohaaGreatDoorP09
set_option maxRecDepth 100000
set_option maxHeartbeats 32000000
namespace Go.Proofs.YticgonfhjcaohaaGreatDoor
open Go.RowKit Go.VT _root_.Go.Proofs.Tryz
theorem el31:El prog 31 5 64:=El.of (by kernel_rfl) (by decide)
theorem el54:El prog 54 3 32:=El.of (by kernel_rfl) (by decide)
theorem el34:El prog 34 16 216:=El.of (by kernel_rfl) (by decide)
theorem el50:El prog 50 2 16:=El.of (by kernel_rfl) (by decide)
theorem el9:El prog 9 1 16:=El.of (by kernel_rfl) (by decide)
theorem el115:El prog 115 7 96:=El.of (by kernel_rfl) (by decide)
theorem own_form{w:World}{D:Gh}{B:Nat}{e:TypeId}{s:Nat}{v:Value}{n:Nat}{xs:List Value}(h:Own w D B e s v n xs):∃a c,v=.slice a n c:=by
 rcases h.own.2 with⟨rfl,rfl⟩|⟨g,cap,cur,rfl,_⟩
 ·exact⟨none,0,rfl⟩
 ·exact⟨_,_,rfl⟩
theorem own_eq{b o n c q:Nat}(h:(Value.slice (some ⟨b,o,none⟩) n c).ownBlock=some q):q=b:=by
 have:b=q:=by simpa[Value.ownBlock]using h
 exact this.symm
theorem own_ne{w:World}{D:Gh}{B:Nat}{e:TypeId}{s:Nat}{v:Value}{n:Nat}{xs:List Value}(h:Own w D B e s v n xs){g:Nat}(hg:g<B):NeX g v.ownBlock:=⟨fun q=>by have:=(h.lt g q.symm).1;omega⟩
theorem gr_le{X:Option Nat}{a w:World}{A D:Gh}(h:Gr X a A w D):Le A D:=⟨h.le⟩
def PSpec(w:World)(D:Gh)(p:PC)(k:Nat)(R:Option (C×List Tk))(e:Ending)(w':World):Prop:=match R with
 |some x=>CRet w D p k x.1 x.2 e w'
 |none=>Bad w D p k e w'
theorem pMore_and{m:Nat}{acc:List C}{ts:List Tk}(h:hd ts=w_and):pMore (m+1) acc ts=(pSingle m ts.tail).bind fun x=>pMore m (acc++[x.1]) x.2:=by
 conv=>lhs;unfold pMore;rw[if_pos h]
theorem pMore_one{m:Nat}{c:C}{ts:List Tk}(h:hd ts≠w_and):pMore (m+1) [c] ts=some (c,ts):=by
 unfold pMore;rw[if_neg h]
theorem pMore_many{m:Nat}{a b:C}{l:List C}{ts:List Tk}(h:hd ts≠w_and):pMore (m+1) (a::b::l) ts=some (.and (a::b::l),ts):=by
 unfold pMore;rw[if_neg h]
theorem conc_ret{w W:World}{D D4:Gh}{p:PC}{k k':Nat}{c:C}{pv:Value}{R:Option (C×List Tk)}(hR:Hid (R=some (c,p.ts k')))(hp:PV D4 c.parts pv)(hg:Gr (some p.g) w D W D4)(hP:PS W D4 p k')(hk:k<k'):PSpec w D p k R (.returned (cv c pv)) W:=by
 rw[hR.out]
 exact⟨_,D4,k',rfl,hp,Gr.g,hP,rfl,hk⟩
theorem concept_s(n:Nat)(w:World)(D:Gh)(p:PC)(k:Nat)(hf:2*(p.toks.length-k)+1≤n)
  (ih:∀(w:World)(D:Gh)(k' m:Nat)[Keeps D w][PS w D p k'][TS D p],k≤k'→m≤n→2*(p.toks.length-k')+1≤m→Calls prog 160 #[p.ptr] w (PSpec w D p k' (pSingle m (p.ts k'))))
  [Keeps D w] [hP:PS w D p k] [hT:TS D p]:Calls prog 113 #[p.ptr] w (PSpec w D p k (pConcept (n+1) (p.ts k))):=by
 have hR:pConcept (n+1) (p.ts k)=(pSingle n (p.ts k)).bind fun x=>pMore n [x.1] x.2:=by rw[pConcept]
 generalize pConcept (n+1) (p.ts k)=R at hR⊢
 have HR:=hid hR
 clear hR
 have hb:=Box.lt (h:=hP.box)
 have hn:NeX w.heap.size (some p.g):=ne_size hb 0
 have:=hP.box.off
 go_enter func113,ntmps113
 go_wp2_with fail
 have ih0:=ih (w.alloc (.cells #[.int .i64 0,.string ⟨#[]⟩,.int .i64 0,.int .i64 0,.slice none 0 0] 31)) D k n (Nat.le_refl _) (Nat.le_refl _) hf
 have IH:=hid ih
 clear ih
 refine ih0.mono ?_
 clear ih0
 intro e w1 h1
 cases hs:pSingle n (p.ts k)
 ·rw[hs]at h1 HR
  obtain⟨⟨_,_,rfl⟩,D1,k1,hg1,hk1,hP1⟩:=h1
  go_wp2
  refine⟨rfl,?_⟩
  rw[HR.out]
  exact bad_ret ⟨_,_,rfl⟩ (Gr.g (D:=D1)) (k':=k1) ii (by omega)
 ·rename_i x
  rw[hs]at h1 HR
  obtain⟨pv,D1,k1,rfl,hpv,hg1,hP1,hr,hk1⟩:=h1
  obtain⟨a0,m0,rfl,_,_⟩:=PV.form hpv
  have hle1:=hg1.le
  go_wp2
  go_loopg [3] (p.toks.length-k1) (fun gk v wr=>∃(D':Gh)(k' m:Nat)(xs:List (C×Value)),gk=p.toks.length-k'∧k<k'∧Gr (some p.g) w D wr D'∧PS wr D' p k'∧Box wr D' w.heap.size 31 #[.int .i64 0,.string ⟨#[]⟩,.int .i64 0,.int .i64 0,.slice none 0 0]∧
   xs≠[]∧Own wr D' (w.heap.size+1) 31 5 v xs.length (xs.flatMap crow)∧(∀x∈xs,PV D' x.1.parts x.2)∧Hid (R=pMore m (xs.map (·.1)) (p.ts k'))∧m≤n∧2*(p.toks.length-k')+1≤m∧xs.length+k≤k')
  case atStart=>
   have hB1:Box w1 D1 w.heap.size 31 #[.int .i64 0,.string ⟨#[]⟩,.int .i64 0,.int .i64 0,.slice none 0 0]:=ii
   have hlt1:=Box.lt (h:=hB1)
   have hsub:∀Y,VT.Sub (Value.ownBlock (.slice (some ⟨w1.heap.size,0,none⟩) 1 1)) Y w:=fun Y=>⟨fun q hq _ e=>by have:=own_eq e.symm;omega⟩
   have:=hg1.keeps
   refine⟨D1,k1,n,[(x.1,.slice a0 x.1.parts.length m0)],rfl,by omega,ii,ii,ii,by simp,?_,?_,?_,by omega,by omega,by simp;omega⟩
   ·exact Own.lit (cs:=#[.int .i64 x.1.kind,.string (str x.1.nm),.int .i64 x.1.lo,.int .i64 x.1.hi,.slice a0 x.1.parts.length m0]) ii (by simp) (by simp[maxLen]) (by omega)
   ·intro z hz;obtain rfl:=List.mem_singleton.1 hz;exact hpv
   ·have h5:=HR.out;simp only[Option.bind_some]at h5;rw[←hr];exact h5
  case round=>
   obtain⟨D',k',m,xs,rfl,hkk,hG,hP',hB,hne,hO,hpvs,hRm,hmn,hmf,hxl⟩:=hrel
   have:=hG.keeps
   have hl':=hP'.lt
   obtain⟨m,rfl⟩:∃m',m=m'+1:=⟨m-1,by omega⟩
   have:=hP'.box.off
   have:=hB.off
   have hb':=Box.lt (h:=hP'.box)
   have hb2:=Box.lt (h:=hB)
   have hn':NeX w.heap.size (some p.g):=ne_size hb 0
   have:=gr_le hG
   have:TS D' p:=ii
   obtain⟨a0',c0',rfl⟩:=own_form hO
   have hlim:=hT.lim.2.2
   have hap:=hO.apart (g:=p.g) (by omega)
   have hap2:=hO.apart (g:=w.heap.size) (by omega)
   by_cases hand:hd (p.ts k')=w_and
   ·have hRm2:=hRm
    rw[pMore_and hand,p.tail_ts]at hRm2
    clear hRm
    go_wp2_with fail
    refine(skip_yes _ D' p k' w_and hand (by simp)).mono ?_
    rintro e w2 ⟨rfl,hc2,hP2⟩
    clear hand
    go_wp2_with fail
    have ih1:=IH.out w2 D' (k'+1) m (by omega) (by omega) (by omega)
    refine ih1.mono ?_
    clear ih1
    intro e w3 h3
    cases hs3:pSingle m (p.ts (k'+1))
    ·rw[hs3]at h3 hRm2
     obtain⟨⟨_,_,rfl⟩,D3,k3,hg3,hk3,hP3⟩:=h3
     go_wp2
     refine⟨rfl,?_⟩
     rw[show R=none from hRm2]
     exact bad_ret ⟨_,_,rfl⟩ (Gr.g (D:=D3)) (k':=k3) ii (by omega)
    ·rename_i y
     rw[hs3]at h3 hRm2
     obtain⟨pv3,D3,k3,rfl,hpv3,hg3,hP3,hr3,hk3⟩:=h3
     obtain⟨a3,m3,rfl,_,_⟩:=PV.form hpv3
     have hle3:=hg3.le
     have hB3:Box w3 D3 w.heap.size 31 _:=ii
     have hO3:Own w3 D3 (w.heap.size+1) 31 5 (.slice a0' xs.length c0') xs.length (xs.flatMap crow):=ii
     have:=hO3.sub (some p.g) (a:=w) (by omega)
     have hs3':=hc2.size
     have hs3'':=hg3.bl.size
     have hOx:∀o,Own (w3.alloc o) D3 (w.heap.size+1) 31 5 (.slice a0' xs.length c0') xs.length (xs.flatMap crow):=fun o=>ii
     have hBx:∀a b c d e,Box (w3.alloc (.cells #[.int .i64 a,.string b,.int .i64 c,.int .i64 d,.slice e y.1.parts.length m3] 31)) D3 w3.heap.size 31 _:=fun _ _ _ _ _=>ii
     have h1x:∀a b c d e u,u∈(#[.int .i64 a,.string b,.int .i64 c,.int .i64 d,.slice e y.1.parts.length m3]:Array Value).toList→u.oneCell'=true:=by
      intro a b c d e u hu
      simp only[List.mem_cons,List.not_mem_nil,or_false]at hu
      rcases hu with rfl|rfl|rfl|rfl|rfl<;>rfl
     go_wp2_with (at_builtin;refine wp_append_1 (v:=.slice a0' xs.length c0') rfl (.tmp 9) (.tmp 12) 29 rfl underlying29 el31 rfl (hOx _) rfl (hBx _ _ _ _ _) rfl (h1x _ _ _ _ _) (by unfold maxLen;omega) (by omega) (by simp;omega) ?_;intro v4 w4 hO4 hc4)
     have:=hO3.sub (some p.g) (a:=w) (by omega)
     have:=hO3.off
     have:=own_ne hO3 (g:=p.g) (by omega)
     have:=own_ne hO3 (g:=w.heap.size) (by omega)
     go_roundg (p.toks.length-k3)
     case measure=>omega
     case rel=>
      refine⟨D3,k3,m,xs++[(y.1,.slice a3 y.1.parts.length m3)],rfl,by omega,ii,ii,ii,by simp,?_,?_,?_,by omega,by omega,by simp;omega⟩
      ·have e1:(xs++[(y.1,Value.slice a3 y.1.parts.length m3)]).flatMap crow=xs.flatMap crow++[.int .i64 y.1.kind,.string (str y.1.nm),.int .i64 y.1.lo,.int .i64 y.1.hi,.slice a3 y.1.parts.length m3]:=by simp[crow]
       rw[e1,List.length_append];exact hO4
      ·intro z hz
       rcases List.mem_append.1 hz with hz|hz
       ·have:=hpvs z hz;exact ii
       ·obtain rfl:=List.mem_singleton.1 hz;exact hpv3
      ·simp only[Option.bind_some]at hRm2;rw[List.map_append,←hr3];exact hRm2
   ·go_wp2_with fail
    refine(skip_no _ D' p k' w_and hand).mono ?_
    rintro e w2 ⟨rfl,hc2⟩
    have hB2:Box w2 D' w.heap.size 31 #[.int .i64 0,.string ⟨#[]⟩,.int .i64 0,.int .i64 0,.slice none 0 0]:=ii
    have hO2:Own w2 D' (w.heap.size+1) 31 5 (.slice a0' xs.length c0') xs.length (xs.flatMap crow):=ii
    have q2:=Box.held5 hB2
    rcases xs with _|⟨x0,_|⟨x1,xr⟩⟩
    ·exact absurd rfl hne
    ·have hRm3:=hRm
     clear hRm
     rw[show([x0]:List (C×Value)).map (·.1)=[x0.1]from rfl,pMore_one hand]at hRm3
     clear hand
     have hpub:=hO2.pubPV hne hpvs
     obtain⟨D4,hPub,hPV⟩:=hpub
     obtain⟨b4,o4,p4,he4,hcr,hpv4⟩:=hPV.at_ (j:=0) rfl
     obtain rfl:a0'=_:=he4
     have:=hPub.keeps
     obtain⟨a5,m5,rfl,_,_⟩:=PV.form hpv4
     obtain⟨r0,r1,r2,r3,r4,r5⟩:=hcr.held (w:=w2)
     simp only[Nat.zero_mul,Nat.add_zero]at r0 r1 r2 r3 r4
     have hg4:=own_lt hO2.own b4 rfl
     go_wp2
     have:=hPub.gr (some p.g) w D ii (fun q e=>by have:=own_eq e;omega)
     have:=Pub.ps hPub (ii:PS w2 D' p k') (own_ne hO2 (by omega)).out
     have:=hPub.box hB2 (own_ne hO2 (by omega)).out
     have:=Box.off (self:=hPub.box hB2 (own_ne hO2 (by omega)).out)
     exact bodyPost_ret (v:=.agg #[.int .i64 x0.1.kind,.string (str x0.1.nm),.int .i64 x0.1.lo,.int .i64 x0.1.hi,.slice a5 x0.1.parts.length m5]) (by simp[results,results113,go_sem,Box.cell (D:=D4) (g:=w.heap.size)]) rfl (conc_ret hRm3 hpv4 ii ii (by omega))
    ·have hRm3:=hRm
     clear hRm
     rw[show(x0::x1::xr:List (C×Value)).map (·.1)=x0.1::x1.1::xr.map (·.1)from rfl,pMore_many hand]at hRm3
     clear hand
     obtain⟨D4,hPub,hPV⟩:=hO2.pubPV hne hpvs
     have hnlen:(x0::x1::xr).length≠1:=by simp
     have hPV2:PV D4 (C.and (x0.1::x1.1::xr.map (·.1))).parts (.slice a0' (x0::x1::xr).length c0'):=hPV
     clear hPV
     have hg4:=fun q e=>(own_lt hO2.own q e).1
     generalize(x0::x1::xr).length=nx at*
     generalize x0.1::x1.1::xr.map (·.1)=l at*
     clear hpvs
     have hlx:((nx:Int)==1)=false:=beq_eq_false_iff_ne.2 (by omega)
     have hoff:=Box.off (self:=hPub.box hB2 (own_ne hO2 (by omega)).out)
     go_wp2
     have:=hPub.gr (some p.g) w D ii (fun q e=>by have:=hg4 q e;omega)
     have:=Pub.ps hPub (ii:PS w2 D' p k') (own_ne hO2 (by omega)).out
     have:=hPub.box hB2 (own_ne hO2 (by omega)).out
     exact bodyPost_ret (v:=.agg #[.int .i64 5,.string ⟨#[]⟩,.int .i64 0,.int .i64 0,.slice a0' nx c0']) (by simp[results,results113,go_sem,Box.cell (D:=D4) (g:=w.heap.size)]) rfl (conc_ret (c:=.and l) hRm3 hPV2 ii ii (by omega))
end Go.Proofs.YticgonfhjcaohaaGreatDoor
namespace Go.Proofs.YticgonfhjcaohaaGreatDoor
open Go.RowKit Go.VT _root_.Go.Proofs.Tryz
theorem len_sizeL(l:List C):l.length≤sizeL l:=by
 induction l with
 |nil=>simp[sizeL]
 |cons a r ih=>simp only[List.length_cons,sizeL];have:=a.size_pos;omega
theorem neGt'{a b:Nat}(h:a<b):NeX b (some a):=⟨fun e=>by have:=Option.some.inj e;omega⟩
theorem hz115:(prog.info? 115).map (·.size)=some (7:Nat):=by kernel_rfl
theorem tcs_one(a b d h:Int)(s:ByteArray)(e i:Option Addr)(f g j k:Nat):(#[.int .i64 a,.string s,.int .i64 b,.int .i64 d,.slice e f g,.int .i64 h,.slice i j k]:Array Value).all (fun x=>x.oneCell')=true:=by simp[Value.oneCell']
def GSpec(w:World)(D:Gh)(c:C)(p:Value)(e:Ending)(w':World):Prop:=∃q D',e=.returned (tv c p q)∧TV D' c.parts q∧Gro none w D w' D'
theorem grow_s(N:Nat)(ih:∀(w:World)(D:Gh)(c:C)(a:Option Addr)(n m:Nat),c.size≤N→c.size≤1000→PV D c.parts (.slice a n m)→∀[Keeps D w],Calls prog 55 #[cv c (.slice a n m)] w (GSpec w D c (.slice a n m)))
  (w:World) (D:Gh) (c:C) (a:Option Addr) (n m:Nat) (hN:c.size≤N+1) (h1000:c.size≤1000) (hp:PV D c.parts (.slice a n m)) [hk:Keeps D w]:
  Calls prog 55 #[cv c (.slice a n m)] w (GSpec w D c (.slice a n m)):=by
 have IH:=hid ih
 clear ih
 obtain⟨hlen,hm1,hm2⟩:=PV_len hp
 have hsp:=c.size_parts
 have hln:=len_sizeL c.parts
 have HL:=hid hlen
 have HS:=hid hsp
 clear hlen hsp
 go_enter func55,ntmps55
 go_wp2_with fail
 have hcm:((w.alloc (.cells #[.int .i64 c.kind,.string (str c.nm),.int .i64 c.lo,.int .i64 c.hi,.slice a n m] 31)).alloc (.cells #[.int .i64 c.kind,.string (str c.nm),.int .i64 c.lo,.int .i64 c.hi,.slice a n m,.int .i64 1,.slice none 0 0] 115)).heap.size=w.heap.size+1+1:=by simp
 go_loopg [11] n (fun gk v wr=>∃(i:Nat)(D':Gh)(xs:List (C×Value×Value))(q:Value),v=.int .i64 i∧gk+i=n∧Gr none w D wr D'∧Box wr D' (w.heap.size+1) 115 #[.int .i64 c.kind,.string (str c.nm),.int .i64 c.lo,.int .i64 c.hi,.slice a n m,.int .i64 ((1+sizeL (c.parts.take i):Nat):Int),q]∧
  Own wr D' (w.heap.size+1+1) 115 7 q i (xs.flatMap trow)∧(xs=[]→q=.slice none 0 0)∧(∀x∈xs,PV D' x.1.parts x.2.1)∧(∀x∈xs,TV D' x.1.parts x.2.2)∧Hid (xs.map (·.1)=c.parts.take i))
 case atStart=>
  refine⟨0,D,[],.slice none 0 0,rfl,rfl,ii,?_,?_,fun _=>rfl,by simp,by simp,hid (by simp)⟩
  ·have:Box ((w.alloc (.cells #[.int .i64 c.kind,.string (str c.nm),.int .i64 c.lo,.int .i64 c.hi,.slice a n m] 31)).alloc (.cells #[.int .i64 c.kind,.string (str c.nm),.int .i64 c.lo,.int .i64 c.hi,.slice a n m,.int .i64 1,.slice none 0 0] 115)) D (w.heap.size+1) 115 #[.int .i64 c.kind,.string (str c.nm),.int .i64 c.lo,.int .i64 c.hi,.slice a n m,.int .i64 1,.slice none 0 0]:=Box.newAt (by simp)
   simpa[sizeL]using this
  ·have:=Own.nil ((w.alloc (.cells #[.int .i64 c.kind,.string (str c.nm),.int .i64 c.lo,.int .i64 c.hi,.slice a n m] 31)).alloc (.cells #[.int .i64 c.kind,.string (str c.nm),.int .i64 c.lo,.int .i64 c.hi,.slice a n m,.int .i64 1,.slice none 0 0] 115)) D 115 7
   rw[hcm]at this;exact this
 case round=>
  obtain⟨i,D',xs,q,rfl,hgk,hG,hB,hO,hq0,hpvs,htvs,HX⟩:=hrel
  have:=hG.keeps
  have:=gr_le hG
  have hsr:=Box.lt (h:=hB)
  obtain⟨aq,cq,rfl⟩:=own_form hO
  by_cases hi:i<n
  ·have hp':PV D' c.parts (.slice a n m):=ii
   obtain⟨c',b,o,a',n',m',hj,rfl,rfl,hpc,r0,r1,r2,r3,r4,r5⟩:=PV_elem (w:=wr) hp' (i:=i) (by rw[←HL.out];exact hi)
   have HJ:=hid hj
   have hat:=sizeL_at _ _ _ hj
   have htk:=sizeL_take _ _ _ hj
   have hz:=HS.out
   have hc':c'.size≤N:=by omega
   have hc'':c'.size≤1000:=by omega
   clear hj
   go_wp2_with fail
   refine(IH.out _ D' c' a' _ m' hc' hc'' hpc).mono ?_
   rintro e w3 ⟨q3,D3,rfl,htv3,hg3⟩
   obtain⟨a3,m3,rfl,_,_⟩:=TV.form htv3
   have:=hg3.keeps
   have hle3:=hg3.le
   have hB3:Box w3 D3 (w.heap.size+1) 115 _:=ii
   have hO3:Own w3 D3 (w.heap.size+1+1) 115 7 (.slice aq i cq) i (xs.flatMap trow):=ii
   have hs3:=Box.lt (h:=hB3)
   have hs3':=hg3.bl.size
   simp only[World.size_alloc]at hs3'
   have:=hB3.off
   have hn1:NeX w3.heap.size (some (w.heap.size+1)):=neGt' hs3
   have e5:=hB3.held (i:=5) rfl
   go_wp2_with ((with_reducible show wpList _ _ _ ((⟨some 23,_,_,_,_,_⟩:Oper)::_) _ _);refine stopL ?_)
   obtain⟨W5,hW5⟩:∃W5,W5=(w3.setCell ⟨w.heap.size+1,5,none⟩ (.int .i64 (1+↑(sizeL (c.parts.take i))+↑c'.size))).alloc (.cells #[.int .i64 c'.kind,.string (str c'.nm),.int .i64 c'.lo,.int .i64 c'.hi,.slice a' c'.parts.length m',.int .i64 c'.size,.slice a3 c'.parts.length m3] 115):=⟨_,rfl⟩
   have hg5:Gr none w D W5 D3:=hW5▸ii
   have hB5:Box W5 D3 (w.heap.size+1) 115 #[.int .i64 c.kind,.string (str c.nm),.int .i64 c.lo,.int .i64 c.hi,.slice (some ⟨b,o,none⟩) n m,.int .i64 (1+↑(sizeL (c.parts.take i))+↑c'.size),.slice aq i cq]:=by
    rw[hW5];exact ii
   have hO5:Own W5 D3 (w.heap.size+1+1) 115 7 (.slice aq i cq) i (xs.flatMap trow):=by
    rw[hW5];have:=Own.far (h:=hO3) (b:=w.heap.size+1) (o:=5) (fun q=>by have:=(hO3.lt _ q).1;omega) (.int .i64 (1+↑(sizeL (c.parts.take i))+↑c'.size));exact ii
   have hN5:Box W5 D3 w3.heap.size 115 #[.int .i64 c'.kind,.string (str c'.nm),.int .i64 c'.lo,.int .i64 c'.hi,.slice a' c'.parts.length m',.int .i64 c'.size,.slice a3 c'.parts.length m3]:=by
    rw[hW5];have:=Box.new (w3.setCell ⟨w.heap.size+1,5,none⟩ (.int .i64 (1+↑(sizeL (c.parts.take i))+↑c'.size))) D3 115 #[.int .i64 c'.kind,.string (str c'.nm),.int .i64 c'.lo,.int .i64 c'.hi,.slice a' c'.parts.length m',.int .i64 c'.size,.slice a3 c'.parts.length m3]
    simpa using this
   have hz5:w3.heap.size+1≤W5.heap.size:=by rw[hW5];simp
   have hnb:n≤1000:=by have:=HL.out;omega
   rw[←hW5]
   clear hW5
   have:=hg5.keeps
   have h1x:∀u,u∈(#[.int .i64 c'.kind,.string (str c'.nm),.int .i64 c'.lo,.int .i64 c'.hi,.slice a' c'.parts.length m',.int .i64 c'.size,.slice a3 c'.parts.length m3]:Array Value).toList→u.oneCell'=true:=by
    intro u hu
    simp only[List.mem_cons,List.not_mem_nil,or_false]at hu
    rcases hu with rfl|rfl|rfl|rfl|rfl|rfl|rfl<;>rfl
   have e6:=hB5.held (i:=6) rfl
   have n0:=hN5.held (i:=0) rfl
   have n1:=hN5.held (i:=1) rfl
   have n2:=hN5.held (i:=2) rfl
   have n3:=hN5.held (i:=3) rfl
   have n4:=hN5.held (i:=4) rfl
   have n5:=hN5.held (i:=5) rfl
   have n6:=hN5.held (i:=6) rfl
   have hOx:∀o,Own (W5.alloc o) D3 (w.heap.size+1+1) 115 7 (.slice aq i cq) i (xs.flatMap trow):=fun o=>ii
   have hNx:Box (W5.alloc (.cells #[.int .i64 c'.kind,.string (str c'.nm),.int .i64 c'.lo,.int .i64 c'.hi,.slice a' c'.parts.length m',.int .i64 c'.size,.slice a3 c'.parts.length m3] 115)) D3 W5.heap.size 115 #[.int .i64 c'.kind,.string (str c'.nm),.int .i64 c'.lo,.int .i64 c'.hi,.slice a' c'.parts.length m',.int .i64 c'.size,.slice a3 c'.parts.length m3]:=ii
   unfold Stop
   have hne5:NeX (w.heap.size+1) (Value.slice aq i cq).ownBlock:=own_ne hO5 (by omega)
   have:=hO5.off
   have:=hO5.sub none (a:=w) (by omega)
   go_wp2_with (at_builtin;refine wp_append_1 (v:=.slice aq i cq) rfl (.tmp 24) (.tmp 26) 113 rfl underlying113 el115 rfl (hOx _) rfl hNx rfl h1x (by unfold maxLen;omega) (by omega) (by simp;omega) ?_;intro v6 w6 hO6 hc6;obtain⟨a6,c6,rfl⟩:=own_form hO6;have hB6:Box w6 D3 (w.heap.size+1) 115 _:=ii;have e66:=hB6.held (i:=6) rfl;have hs6:=Box.lt (h:=hB6))
   have:=hB6.off
   have:=hO6.apart (g:=w.heap.size+1) (by omega)
   have e1:(xs++[(c',Value.slice a' c'.parts.length m',Value.slice a3 c'.parts.length m3)]).flatMap trow=xs.flatMap trow++[.int .i64 c'.kind,.string (str c'.nm),.int .i64 c'.lo,.int .i64 c'.hi,.slice a' c'.parts.length m',.int .i64 c'.size,.slice a3 c'.parts.length m3]:=by simp[trow]
   have hO7:Own (w6.setCell ⟨w.heap.size+1,6,none⟩ (.slice a6 (i+1) c6)) D3 (w.heap.size+1+1) 115 7 (.slice a6 (i+1) c6) (i+1) ((xs++[(c',Value.slice a' c'.parts.length m',Value.slice a3 c'.parts.length m3)]).flatMap trow):=by
    rw[e1];exact Own.far (h:=hO6) (fun q=>by have:=(hO6.lt _ q).1;omega) _
   have HT:=hid htk
   have hB7:Box (w6.setCell ⟨w.heap.size+1,6,none⟩ (.slice a6 (i+1) c6)) D3 (w.heap.size+1) 115 #[.int .i64 c.kind,.string (str c.nm),.int .i64 c.lo,.int .i64 c.hi,.slice (some ⟨b,o,none⟩) n m,.int .i64 ((1+sizeL (c.parts.take (i+1)):Nat):Int),.slice a6 (i+1) c6]:=by
    have:((1+sizeL (c.parts.take (i+1)):Nat):Int)=1+↑(sizeL (c.parts.take i))+↑c'.size:=by have:=HT.out;omega
    rw[this];exact ii
   go_roundg (gk-1)
   case measure=>omega
   case rel=>
    refine⟨i+1,D3,xs++[(c',.slice a' c'.parts.length m',.slice a3 c'.parts.length m3)],.slice a6 (i+1) c6,by simp,by omega,ii,hB7,hO7,by simp,?_,?_,hid ?_⟩
    ·intro z hz
     rcases List.mem_append.1 hz with hz|hz
     ·have:=hpvs z hz;exact ii
     ·obtain rfl:=List.mem_singleton.1 hz;have:=hpc;exact(ii:PV D3 c'.parts (.slice a' c'.parts.length m'))
    ·intro z hz
     rcases List.mem_append.1 hz with hz|hz
     ·have:=htvs z hz;exact ii
     ·obtain rfl:=List.mem_singleton.1 hz;exact htv3
    ·rw[List.map_append,HX.out,List.take_add_one,HJ.out];rfl
  ·have hfull:c.parts.take i=c.parts:=List.take_of_length_le (by have:=HL.out;omega)
   have hsz2:((1+sizeL (c.parts.take i):Nat):Int)=c.size:=by rw[hfull];have:=HS.out;omega
   have hxs:xs.map (·.1)=c.parts:=HX.out.trans hfull
   rw[hsz2]at hB
   have HX2:=hid hxs
   clear hxs hsz2 hfull HX
   go_wp2_with (first|((with_reducible show wpList _ _ _ ((⟨_,.load 115 _,_,_,_,_⟩:Oper)::_) _ _);refine wpList_load_row rfl 115 _ rfl (w.heap.size+1) rfl (115) _ (0,0) _ (hB.heap) underlying115 rfl (hz115) ?_)|((with_reducible show wpList _ _ _ ((⟨_,.store 115 _ _,_,_,_,_⟩:Oper)::_) _ _);refine wpList_storeTo rfl 115 _ _ rfl rfl (w.heap.size+1) (#[.int .i64 c.kind,.string (str c.nm),.int .i64 c.lo,.int .i64 c.hi,.slice a n m,.int .i64 c.size,.slice aq i cq]) rfl rfl _ (#[.int .i64 c.kind,.string (str c.nm),.int .i64 c.lo,.int .i64 c.hi,.slice a n m,.int .i64 c.size,.slice aq i cq]) (hB.heap) (hz115) rfl (tcs_one _ _ _ _ _ _ _ _ _ _ _) ?_))
   have:=hO.apart (g:=w.heap.size+1) (by omega)
   have:=hB.off
   have hB8:Box (wr.setRow (w.heap.size+1) #[.int .i64 c.kind,.string (str c.nm),.int .i64 c.lo,.int .i64 c.hi,.slice a n m,.int .i64 c.size,.slice aq i cq]) D' (w.heap.size+1) 115 #[.int .i64 c.kind,.string (str c.nm),.int .i64 c.lo,.int .i64 c.hi,.slice a n m,.int .i64 c.size,.slice aq i cq]:=ii
   have hO8:Own (wr.setRow (w.heap.size+1) #[.int .i64 c.kind,.string (str c.nm),.int .i64 c.lo,.int .i64 c.hi,.slice a n m,.int .i64 c.size,.slice aq i cq]) D' (w.heap.size+1+1) 115 7 (.slice aq i cq) i (xs.flatMap trow):=ii
   obtain⟨D4,hPub,hTV⟩:=hO8.pubTV hq0 hpvs htvs
   rw[HX2.out]at hTV
   have:=hPub.gr none w D ii (fun q e=>by have:=(hO8.lt q e).1;omega)
   refine bodyPost_ret (v:=.agg #[.int .i64 c.kind,.string (str c.nm),.int .i64 c.lo,.int .i64 c.hi,.slice a n m,.int .i64 c.size,.slice aq i cq]) ?_ rfl ?_
   ·exact hB8.result rfl rfl underlying115 rfl hz115
   ·exact⟨_,D4,rfl,hTV,Gr.g⟩
theorem grow_all(N:Nat):∀(w:World)(D:Gh)(c:C)(a:Option Addr)(n m:Nat),c.size≤N→c.size≤1000→PV D c.parts (.slice a n m)→∀[Keeps D w],Calls prog 55 #[cv c (.slice a n m)] w (GSpec w D c (.slice a n m)):=by
 induction N with
 |zero=>intro w D c a n m h;have:=c.size_pos;omega
 |succ N ih=>intro w D c a n m h h2 hp hk;exact grow_s N ih w D c a n m h h2 hp
theorem grow_c(w:World)(D:Gh)(c:C)(a:Option Addr)(n m:Nat)(h:c.size≤1000)(hp:PV D c.parts (.slice a n m))[hk:Keeps D w]:Calls prog 55 #[cv c (.slice a n m)] w (GSpec w D c (.slice a n m)):=
 grow_all c.size w D c a n m (Nat.le_refl _) h hp
end Go.Proofs.YticgonfhjcaohaaGreatDoor
namespace Go.Proofs.YticgonfhjcaohaaGreatDoor
open Go.RowKit Go.VT _root_.Go.Proofs.Tryz
def Lay(w w':World):Prop:=Bl none w w'∧w.drawn≤w'.drawn
class Drn(a w:World):Prop where
 out:a.drawn≤w.drawn
class DrF(w:outParam World)(w':World):Prop where
 out:w.drawn≤w'.drawn
instance(priority:=low) Drn.refl(w:World):Drn w w:=⟨Nat.le_refl _⟩
instance Drn.drew(a w:World)[h:Drn a w]:Drn a w.drew:=⟨Nat.le_succ_of_le h.out⟩
instance Drn.drewN(a w:World)(n:Nat)[h:Drn a w]:Drn a (w.drewN n):=⟨Nat.le_trans h.out (Nat.le_add_right _ _)⟩
instance Drn.alloc(a w:World)(o:Obj)[h:Drn a w]:Drn a (w.alloc o):=⟨h.out⟩
instance Drn.setCell(a w:World)(p:Addr)(u:Value)[h:Drn a w]:Drn a (w.setCell p u):=⟨h.out⟩
instance Drn.setRow(a w:World)(g:Nat)(cs:Array Value)[h:Drn a w]:Drn a (w.setRow g cs):=⟨h.out⟩
instance(priority:=high) Drn.call(a w w':World)[hc:DrF w w'][h:Drn a w]:Drn a w':=⟨Nat.le_trans h.out hc.out⟩
theorem Lay.of{a w:World}[h:Bel none a w][k:Drn a w]:Lay a w:=⟨h.out,k.out⟩
theorem TV_elem{D:Gh}{w:World}[Keeps D w]{l:List C}{a:Option Addr}{m cap i:Nat}(h:TV D l (.slice a m cap))(hi:i<l.length):
  ∃c b o a' n' m' a'' m'',l[i]? =some c∧a=some ⟨b,o,none⟩∧n'=c.parts.length∧PV D c.parts (.slice a' n' m')∧TV D c.parts (.slice a'' n' m'')∧w.cell? ⟨b,o+i*7,none⟩=some (.int .i64 c.kind)∧w.cell? ⟨b,o+i*7+1,none⟩=some (.string (str c.nm))∧w.cell? ⟨b,o+i*7+2,none⟩=some (.int .i64 c.lo)∧w.cell? ⟨b,o+i*7+3,none⟩=some (.int .i64 c.hi)∧w.cell? ⟨b,o+i*7+4,none⟩=some (.slice a' n' m')∧w.cell? ⟨b,o+i*7+5,none⟩=some (.int .i64 c.size)∧w.cell? ⟨b,o+i*7+6,none⟩=some (.slice a'' n' m'')∧b<w.heap.size:=by
 have hj:=List.getElem?_eq_getElem hi
 obtain⟨b,o,p,q,rfl,hc,hp,hq⟩:=h.at_ hj
 obtain⟨a',m',rfl,_,_⟩:=PV.form hp
 obtain⟨a'',m'',rfl,_,_⟩:=TV.form hq
 obtain⟨h0,h1,h2,h3,h4,h5,h6,h7⟩:=hc.held (w:=w)
 exact⟨_,b,o,a',_,m',a'',m'',hj,rfl,rfl,hp,hq,h0,h1,h2,h3,h4,h5,h6,h7⟩
theorem TV_len{D:Gh}{l:List C}{a:Option Addr}{n m:Nat}(h:TV D l (.slice a n m)):n=l.length∧n≤m∧m≤9223372036854775807:=by
 obtain⟨a',cap,he,h1,h2⟩:=TV.form h
 cases he
 exact⟨rfl,h1,h2⟩
def orF:List Int→Int
 |[]=>0
 |x::r=>lexI x (orF r)
theorem cmpHd_or(a b:C):cmpHd a b=orF [Lib.compareInt a.size b.size,Lib.compareInt a.kind b.kind,Lib.compareBytes a.nm b.nm,Lib.compareInt a.lo b.lo,Lib.compareInt a.hi b.hi]:=by
 have:∀x:Int,lexI x 0=x:=fun x=>by unfold lexI;split<;>omega
 simp only[cmpHd,orF,this]
theorem orF_drop{xs:List Int}{i:Nat}{v:Int}(h:xs[i]? =some v):orF (xs.drop i)=lexI v (orF (xs.drop (i+1))):=by
 obtain⟨hl,rfl⟩:=List.getElem?_eq_some_iff.1 h
 rw[List.drop_eq_getElem_cons hl,orF]
theorem or_c(w:World)(b c:Nat)(xs:List Int)(hx:∀(j:Nat) v,xs[j]? =some v→w.cell? ⟨b,j,none⟩=some (.int .i64 v))(hl:xs.length≤100):
  Calls prog 130 #[.slice (some ⟨b,0,none⟩) xs.length c] w fun e w'=>e=.returned (.int .i64 (orF xs))∧w'=w:=by
 have HX:=hid hx
 clear hx
 obtain⟨n,hn⟩:∃n,n=xs.length:=⟨_,rfl⟩
 rw[←hn]at hl⊢
 have HN:=hid hn
 clear hn
 go_enter func130,ntmps130
 go_wp2_with fail
 go_loopg [8] n (fun gk v wr=>∃i:Nat,v=.int .i64 i∧gk+i=n∧wr=w∧Hid (orF xs=orF (xs.drop i)))
 case atStart=>exact⟨0,rfl,rfl,rfl,hid rfl⟩
 case round=>
  obtain⟨i,rfl,hgk,rfl,HO⟩:=hrel
  by_cases hi:i<n
  ·obtain⟨v,hv⟩:∃v,xs[i]? =some v:=⟨_,List.getElem?_eq_getElem (by have:=HN.out;omega)⟩
   have hc:=HX.out i v hv
   have HV:=hid hv
   clear hv
   by_cases h0:v=0
   ·subst h0
    go_wp2_with fail
    go_roundg (gk-1)
    case measure=>omega
    case rel=>exact⟨i+1,by simp,by omega,rfl,hid (by rw[HO.out,orF_drop HV.out];simp[lexI])⟩
   ·have hb:(v==0)=false:=by simpa using h0
    go_wp2_with fail
    go_ret
    refine⟨?_,rfl⟩
    rw[HO.out,orF_drop HV.out];simp[lexI,h0]
  ·go_wp2_with fail
   go_ret
   refine⟨?_,rfl⟩
   rw[HO.out,List.drop_eq_nil_of_le (by have:=HN.out;omega)];rfl
theorem cmpI_c(x y:Int)(w:World):Calls prog 131 #[.int .i64 x,.int .i64 y] w fun e w'=>e=.returned (.int .i64 (Lib.compareInt x y))∧w'=w:=cmp_Compare_int x y w
theorem cmpS_c(a b:Bs)(w:World):Calls prog 132 #[.string (str a),.string (str b)] w fun e w'=>e=.returned (.int .i64 (Lib.compareBytes a b))∧w'=w:=strings_Compare (str a) (str b) w
def CmpS(N:Nat):Prop:=∀(w:World)(D:Gh)(c c':C)(a b a' b':Option Addr)(n m k l n' m' k' l':Nat),c.size≤N→PV D c.parts (.slice a n m)→TV D c.parts (.slice b k l)→PV D c'.parts (.slice a' n' m')→TV D c'.parts (.slice b' k' l')→∀[Keeps D w],
 Calls prog 56 #[tv c (.slice a n m) (.slice b k l),tv c' (.slice a' n' m') (.slice b' k' l')] w fun e w'=>e=.returned (.int .i64 (cmpC c c'))∧Lay w w'
theorem cmpL_drop{l m:List C}{i:Nat}{x y:C}(h:l[i]? =some x)(k:m[i]? =some y):cmpL (l.drop i) (m.drop i)=lexI (cmpC x y) (cmpL (l.drop (i+1)) (m.drop (i+1))):=by
 obtain⟨hl,rfl⟩:=List.getElem?_eq_some_iff.1 h
 obtain⟨hm,rfl⟩:=List.getElem?_eq_some_iff.1 k
 rw[List.drop_eq_getElem_cons hl,List.drop_eq_getElem_cons hm,cmpL]
theorem cmpFunc_s(N:Nat)(ih:CmpS N)(w:World)(D:Gh)(l m:List C)(a b:Option Addr)(n k n' k':Nat)(hl:sizeL l≤N)(hp:TV D l (.slice a n k))(hq:TV D m (.slice b n' k'))[hk:Keeps D w]:
  Calls prog 133 #[.slice a n k,.slice b n' k',.func (.func 56) #[] #[]] w fun e w'=>e=.returned (.int .i64 (cmpL l m))∧Lay w w':=by
 obtain⟨hlen,hm1,hm2⟩:=TV_len hp
 obtain⟨hlen',hm1',hm2'⟩:=TV_len hq
 have IH:=hid ih
 have HL:=hid hlen
 have HL':=hid hlen'
 have HZ:=hid hl
 clear ih hlen hl hlen'
 have eg:∀args w,(callFunc 56 args).run prog w=.ok (.enter 56 args) w:=enters_of func56 (by kernel_rfl) rfl
 go_enter func133,ntmps133
 go_wp2_with fail
 go_loopg [13] n (fun gk v wr=>∃i:Nat,v=.int .i64 i∧gk+i=n∧i≤n'∧Gr none w D wr D∧Drn w wr∧Hid (cmpL l m=cmpL (l.drop i) (m.drop i)))
 case atStart=>exact⟨0,rfl,rfl,Nat.zero_le _,ii,ii,hid rfl⟩
 case round=>
  obtain⟨i,rfl,hgk,hin',hG,hD,HB⟩:=hrel
  have:=hG.keeps
  have:=hG.toBel
  by_cases hi:i<n
  ·obtain⟨c1,b1,o1,a1,n1,m1,a1',m1',hj,rfl,rfl,hp1,hq1,r0,r1,r2,r3,r4,r5,r6,r7⟩:=TV_elem (w:=wr) hp (i:=i) (by rw[←HL.out];exact hi)
   have HJ:=hid hj
   have hc1:c1.size≤N:=by have:=sizeL_at _ _ _ hj;have:=HZ.out;omega
   clear hj
   by_cases hi':i<n'
   ·obtain⟨c2,b2,o2,a2,n2,m2,a2',m2',hj2,rfl,rfl,hp2,hq2,s0,s1,s2,s3,s4,s5,s6,s7⟩:=TV_elem (w:=wr) hq (i:=i) (by rw[←HL'.out];exact hi')
    have HJ2:=hid hj2
    clear hj2
    go_wp2_with fail
    refine(IH.out _ D c1 c2 _ _ _ _ _ _ _ _ _ _ _ _ hc1 hp1 hq1 hp2 hq2).mono ?_
    rintro e w3 ⟨rfl,hlay⟩
    have:Cll none _ w3:=⟨hlay.1⟩
    have:DrF _ w3:=⟨hlay.2⟩
    by_cases h0:cmpC c1 c2=0
    ·have HH:=hid h0
     rw[h0]
     clear h0 hlay
     go_wp2_with fail
     go_roundg (gk-1)
     case measure=>omega
     case rel=>
      refine⟨i+1,by simp,by omega,by omega,ii,ii,hid ?_⟩
      rw[HB.out,cmpL_drop HJ.out HJ2.out,HH.out];simp[lexI]
    ·have hb:(cmpC c1 c2==0)=false:=by simpa using h0
     have HH:=hid h0
     clear h0 hlay
     go_wp2_with fail
     go_ret
     refine⟨?_,Lay.of⟩
     rw[HB.out,cmpL_drop HJ.out HJ2.out];simp[lexI,HH.out]
   ·go_wp2_with fail
    go_ret
    refine⟨?_,Lay.of⟩
    have e1:m.drop i=[]:=List.drop_eq_nil_of_le (by have:=HL'.out;omega)
    obtain⟨hlt,rfl⟩:=List.getElem?_eq_some_iff.1 HJ.out
    rw[HB.out,e1,List.drop_eq_getElem_cons hlt,cmpL];rfl
  ·have e1:l.drop i=[]:=List.drop_eq_nil_of_le (by have:=HL.out;omega)
   by_cases hnn:n<n'
   ·obtain⟨y,q,hy⟩:∃y q,m.drop i=y::q:=by
     rcases h:m.drop i with _|⟨y,q⟩
     ·have:=List.drop_eq_nil_iff.1 h;have:=HL'.out;have:=HL.out;omega
     ·exact⟨y,q,rfl⟩
    have HE:=hid (show cmpL l m= -1 by rw[HB.out,e1,hy];simp[cmpL])
    clear hy e1
    go_wp2_with fail
    go_ret
    exact⟨by rw[HE.out];rfl,Lay.of⟩
   ·have e2:m.drop i=[]:=List.drop_eq_nil_of_le (by have:=HL'.out;omega)
    have HE:=hid (show cmpL l m=0 by rw[HB.out,e1,e2];simp[cmpL])
    clear e1 e2
    go_wp2_with fail
    go_ret
    exact⟨by rw[HE.out];rfl,Lay.of⟩
theorem cmp_s(N:Nat)(ih:CmpS N):CmpS (N+1):=by
 intro w D c c' a b a' b' n m k l n' m' k' l' hN hp hq hp' hq' hk
 obtain⟨W,hW⟩:∃W,W=(w.alloc (.cells #[.int .i64 c.kind,.string (str c.nm),.int .i64 c.lo,.int .i64 c.hi,.slice a n m,.int .i64 c.size,.slice b k l] 115)).alloc (.cells #[.int .i64 c'.kind,.string (str c'.nm),.int .i64 c'.lo,.int .i64 c'.hi,.slice a' n' m',.int .i64 c'.size,.slice b' k' l'] 115):=⟨_,rfl⟩
 have hB1:Box W D w.heap.size 115 #[.int .i64 c.kind,.string (str c.nm),.int .i64 c.lo,.int .i64 c.hi,.slice a n m,.int .i64 c.size,.slice b k l]:=hW▸ii
 have hB2:Box W D (w.heap.size+1) 115 #[.int .i64 c'.kind,.string (str c'.nm),.int .i64 c'.lo,.int .i64 c'.hi,.slice a' n' m',.int .i64 c'.size,.slice b' k' l']:=by rw[hW];exact Box.newAt (by simp)
 have hK:Keeps D W:=hW▸ii
 have hc0:Bel none w W:=hW▸ii
 have hd0:Drn w W:=hW▸ii
 have r0:=(hB1.held (i:=0) rfl).1
 have s0:=(hB2.held (i:=0) rfl).1
 have r1:=(hB1.held (i:=1) rfl).1
 have s1:=(hB2.held (i:=1) rfl).1
 have r2:=(hB1.held (i:=2) rfl).1
 have s2:=(hB2.held (i:=2) rfl).1
 have r3:=(hB1.held (i:=3) rfl).1
 have s3:=(hB2.held (i:=3) rfl).1
 have r4:=(hB1.held (i:=4) rfl).1
 have s4:=(hB2.held (i:=4) rfl).1
 have r5:=(hB1.held (i:=5) rfl).1
 have s5:=(hB2.held (i:=5) rfl).1
 have r6:=(hB1.held (i:=6) rfl).1
 have s6:=(hB2.held (i:=6) rfl).1
 have rs:=hB1.lt
 have ss:=hB2.lt
 have HH:=hid (cmpHd_or c c')
 have HC:=hid (cmpC_eq c c')
 have HS:=hid (show sizeL c.parts≤N by have:=C.size_parts c;omega)
 have IH:=hid ih
 clear ih hN
 have HW:=hid hW
 clear hW
 go_enter func56,ntmps56
 repeat((fail_if_success (with_reducible show Code.wp _ (Code.region 1 _ _) _ _ _));go_step)
 rw[←HW.out]
 refine wp_region_still_tail 33 (by kernel_rfl) (by kernel_rfl) ?_
 simp only[List.take_succ_cons,List.take_zero,List.drop_succ_cons,List.drop_zero]
 repeat(first|still_step|still_call (cmpI_c _ _ _)|still_call (cmpS_c _ _ _))
 refine wpStill_nil ?_
 change wpList _ _ _ _ _ W.drew
 generalize Lib.compareInt (c.size:Int) (c'.size:Int)=v1 at*
 generalize Lib.compareInt c.kind c'.kind=v2 at*
 generalize Lib.compareBytes c.nm c'.nm=v3 at*
 generalize Lib.compareInt c.lo c'.lo=v4 at*
 generalize Lib.compareInt c.hi c'.hi=v5 at*
 go_wp2_with fail
 have hB3:Box ((W.alloc (.cells #[.int .i64 v1,.int .i64 v2,.int .i64 v3,.int .i64 v4,.int .i64 v5] 3)).drew) D W.heap.size 3 #[.int .i64 v1,.int .i64 v2,.int .i64 v3,.int .i64 v4,.int .i64 v5]:=ii
 obtain⟨W2,hW2⟩:∃W2,W2=(W.alloc (.cells #[.int .i64 v1,.int .i64 v2,.int .i64 v3,.int .i64 v4,.int .i64 v5] 3)).drew:=⟨_,rfl⟩
 rw[←hW2]at hB3⊢
 have hK2:Keeps D W2:=hW2▸ii
 have hc2:Bel none w W2:=hW2▸ii
 have hd2:Drn w W2:=hW2▸ii
 have hB1':Box W2 D w.heap.size 115 #[.int .i64 c.kind,.string (str c.nm),.int .i64 c.lo,.int .i64 c.hi,.slice a n m,.int .i64 c.size,.slice b k l]:=hW2▸ii
 have hB2':Box W2 D (w.heap.size+1) 115 #[.int .i64 c'.kind,.string (str c'.nm),.int .i64 c'.lo,.int .i64 c'.hi,.slice a' n' m',.int .i64 c'.size,.slice b' k' l']:=hW2▸ii
 have x6:=(hB1'.held (i:=6) rfl).1
 have y6:=(hB2'.held (i:=6) rfl).1
 clear hW2
 refine(or_c W2 W.heap.size 5 [v1,v2,v3,v4,v5] (fun j v e=>by
  rw[Box.cell (D:=D)]
  rcases j with _|_|_|_|_|j<;>simp_all) (by simp)).mono ?_
 rintro e w1 ⟨rfl,rfl⟩
 rw[←HH.out]
 by_cases h0:cmpHd c c'=0
 ·have H0:=hid h0
  rw[h0]
  clear h0
  go_wp2_with fail
  refine(cmpFunc_s N IH.out _ D c.parts c'.parts _ _ _ _ _ _ HS.out hq hq').mono ?_
  rintro e w3 ⟨rfl,hlay⟩
  have:Cll none _ w3:=⟨hlay.1⟩
  have:DrF _ w3:=⟨hlay.2⟩
  go_wp2
  go_ret
  refine⟨?_,Lay.of⟩
  rw[HC.out,H0.out];simp[lexI]
 ·have hb:(cmpHd c c'==0)=false:=by simpa using h0
  have H0:=hid h0
  clear h0
  go_wp2_with fail
  go_ret
  refine⟨?_,Lay.of⟩
  rw[HC.out];simp[lexI,H0.out]
theorem cmp_all(N:Nat):CmpS N:=by
 induction N with
 |zero=>intro w D c c' a b a' b' n m k l n' m' k' l' h;have:=c.size_pos;omega
 |succ N ih=>exact cmp_s N ih
theorem cmp_c(w:World)(D:Gh)(c c':C)(a b a' b':Option Addr)(n m k l n' m' k' l':Nat)(hp:PV D c.parts (.slice a n m))(hq:TV D c.parts (.slice b k l))(hp':PV D c'.parts (.slice a' n' m'))(hq':TV D c'.parts (.slice b' k' l'))[Keeps D w]:
  Calls prog 56 #[tv c (.slice a n m) (.slice b k l),tv c' (.slice a' n' m') (.slice b' k' l')] w fun e w'=>e=.returned (.int .i64 (cmpC c c'))∧Lay w w':=
 cmp_all c.size w D c c' a b a' b' n m k l n' m' k' l' (Nat.le_refl _) hp hq hp' hq'
end Go.Proofs.YticgonfhjcaohaaGreatDoor
