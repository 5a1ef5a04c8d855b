/- TopParsed, part 6. -/
import Derived.Test.YticgonfhjcaohaaGreatDoorP03
import Derived.Test.YticgonfhjcaohaaGreatDoorP04
set_option maxRecDepth 100000
set_option maxHeartbeats 32000000
namespace Go.VT
abbrev KT:=Int×Bs
mutual
def tokC:C→List KT
 |.top=>[(1,w_everything)]
 |.bot=>[(1,w_nothing)]
 |.named s=>[(1,s)]
 |.nom s=>[(3,[123]),(1,s),(3,[125])]
 |.and []=>[]
 |.and (c::l)=>tokO c++tokR l
 |.some r c=>(1,w_some)::(1,r)::tokO c
 |.range f lo hi=>[(1,f),(1,w_in),(2,Lib.itoa lo),(1,w_to),(2,Lib.itoa hi)]
def tokO:C→List KT
 |.and []=>[(3,[40]),(3,[41])]
 |.and (c::l)=>(3,[40])::(tokO c++tokR l)++[(3,[41])]
 |.top=>[(1,w_everything)]
 |.bot=>[(1,w_nothing)]
 |.named s=>[(1,s)]
 |.nom s=>[(3,[123]),(1,s),(3,[125])]
 |.some r c=>(1,w_some)::(1,r)::tokO c
 |.range f lo hi=>[(1,f),(1,w_in),(2,Lib.itoa lo),(1,w_to),(2,Lib.itoa hi)]
def tokR:List C→List KT
 |[]=>[]
 |c::l=>(1,w_and)::tokO c++tokR l
end
def isAnd:C→Bool|.and _=>true|_=>false
theorem tokO_and(l:List C):tokO (.and l)=(3,[40])::tokC (.and l)++[(3,[41])]:=by cases l<;>simp[tokO,tokC]
theorem tokO_no{c:C}(h:isAnd c=false):tokO c=tokC c:=by cases c<;>simp[isAnd]at h<;>simp[tokO,tokC]
def kt(t:Tk):KT:=(t.kind,t.text)
abbrev Beg(ts:List Tk)(p:List KT)(r:List Tk):Prop:=∃q,ts=q++r∧q.map kt=p
theorem Beg.cons{ts:List Tk}{a:KT}{p:List KT}{r:List Tk}(h:Beg ts (a::p) r):∃t ts',ts=t::ts'∧kt t=a∧Beg ts' p r:=by
 obtain⟨q,rfl,hq⟩:=h
 cases q with
 |nil=>simp at hq
 |cons t q=>
  simp only[List.map_cons,List.cons.injEq]at hq
  exact⟨t,q++r,rfl,hq.1,q,rfl,hq.2⟩
theorem Beg.nil{ts r:List Tk}(h:Beg ts [] r):ts=r:=by
 obtain⟨q,rfl,hq⟩:=h
 cases q with
 |nil=>rfl
 |cons=>simp at hq
theorem Beg.app{ts:List Tk}{p p':List KT}{r:List Tk}(h:Beg ts (p++p') r):∃r',Beg ts p r'∧Beg r' p' r:=by
 obtain⟨q,rfl,hq⟩:=h
 obtain⟨a,b,rfl,h1,h2⟩:=List.map_eq_append_iff.1 hq
 exact⟨b++r,⟨a,by rw[List.append_assoc],h1⟩,b,rfl,h2⟩
theorem hd_kt{t:Tk}{ts:List Tk}{k:Int}{s:Bs}(h:kt t=(k,s)):hd (t::ts)=s:=by simp only[kt,Prod.mk.injEq]at h;exact h.2
theorem tw_all{p:UInt8→Bool}:∀{q:Bs},(∀y∈q,p y=true)→q.takeWhile p=q
 |[],_=>rfl
 |a::q,h=>by rw[List.takeWhile_cons,if_pos (h a (by simp)),tw_all (fun y hy=>h y (by simp[hy]))]
theorem pName_plain'{t:Tk}{r:List Tk}{s:Bs}(h:kt t=(1,s))(hp:plainB s=true):pName (t::r)=some (s,r):=by
 obtain⟨k,x,a⟩:=t
 simp only[kt,Prod.mk.injEq]at h
 obtain⟨rfl,rfl⟩:=h
 have h2:keyword x=false∧(x.head?==some 95)=false:=by
  simp only[plainB,Bool.and_eq_true,decide_eq_true_eq,cutC]at hp
  obtain⟨⟨_,h1⟩,h3⟩:=hp
  cases x with
  |nil=>simp[wordB]at h1
  |cons c q=>
   by_cases hc:c=58
   ·subst hc;simp[wordB]at h1
   ·have hcc:(c != 58)=true:=by simpa using hc
    simp only[List.takeWhile_cons,hcc,if_true]at h1
    simp only[wordB,Bool.and_eq_true,Bool.not_eq_true']at h1
    refine⟨?_,?_⟩
    ·by_cases hq:q.contains 58=true
     ·cases hk:keyword (c::q)
      ·rfl
      ·exfalso
       have:∀s∈kws,s.contains 58=false:=by decide
       have hm:(c::q)∈kws:=by simpa[keyword]using hk
       have:=this _ hm
       simp only[List.contains_cons,hq,Bool.or_true]at this
       cases this
     ·have hq':∀y∈q,(y != 58)=true:=fun y hy=>by
       simp only[List.contains_eq_mem,decide_eq_true_eq]at hq
       simp only[bne_iff_ne,ne_eq];rintro rfl;exact hq hy
      have:q.takeWhile (fun x=>x != 58)=q:=by
       exact tw_all hq'
      rw[this]at h1;exact h1.2
    ·cases hu:((c::q).head?==some 95)
     ·rfl
     ·exfalso
      simp at hu
      subst hu
      exact absurd h1.1.1 (by decide)
 show(if atName (⟨1,x,a⟩::r)&& !(x.head?==some 95)&&plainB x then some (x,r)else none)=_
 simp[atName,h2.1,h2.2,hp]
theorem plain_ne{s:Bs}(h:plainB s=true):∀k∈kws,s≠k:=by
 rintro k hk rfl
 have h1:atName [⟨1,s,0⟩]=true:=by
  have:=pName_plain' (t:=⟨1,s,0⟩) (r:=[]) rfl h
  simp only[pName]at this
  split at this
  ·rename_i hh;simp only[Bool.and_eq_true]at hh;exact hh.1.1
  ·cases this
 have hkk:keyword s=true:=by simp only[keyword,List.contains_eq_mem,decide_eq_true_eq];exact hk
 simp[atName,hkk]at h1
theorem plain_ne1{s:Bs}(h:plainB s=true)(c:UInt8)(hc:letterB c=false):s≠[c]:=by
 rintro rfl
 have:∀c:UInt8,letterB c=false→plainB [c]=false:=by
  intro c hc
  simp only[plainB,cutC]
  by_cases h58:c=58
  ·subst h58;decide
  ·have hcc:(c != 58)=true:=by simpa using h58
   simp[hcc,wordB,hc]
 rw[this c hc]at h;cases h
theorem dec_char:∀d:Nat,d<10→digitB (UInt8.ofNat (48+d))=true∧((UInt8.ofNat (48+d)).toNat:Int)=48+(d:Int):=by
 intro d hd
 have:∀d:Fin 10,digitB (UInt8.ofNat (48+d.val))=true∧(UInt8.ofNat (48+d.val)).toNat=48+d.val:=by decide
 have:=this ⟨d,hd⟩
 exact⟨this.1,by have h2:=this.2;simp only at h2;omega⟩
theorem dec_all(u:Nat):(Lib.decDigits u).all digitB=true∧digitsVal (Lib.decDigits u)=u∧Lib.decDigits u≠[]∧(0<u→(Lib.decDigits u).head?≠some 48):=by
 induction u using Nat.strongRecOn with
 |_ u ih=>
  rw[Lib.decDigits]
  by_cases h:u<10
  ·rw[dif_pos h]
   have k:=dec_char u h
   refine⟨by rw[List.all_cons,k.1];rfl,?_,by simp,fun h0=>?_⟩
   ·simp only[digitsVal,List.foldl_cons,List.foldl_nil,k.2];omega
   ·simp only[List.head?_cons,ne_eq,Option.some.injEq]
    intro e
    have:=k.2;rw[e]at this
    simp at this;omega
  ·rw[dif_neg h]
   obtain⟨h1,h2,h3,h4⟩:=ih (u/10) (by omega)
   have k:=dec_char (u%10) (by omega)
   refine⟨by simp only[List.all_append,h1,List.all_cons,List.all_nil,k.1];rfl,?_,by simp,fun _=>?_⟩
   ·simp only[digitsVal]at h2⊢
    rw[List.foldl_append,h2]
    simp only[List.foldl_cons,List.foldl_nil,k.2];omega
   ·rw[List.head?_append]
    have:=h4 (by omega)
    cases hh:(Lib.decDigits (u/10)).head? with
    |none=>rw[List.head?_eq_none_iff]at hh;exact absurd hh h3
    |some a=>rw[hh]at this;simpa using this
theorem dec_len{u:Nat}(h:u<10000000000000):(Lib.decDigits u).length≤13:=by
 rw[Lib.decDigits_length]
 rcases Nat.lt_or_ge 13 (Lib.nDigits u)with hk|hk
 ·exfalso
  have key:∀(k u:Nat),k+1<Lib.nDigits u→10^(k+1)≤u:=by
   intro k
   induction k with
   |zero=>
    intro u hu
    by_cases h:u<10
    ·rw[Lib.nDigits_small h]at hu;omega
    ·simpa using h
   |succ k ih=>
    intro u hu
    by_cases h:u<10
    ·rw[Lib.nDigits_small h]at hu;omega
    ·rw[Lib.nDigits_big h]at hu
     have:=ih (u/10) (by omega)
     rw[Nat.pow_succ];omega
  have:=key 12 u hk
  simp at this;omega
 ·exact hk
theorem itoa_num{n:Int}(h1: -maxN≤n)(h2:n≤maxN):integerB (Lib.itoa n)=true∧intVal (Lib.itoa n)=n∧(Lib.itoa n).length≤14∧(∃c r,Lib.itoa n=c::r∧(c=45∧r.all digitB=true∧r≠[]∨(c::r).all digitB=true)):=by
 simp only[maxN]at h1 h2
 unfold Lib.itoa
 by_cases hn:n<0
 ·rw[if_pos hn]
  obtain⟨k1,k2,k3,k4⟩:=dec_all n.natAbs
  have k5:=dec_len (u:=n.natAbs) (by omega)
  refine⟨?_,?_,by simp only[List.length_cons];omega,_,_,rfl,.inl ⟨rfl,k1,k3⟩⟩
  ·have h0:((Lib.decDigits n.natAbs).head?==some 48)=false:=by simpa using k4 (by omega)
   have hl:1≤(Lib.decDigits n.natAbs).length:=by
    cases hh:Lib.decDigits n.natAbs with
    |nil=>exact absurd hh k3
    |cons=>simp
   simp only[integerB,List.head?_cons,if_true,List.tail_cons,h0,k1,hl,Bool.or_eq_true,Bool.and_eq_true,decide_eq_true_eq]
   right;exact⟨⟨⟨trivial,by omega⟩,rfl⟩,trivial⟩
  ·simp only[intVal,k2];omega
 ·rw[if_neg hn]
  obtain⟨k1,k2,k3,k4⟩:=dec_all n.toNat
  have k5:=dec_len (u:=n.toNat) (by omega)
  obtain⟨c,r,hcr⟩:∃c r,Lib.decDigits n.toNat=c::r:=by
   cases hh:Lib.decDigits n.toNat with
   |nil=>exact absurd hh k3
   |cons c r=>exact⟨c,r,rfl⟩
  have hc45:c≠45:=by
   rintro rfl
   rw[hcr]at k1
   simp only[List.all_cons,Bool.and_eq_true]at k1
   exact absurd k1.1 (by decide)
  refine⟨?_,?_,by omega,_,_,hcr,.inr (hcr▸k1)⟩
  ·by_cases h0:n.toNat=0
   ·rw[h0,Lib.decDigits,dif_pos (by omega)];decide
   ·have h4:((Lib.decDigits n.toNat).head?==some 48)=false:=by simpa using k4 (by omega)
    have h5:¬(Lib.decDigits n.toNat).head?=some 45:=by rw[hcr];simpa using hc45
    have hl:1≤(Lib.decDigits n.toNat).length:=by rw[hcr];simp
    simp only[integerB,if_neg h5,h4,k1,hl,Bool.or_eq_true,Bool.and_eq_true,decide_eq_true_eq]
    right;exact⟨⟨⟨trivial,by omega⟩,rfl⟩,trivial⟩
  ·rw[hcr]at k2⊢
   unfold intVal
   split
   ·rename_i heq;cases heq;exact absurd rfl hc45
   ·rw[k2];omega
theorem pSingle_top{n:Nat}{ts:List Tk}(h:hd ts=w_everything):pSingle (n+1) ts=some (.top,ts.tail):=by
 rw[pSingle,if_pos h]
theorem wordT_hd{ts r:List Tk}{k:Int}{s:Bs}{p:List KT}(h:Beg ts ((k,s)::p) r):hd ts=s∧Beg ts.tail p r:=by
 obtain⟨t,ts',rfl,ht,hb⟩:=h.cons
 exact⟨hd_kt ht,hb⟩
theorem pName_beg{ts r:List Tk}{s:Bs}{p:List KT}(h:Beg ts ((1,s)::p) r)(hs:plainB s=true):∃ts',pName ts=some (s,ts')∧Beg ts' p r:=by
 obtain⟨t,ts',rfl,ht,hb⟩:=h.cons
 exact⟨ts',pName_plain' ht hs,hb⟩
theorem pNum_beg{ts r:List Tk}{n least:Int}{p:List KT}(h:Beg ts ((2,Lib.itoa n)::p) r)(h1: -maxN≤n)(h2:n≤maxN)(h3:least≤n):∃ts',pNum least ts=some (n,ts')∧Beg ts' p r:=by
 obtain⟨t,ts',rfl,ht,hb⟩:=h.cons
 obtain⟨k,x,a⟩:=t
 simp only[kt,Prod.mk.injEq]at ht
 obtain⟨rfl,rfl⟩:=ht
 refine⟨ts',?_,hb⟩
 have:=(itoa_num h1 h2).2.1
 simp only[pNum,this]
 simp[h2,h3]
theorem tokO_hd{c:C}(hw:c.wf){ts r:List Tk}(h:Beg ts (tokO c) r):(hd ts≠w_in)∧ts≠[]:=by
 have key:∀k s p,tokO c=(k,s)::p→s≠w_in→hd ts≠w_in∧ts≠[]:=by
  intro k s p e hs
  rw[e]at h
  obtain⟨t,ts',rfl,ht,hb⟩:=h.cons
  exact⟨by rw[hd_kt ht];exact hs,by simp⟩
 cases c with
 |top=>exact key _ _ _ (by rw[tokO]) (by decide)
 |bot=>exact key _ _ _ (by rw[tokO]) (by decide)
 |named s=>exact key _ _ _ (by rw[tokO]) (plain_ne hw _ (by decide))
 |nom s=>exact key _ _ _ (by rw[tokO]) (by decide)
 |and l=>exact key _ _ _ (by rw[tokO_and];rfl) (by decide)
 |some r c=>exact key _ _ _ (by rw[tokO]) (by decide)
 |range f lo hi=>exact key _ _ _ (by rw[tokO]) (plain_ne hw.1 _ (by decide))
theorem more_tok(N:Nat)(ih:∀c:C,c.size≤N→c.wf→∀n,3*c.size≤n+(if isAnd c then 0 else 2)→∀ts r,Beg ts (tokO c) r→hd r≠w_in→pSingle n ts=some (c,r)):
  ∀(l acc:List C)(n:Nat),sizeL l≤N→C.wf.wfL l→3*sizeL l+1≤n→∀ts r,Beg ts (tokR l) r→hd r≠w_in→hd r≠w_and→
   pMore n acc ts=match acc++l with| [c]=>some (c,r)|L=>some (.and L,r):=by
 intro l
 induction l with
 |nil=>
  intro acc n _ _ hn ts r hb hin hand
  rw[tokR]at hb
  obtain rfl:=hb.nil
  obtain⟨n,rfl⟩:∃m,n=m+1:=⟨n-1,by omega⟩
  rw[List.append_nil]
  rcases acc with _|⟨a,_|⟨b,q⟩⟩
  ·rw[pMore,if_neg hand];simp
  ·rw[pMore,if_neg hand]
  ·rw[pMore,if_neg hand];simp
 |cons c l ihl=>
  intro acc n hs hw hn ts r hb hin hand
  simp only[sizeL]at hs hn
  obtain⟨n,rfl⟩:∃m,n=m+1:=⟨n-1,by omega⟩
  rw[tokR,List.cons_append]at hb
  obtain⟨h1,hb⟩:=wordT_hd hb
  obtain⟨r',hb1,hb2⟩:=hb.app
  have hr':hd r'≠w_in:=by
   cases l with
   |nil=>rw[tokR]at hb2;rw[hb2.nil];exact hin
   |cons c2 l2=>rw[tokR,List.cons_append]at hb2;rw[(wordT_hd hb2).1];decide
  have hc:=c.size_pos
  have ha:pMore (n+1) acc ts=(pSingle n ts.tail).bind fun x=>pMore n (acc++[x.1]) x.2:=by
   rcases acc with _|⟨a,_|⟨b,q⟩⟩<;>simp[pMore,h1]
  rw[ha,ih c (by omega) hw.1 n (by split<;>omega) _ r' hb1 hr']
  simp only[Option.bind_some]
  rw[ihl (acc++[c]) n (by omega) hw.2 (by omega) r' r hb2 hin hand,List.append_assoc];rfl
theorem conc_of(N:Nat)(ih:∀c:C,c.size≤N→c.wf→∀n,3*c.size≤n+(if isAnd c then 0 else 2)→∀ts r,Beg ts (tokO c) r→hd r≠w_in→pSingle n ts=some (c,r)):
  ∀(c:C),(c.size≤N∨isAnd c=true∧c.size≤N+1)→c.wf→∀n,3*c.size≤n+1→∀ts r,Beg ts (tokC c) r→hd r≠w_in→hd r≠w_and→pConcept n ts=some (c,r):=by
 intro c hN hw n hn ts r hb hin hand
 have hpos:=c.size_pos
 obtain⟨n,rfl⟩:∃m,n=m+1:=⟨n-1,by omega⟩
 by_cases hA:isAnd c=true
 ·cases c with
  |and l=>
   have hN:(C.and l).size≤N+1:=by
    rcases hN with h|h
    ·omega
    ·exact h.2
   simp only[C.size]at hN hn
   rcases l with _|⟨a,_|⟨b,q⟩⟩
   ·exact absurd hw.1 (by simp)
   ·exact absurd hw.1 (by simp)
   ·simp only[sizeL]at hN hn
    rw[tokC]at hb
    obtain⟨r',hb1,hb2⟩:=hb.app
    have hr':hd r'≠w_in:=by
     rw[tokR,List.cons_append]at hb2;rw[(wordT_hd hb2).1];decide
    rw[pConcept,ih a (by have:=b.size_pos;omega) hw.2.1 n (by split<;>omega) ts r' hb1 hr']
    simp only[Option.bind_some]
    rw[more_tok N ih (b::q) [a] n (by simp only[sizeL];have:=a.size_pos;omega) hw.2.2 (by simp only[sizeL];have:=a.size_pos;omega) r' r hb2 hin hand]
    rfl
  |_=>simp[isAnd]at hA
 ·have hO:=tokO_no (by simpa using hA:isAnd c=false)
  rw[←hO]at hb
  have hc:=c.size_pos
  rw[pConcept,ih c (by rcases hN with h|h;exact h;exact absurd h.1 hA) hw n (by rw[if_neg hA];omega) ts r hb hin]
  simp only[Option.bind_some]
  have:=more_tok N ih [] [c] n (by simp[sizeL]) trivial (by simp only[sizeL];omega) r r ⟨[],rfl,rfl⟩ hin hand
  rw[this];rfl
theorem single_tok:∀(N:Nat)(c:C),c.size≤N→c.wf→∀n,3*c.size≤n+(if isAnd c then 0 else 2)→∀ts r,Beg ts (tokO c) r→hd r≠w_in→pSingle n ts=some (c,r):=by
 intro N
 induction N with
 |zero=>intro c h;have:=C.size_pos c;omega
 |succ N ih=>
  intro c hN hw n hn ts r hb hin
  have hpos:=c.size_pos
  obtain⟨n,rfl⟩:∃m,n=m+1:=⟨n-1,by split at hn<;>omega⟩
  have ne:∀{a b:Bs},a≠b→∀{x:Bs},x=a→¬x=b:=fun h _ e=>e▸h
  cases c with
  |top=>
   rw[tokO]at hb
   obtain⟨h,hb⟩:=wordT_hd hb
   rw[pSingle,if_pos h,hb.nil]
  |bot=>
   rw[tokO]at hb
   obtain⟨h,hb⟩:=wordT_hd hb
   rw[pSingle,if_neg (ne (by decide) h),if_pos h,hb.nil]
  |nom s=>
   rw[tokO]at hb
   obtain⟨h,hb⟩:=wordT_hd hb
   obtain⟨ts',hn',hb⟩:=pName_beg hb hw
   obtain⟨h2,hb⟩:=wordT_hd hb
   rw[pSingle,if_neg (ne (by decide) h),if_neg (ne (by decide) h),if_pos h,hn']
   simp only[Option.bind_some,wantT,h2,if_true,hb.nil]
  |named s=>
   rw[tokO]at hb
   have hs:plainB s=true:=hw
   have h:=(wordT_hd hb).1
   obtain⟨ts',hn',hb⟩:=pName_beg hb hs
   obtain rfl:=hb.nil
   rw[pSingle,if_neg (ne (plain_ne hs _ (by decide)) h),if_neg (ne (plain_ne hs _ (by decide)) h),if_neg (ne (plain_ne1 hs _ (by decide)) h),if_neg (ne (plain_ne hs _ (by decide)) h),if_neg (ne (plain_ne1 hs _ (by decide)) h),hn']
   simp only[Option.bind_some]
   rw[if_neg hin]
  |some r' c=>
   simp only[C.size,isAnd,Bool.false_eq_true,if_false]at hN hn
   rw[tokO]at hb
   obtain⟨h,hb⟩:=wordT_hd hb
   obtain⟨ts',hn',hb⟩:=pName_beg hb hw.1
   rw[pSingle,if_neg (ne (by decide) h),if_neg (ne (by decide) h),if_neg (ne (by decide) h),if_pos h,hn']
   simp only[Option.bind_some]
   rw[ih c (by omega) hw.2 n (by split<;>omega) ts' r hb hin]
   rfl
  |range f lo hi=>
   rw[tokO]at hb
   obtain⟨hs,hlo,hlh,hhi⟩:=hw
   have h:=(wordT_hd hb).1
   obtain⟨ts',hn',hb⟩:=pName_beg hb hs
   obtain⟨h2,hb⟩:=wordT_hd hb
   obtain⟨ts2,hn2,hb⟩:=pNum_beg (least:= -maxN) hb hlo (by omega) hlo
   obtain⟨h3,hb⟩:=wordT_hd hb
   obtain⟨ts3,hn3,hb⟩:=pNum_beg (least:=lo) hb (by omega) hhi hlh
   obtain rfl:=hb.nil
   rw[pSingle,if_neg (ne (plain_ne hs _ (by decide)) h),if_neg (ne (plain_ne hs _ (by decide)) h),if_neg (ne (plain_ne1 hs _ (by decide)) h),if_neg (ne (plain_ne hs _ (by decide)) h),if_neg (ne (plain_ne1 hs _ (by decide)) h),hn']
   simp only[Option.bind_some]
   rw[if_pos h2,hn2]
   simp only[Option.bind_some,wantT,h3,if_true,hn3]
  |and l=>
   simp only[isAnd,if_true]at hn
   rw[tokO_and,List.cons_append]at hb
   obtain⟨h,hb⟩:=wordT_hd hb
   obtain⟨r',hb1,hb2⟩:=hb.app
   obtain⟨h2,hb2⟩:=wordT_hd hb2
   rw[pSingle,if_neg (ne (by decide) h),if_neg (ne (by decide) h),if_neg (ne (by decide) h),if_neg (ne (by decide) h),if_pos h]
   rw[conc_of N ih (.and l) (.inr ⟨rfl,hN⟩) hw n (by omega) _ r' hb1 (by rw[h2];decide) (by rw[h2];decide)]
   simp only[Option.bind_some,wantT,h2,if_true,hb2.nil]
theorem conc_tok(c:C)(hw:c.wf)(n:Nat)(hn:3*c.size≤n+1)(ts r:List Tk)(hb:Beg ts (tokC c) r)(hin:hd r≠w_in)(hand:hd r≠w_and):pConcept n ts=some (c,r):=
 conc_of c.size (fun c _=>single_tok c.size c (Nat.le_refl _)) c (.inl (Nat.le_refl _)) hw n hn ts r hb hin hand
end Go.VT
namespace Go.VT
theorem tail_len{ts:List Tk}{s:Bs}(h:hd ts=s)(hs:s≠[]):ts.tail.length+1=ts.length:=by
 cases ts with
 |nil=>exact absurd h.symm hs
 |cons t r=>simp
theorem wantT_len{ts r:List Tk}{s:Bs}(h:wantT s ts=some r)(hs:s≠[]):r.length+1=ts.length:=by
 unfold wantT at h
 split at h
 ·rename_i hh;cases h;exact tail_len hh hs
 ·cases h
theorem pName_len{ts r:List Tk}{s:Bs}(h:pName ts=some (s,r)):r.length+1=ts.length∧plainB s=true:=by
 cases ts with
 |nil=>simp[pName]at h
 |cons t q=>
  simp only[pName]at h
  split at h
  ·rename_i hh
   simp only[Option.some.injEq,Prod.mk.injEq]at h
   obtain⟨rfl,rfl⟩:=h
   simp only[Bool.and_eq_true]at hh
   exact⟨by simp,hh.2⟩
  ·cases h
theorem pNum_len{ts r:List Tk}{least v:Int}(h:pNum least ts=some (v,r)):r.length+1=ts.length∧least≤v∧v≤maxN:=by
 cases ts with
 |nil=>simp[pNum]at h
 |cons t q=>
  simp only[pNum]at h
  split at h
  ·rename_i hh
   simp only[Option.some.injEq,Prod.mk.injEq]at h
   obtain⟨rfl,rfl⟩:=h
   simp only[Bool.and_eq_true,decide_eq_true_eq]at hh
   exact⟨by simp,hh.2,hh.1.2⟩
  ·cases h
theorem tokC_le(c:C):(tokC c).length≤(tokO c).length:=by
 cases h:isAnd c
 ·rw[tokO_no h];exact Nat.le_refl _
 ·cases c with
  |and l=>rw[tokO_and];simp;omega
  |_=>simp[isAnd]at h
theorem mkAnd_eq{a:C}{l:List C}:(match(motive:=List C→C) a::l with| [c]=>c|L=>.and L)=if l=[]then a else .and (a::l):=by cases l<;>simp
def mkAnd(l:List C):C:=match l with| [c]=>c|L=>.and L
theorem parse_facts(n:Nat):
  (∀ts c r,pSingle n ts=some (c,r)→c.wf∧(tokO c).length+r.length≤ts.length)∧
  (∀ts c r,pConcept n ts=some (c,r)→c.wf∧(tokC c).length+r.length≤ts.length)∧
  (∀acc ts c r,acc≠[]→pMore n acc ts=some (c,r)→∃l,c=mkAnd (acc++l)∧C.wf.wfL l∧(tokR l).length+r.length≤ts.length):=by
 induction n with
 |zero=>exact⟨fun ts c r h=>by simp[pSingle]at h,fun ts c r h=>by simp[pConcept]at h,fun acc ts c r _ h=>by simp[pMore]at h⟩
 |succ n ih=>
  obtain⟨ih1,ih2,ih3⟩:=ih
  refine⟨fun ts c r h=>?_,fun ts c r h=>?_,fun acc ts c r ha h=>?_⟩
  ·rw[pSingle]at h
   split at h
   ·rename_i hh
    simp only[Option.some.injEq,Prod.mk.injEq]at h
    obtain⟨rfl,rfl⟩:=h
    have:=tail_len hh (by decide)
    exact⟨trivial,by simp only[tokO,List.length_cons,List.length_nil];omega⟩
   ·split at h
    ·rename_i hh
     simp only[Option.some.injEq,Prod.mk.injEq]at h
     obtain⟨rfl,rfl⟩:=h
     have:=tail_len hh (by decide)
     exact⟨trivial,by simp only[tokO,List.length_cons,List.length_nil];omega⟩
    ·split at h
     ·rename_i hh
      have h0:=tail_len hh (by decide)
      obtain⟨⟨s,r1⟩,h1,h⟩:=Option.bind_eq_some_iff.1 h
      obtain⟨r2,h2,h⟩:=Option.bind_eq_some_iff.1 h
      simp only[Option.some.injEq,Prod.mk.injEq]at h
      obtain⟨rfl,rfl⟩:=h
      have k1:=pName_len h1
      have k2:=wantT_len h2 (by decide)
      exact⟨k1.2,by simp only[tokO,List.length_cons,List.length_nil];omega⟩
     ·split at h
      ·rename_i hh
       have h0:=tail_len hh (by decide)
       obtain⟨⟨s,r1⟩,h1,h⟩:=Option.bind_eq_some_iff.1 h
       obtain⟨⟨c',r2⟩,h2,h⟩:=Option.bind_eq_some_iff.1 h
       simp only[Option.some.injEq,Prod.mk.injEq]at h
       obtain⟨rfl,rfl⟩:=h
       have k1:=pName_len h1
       have k2:=ih1 _ _ _ h2
       exact⟨⟨k1.2,k2.1⟩,by simp only[tokO,List.length_cons];have:=k2.2;omega⟩
      ·split at h
       ·rename_i hh
        have h0:=tail_len hh (by decide)
        obtain⟨⟨c',r2⟩,h2,h⟩:=Option.bind_eq_some_iff.1 h
        obtain⟨r3,h3,h⟩:=Option.bind_eq_some_iff.1 h
        simp only[Option.some.injEq,Prod.mk.injEq]at h
        obtain⟨rfl,rfl⟩:=h
        have k2:=ih2 _ _ _ h2
        have k3:=wantT_len h3 (by decide)
        refine⟨k2.1,?_⟩
        have k4:=k2.2
        cases hA:isAnd c'
        ·rw[tokO_no hA];omega
        ·cases c' with
         |and l=>rw[tokO_and];simp only[List.length_append,List.length_cons,List.length_nil];omega
         |_=>simp[isAnd]at hA
       ·obtain⟨⟨s,r1⟩,h1,h⟩:=Option.bind_eq_some_iff.1 h
        have k1:=pName_len h1
        dsimp only at h
        split at h
        ·rename_i hin
         have h0:=tail_len hin (by decide)
         obtain⟨⟨lo,r2⟩,h2,h⟩:=Option.bind_eq_some_iff.1 h
         obtain⟨r3,h3,h⟩:=Option.bind_eq_some_iff.1 h
         obtain⟨⟨hi,r4⟩,h4,h⟩:=Option.bind_eq_some_iff.1 h
         simp only[Option.some.injEq,Prod.mk.injEq]at h
         obtain⟨rfl,rfl⟩:=h
         have k2:=pNum_len h2
         have k3:r3.length+1=r2.length:=wantT_len h3 (by decide)
         have k4:r4.length+1=r3.length∧lo≤hi∧hi≤maxN:=pNum_len h4
         exact⟨⟨k1.2,k2.2.1,k4.2.1,k4.2.2⟩,by simp only[tokO,List.length_cons,List.length_nil];omega⟩
        ·simp only[Option.some.injEq,Prod.mk.injEq]at h
         obtain⟨rfl,rfl⟩:=h
         exact⟨k1.2,by simp only[tokO,List.length_cons,List.length_nil];omega⟩
  ·rw[pConcept]at h
   obtain⟨⟨a,r1⟩,h1,h⟩:=Option.bind_eq_some_iff.1 h
   have k1:=ih1 _ _ _ h1
   obtain⟨l,rfl,hw,hl⟩:=ih3 [a] r1 c r (by simp) h
   have k2:=k1.2
   cases l with
   |nil=>
    simp only[tokR,List.length_nil]at hl
    have:=tokC_le a
    exact⟨k1.1,by show(tokC a).length+_≤_;omega⟩
   |cons b q=>
    refine⟨⟨by simp,k1.1,hw⟩,?_⟩
    show(tokC (.and (a::b::q))).length+_≤_
    rw[tokC,List.length_append];omega
  ·by_cases hh:hd ts=w_and
   ·have ha2:pMore (n+1) acc ts=(pSingle n ts.tail).bind fun x=>pMore n (acc++[x.1]) x.2:=by
     rcases acc with _|⟨a,_|⟨b,q⟩⟩<;>simp[pMore,hh]
    rw[ha2]at h
    have h0:=tail_len hh (by decide)
    obtain⟨⟨a,r1⟩,h1,h⟩:=Option.bind_eq_some_iff.1 h
    have k1:=ih1 _ _ _ h1
    obtain⟨l,rfl,hw,hl⟩:=ih3 (acc++[a]) r1 c r (by simp) h
    refine⟨a::l,by simp,⟨k1.1,hw⟩,?_⟩
    have k2:=k1.2
    rw[tokR,List.cons_append,List.length_cons,List.length_append];omega
   ·refine⟨[],?_,trivial,?_⟩
    ·rcases acc with _|⟨a,_|⟨b,q⟩⟩
     ·exact absurd rfl ha
     ·rw[pMore,if_neg hh]at h;cases h;rfl
     ·rw[pMore,if_neg hh]at h
      ·cases h;simp[mkAnd]
      ·simp
    ·have:r=ts:=by
      rcases acc with _|⟨a,_|⟨b,q⟩⟩
      ·exact absurd rfl ha
      ·rw[pMore,if_neg hh]at h;cases h;rfl
      ·rw[pMore,if_neg hh]at h
       ·cases h;rfl
       ·simp
     rw[this];simp[tokR]
def tokK:K→List KT
 |.sub l r=>tokC l++(1,w_sub)::tokC r
 |.equiv l r=>tokC l++(1,w_same)::tokC r
 |.disj l r=>tokC l++(1,w_disjoint)::tokC r
 |.dom s c=>(1,w_domain)::(1,s)::tokC c
 |.rsub r s=>[(1,w_role),(1,r),(1,w_sub),(1,s)]
 |.chain l s=>(1,w_chain)::(l.map fun r=>((1:Int),r))++[(1,w_sub),(1,s)]
 |.refl s=>[(1,w_reflexive),(1,s)]
 |.typ a c=>(1,w_type)::(1,a)::tokC c
 |.link a r b=>[(1,w_link),(1,a),(1,r),(1,b)]
def tokA(x:Ax):List KT:=(if x.k.roley then(if x.op then[]else[(1,w_private)])else if x.op then[(1,w_open)]else[])++tokK x.k
theorem stat_facts{N:Nat}{ts r:List Tk}{k:K}(h:pStat N ts=some (k,r)):k.wf∧(tokK k).length+r.length≤ts.length:=by
 obtain⟨_,f2,_⟩:=parse_facts N
 rw[pStat]at h
 split at h
 ·rename_i hh
  have h0:=tail_len hh (by decide)
  obtain⟨⟨s,r1⟩,h1,h⟩:=Option.bind_eq_some_iff.1 h
  obtain⟨⟨c,r2⟩,h2,h⟩:=Option.bind_eq_some_iff.1 h
  simp only[Option.some.injEq,Prod.mk.injEq]at h
  obtain⟨rfl,rfl⟩:=h
  have k1:=pName_len h1;have k2:=f2 _ _ _ h2;have k3:=k2.2
  exact⟨⟨k1.2,k2.1⟩,by simp only[tokK,List.length_cons];omega⟩
 ·split at h
  ·rename_i hh
   have h0:=tail_len hh (by decide)
   obtain⟨⟨s,r1⟩,h1,h⟩:=Option.bind_eq_some_iff.1 h
   obtain⟨r2,h2,h⟩:=Option.bind_eq_some_iff.1 h
   obtain⟨⟨t,r3⟩,h3,h⟩:=Option.bind_eq_some_iff.1 h
   simp only[Option.some.injEq,Prod.mk.injEq]at h
   obtain⟨rfl,rfl⟩:=h
   have k1:=pName_len h1;have k2:=wantT_len h2 (by decide);have k3:=pName_len h3
   exact⟨⟨k1.2,k3.2⟩,by simp only[tokK,List.length_cons,List.length_nil];omega⟩
  ·split at h
   ·rename_i hh
    have h0:=tail_len hh (by decide)
    obtain⟨⟨s,r1⟩,h1,h⟩:=Option.bind_eq_some_iff.1 h
    obtain⟨⟨t,r2⟩,h2,h⟩:=Option.bind_eq_some_iff.1 h
    obtain⟨⟨l,r3⟩,h3,h⟩:=Option.bind_eq_some_iff.1 h
    obtain⟨r4,h4,h⟩:=Option.bind_eq_some_iff.1 h
    obtain⟨⟨u,r5⟩,h5,h⟩:=Option.bind_eq_some_iff.1 h
    simp only[Option.some.injEq,Prod.mk.injEq]at h
    obtain⟨rfl,rfl⟩:=h
    have k1:=pName_len h1;have k2:=pName_len h2;have k4:=wantT_len h4 (by decide);have k5:=pName_len h5
    have key:∀(n:Nat)(acc:List Bs)(ts:List Tk) l r,(∀x∈acc,plainB x=true)→pRest n acc ts=some (l,r)→(∀x∈l,plainB x=true)∧l.length+r.length≤acc.length+ts.length∧acc.length≤l.length∧l.length≤acc.length+n:=by
     intro n
     induction n with
     |zero=>intro acc ts l r ha h;simp only[pRest,Option.some.injEq,Prod.mk.injEq]at h;obtain⟨rfl,rfl⟩:=h;exact⟨ha,Nat.le_refl _,Nat.le_refl _,Nat.le_refl _⟩
     |succ n ih=>
      intro acc ts l r ha h
      rw[pRest]at h
      split at h
      ·obtain⟨⟨s,r1⟩,h1,h⟩:=Option.bind_eq_some_iff.1 h
       have k1:=pName_len h1
       have:=ih (acc++[s]) r1 l r (by intro x hx;rcases List.mem_append.1 hx with hx|hx;exact ha x hx;simp at hx;rw[hx];exact k1.2) h
       simp only[List.length_append,List.length_cons,List.length_nil]at this
       exact⟨this.1,by omega,by omega,by omega⟩
      ·simp only[Option.some.injEq,Prod.mk.injEq]at h;obtain⟨rfl,rfl⟩:=h;exact⟨ha,Nat.le_refl _,Nat.le_refl _,by omega⟩
    have k3:=key 2 [s,t] r2 l r3 (by intro x hx;simp at hx;rcases hx with rfl|rfl;exact k1.2;exact k2.2) h3
    simp only[List.length_cons,List.length_nil]at k3
    exact⟨⟨by omega,by omega,k3.1,k5.2⟩,by simp only[tokK,List.length_cons,List.length_nil,List.length_append,List.length_map];omega⟩
   ·split at h
    ·rename_i hh
     have h0:=tail_len hh (by decide)
     obtain⟨⟨s,r1⟩,h1,h⟩:=Option.bind_eq_some_iff.1 h
     simp only[Option.some.injEq,Prod.mk.injEq]at h
     obtain⟨rfl,rfl⟩:=h
     have k1:=pName_len h1
     exact⟨k1.2,by simp only[tokK,List.length_cons,List.length_nil];omega⟩
    ·split at h
     ·rename_i hh
      have h0:=tail_len hh (by decide)
      obtain⟨⟨s,r1⟩,h1,h⟩:=Option.bind_eq_some_iff.1 h
      obtain⟨⟨c,r2⟩,h2,h⟩:=Option.bind_eq_some_iff.1 h
      simp only[Option.some.injEq,Prod.mk.injEq]at h
      obtain⟨rfl,rfl⟩:=h
      have k1:=pName_len h1;have k2:=f2 _ _ _ h2;have k3:=k2.2
      exact⟨⟨k1.2,k2.1⟩,by simp only[tokK,List.length_cons];omega⟩
     ·split at h
      ·rename_i hh
       have h0:=tail_len hh (by decide)
       obtain⟨⟨s,r1⟩,h1,h⟩:=Option.bind_eq_some_iff.1 h
       obtain⟨⟨t,r2⟩,h2,h⟩:=Option.bind_eq_some_iff.1 h
       obtain⟨⟨u,r3⟩,h3,h⟩:=Option.bind_eq_some_iff.1 h
       simp only[Option.some.injEq,Prod.mk.injEq]at h
       obtain⟨rfl,rfl⟩:=h
       have k1:=pName_len h1;have k2:=pName_len h2;have k3:=pName_len h3
       exact⟨⟨k1.2,k2.2,k3.2⟩,by simp only[tokK,List.length_cons,List.length_nil];omega⟩
      ·obtain⟨⟨a,r1⟩,h1,h⟩:=Option.bind_eq_some_iff.1 h
       have k1:=f2 _ _ _ h1
       have k3:=k1.2
       dsimp only at h
       split at h
       ·rename_i hh
        have h0:=tail_len hh (by decide)
        obtain⟨⟨c,r2⟩,h2,h⟩:=Option.bind_eq_some_iff.1 h
        simp only[Option.some.injEq,Prod.mk.injEq]at h
        obtain⟨rfl,rfl⟩:=h
        have k2:=f2 _ _ _ h2;have k4:=k2.2
        exact⟨⟨k1.1,k2.1⟩,by simp only[tokK,List.length_append,List.length_cons];omega⟩
       ·split at h
        ·rename_i hh
         have h0:=tail_len hh (by decide)
         obtain⟨⟨c,r2⟩,h2,h⟩:=Option.bind_eq_some_iff.1 h
         simp only[Option.some.injEq,Prod.mk.injEq]at h
         obtain⟨rfl,rfl⟩:=h
         have k2:=f2 _ _ _ h2;have k4:=k2.2
         exact⟨⟨k1.1,k2.1⟩,by simp only[tokK,List.length_append,List.length_cons];omega⟩
        ·split at h
         ·rename_i hh
          have h0:=tail_len hh (by decide)
          obtain⟨⟨c,r2⟩,h2,h⟩:=Option.bind_eq_some_iff.1 h
          simp only[Option.some.injEq,Prod.mk.injEq]at h
          obtain⟨rfl,rfl⟩:=h
          have k2:=f2 _ _ _ h2;have k4:=k2.2
          exact⟨⟨k1.1,k2.1⟩,by simp only[tokK,List.length_append,List.length_cons];omega⟩
         ·cases h
theorem ax_facts{N:Nat}{ts r:List Tk}{x:Ax}(h:pAxiom N ts=some (x,r)):x.k.wf∧(tokA x).length+r.length≤ts.length:=by
 simp only[pAxiom]at h
 obtain⟨⟨k,r1⟩,h1,h⟩:=Option.bind_eq_some_iff.1 h
 simp only[Option.some.injEq,Prod.mk.injEq]at h
 obtain⟨rfl,rfl⟩:=h
 have k1:=stat_facts h1
 refine⟨k1.1,?_⟩
 have k2:=k1.2
 simp only[tokA,List.length_append]
 by_cases ho:hd ts=w_open
 ·have h0:=tail_len ho (by decide)
  simp only[ho,decide_true,Bool.not_true,Bool.false_and,if_true,Bool.not_false,Bool.false_eq_true,if_false]at k2⊢
  cases k.roley<;>simp<;>omega
 ·simp only[ho,decide_false,Bool.not_false,Bool.true_and,Bool.false_eq_true,if_false]at k2⊢
  by_cases hp:hd ts=w_private
  ·have h0:=tail_len hp (by decide)
   simp only[hp,decide_true,if_true,Bool.not_true]at k2⊢
   cases k.roley<;>simp<;>omega
  ·simp only[hp,decide_false,Bool.false_eq_true,if_false,Bool.not_false]at k2⊢
   cases k.roley<;>simp<;>omega
end Go.VT
