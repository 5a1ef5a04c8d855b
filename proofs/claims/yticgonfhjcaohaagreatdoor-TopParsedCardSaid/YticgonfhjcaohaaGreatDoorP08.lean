/- TopParsed, part 8. -/
import Derived.Test.YticgonfhjcaohaaGreatDoorP06
set_option maxRecDepth 100000
set_option maxHeartbeats 32000000
namespace Go.VT
def K.cons:K→List C
 |.sub l r=>[l,r]|.equiv l r=>[l,r]|.disj l r=>[l,r]|.dom _ c=>[c]|.typ _ c=>[c]|_=>[]
theorem tokC_hd{c:C}(hw:c.wf){ts r:List Tk}(h:Beg ts (tokC c) r):∀k∈[w_domain,w_role,w_chain,w_reflexive,w_type,w_link,w_open,w_private,w_in,w_and],hd ts≠k:=by
 have sub:∀k∈[w_domain,w_role,w_chain,w_reflexive,w_type,w_link,w_open,w_private,w_in,w_and],k∈kws∧k≠w_everything∧k≠w_nothing∧k≠w_some∧k≠[123]∧k≠[40]:=by decide
 intro w hw'
 obtain⟨h1,h2,h3,h4,h5,h6⟩:=sub w hw'
 have key:∀(c:C) k s p,c.wf→tokO c=(k,s)::p→s≠w:=by
  intro c k s p hc e
  cases c with
  |top=>rw[tokO]at e;cases e;exact h2.symm
  |bot=>rw[tokO]at e;cases e;exact h3.symm
  |named s=>rw[tokO]at e;cases e;exact plain_ne hc _ h1
  |nom s=>rw[tokO]at e;cases e;exact h5.symm
  |and l=>rw[tokO_and]at e;cases e;exact h6.symm
  |some r c=>rw[tokO]at e;cases e;exact h4.symm
  |range f lo hi=>rw[tokO]at e;cases e;exact plain_ne hc.1 _ h1
 have key2:∀(c:C),c.wf→∃k s p,tokO c=(k,s)::p:=by
  intro c hc
  cases c with
  |and l=>rw[tokO_and];exact⟨_,_,_,rfl⟩
  |_=>rw[tokO];exact⟨_,_,_,rfl⟩
 cases hA:isAnd c
 ·obtain⟨k,s,p,e⟩:=key2 c hw
  rw[←tokO_no hA,e]at h
  rw[(wordT_hd h).1]
  exact key c k s p hw e
 ·cases c with
  |and l=>
   rcases l with _|⟨a,q⟩
   ·exact absurd hw.1 (by simp)
   ·obtain⟨k,s,p,e⟩:=key2 a hw.2.1
    rw[tokC,e,List.cons_append]at h
    rw[(wordT_hd h).1]
    exact key a k s p hw.2.1 e
  |_=>simp[isAnd]at hA
theorem atName_no{ts:List Tk}(h:hd ts∈kws):atName ts=false:=by
 cases ts with
 |nil=>rfl
 |cons t r=>
  have h:t.text∈kws:=h
  have:keyword t.text=true:=by simpa[keyword]using h
  simp[atName,this]
theorem atName_beg{ts r:List Tk}{s:Bs}{p:List KT}(h:Beg ts ((1,s)::p) r)(hs:plainB s=true):atName ts=true:=by
 obtain⟨t,ts',rfl,ht,hb⟩:=h.cons
 have:=pName_plain' (r:=ts') ht hs
 simp only[pName]at this
 split at this
 ·rename_i hh;simp only[Bool.and_eq_true]at hh;exact hh.1.1
 ·cases this
theorem rest_beg:∀(l:List Bs)(n:Nat)(acc:List Bs)(ts r:List Tk),(∀x∈l,plainB x=true)→l.length≤n→Beg ts (l.map fun r=>((1:Int),r)) r→hd r∈kws→pRest n acc ts=some (acc++l,r):=by
 intro l
 induction l with
 |nil=>
  intro n acc ts r _ _ hb hk
  obtain rfl:=hb.nil
  cases n with
  |zero=>simp[pRest]
  |succ n=>rw[pRest,if_neg (by rw[atName_no hk];simp)];simp
 |cons a l ih=>
  intro n acc ts r hp hn hb hk
  cases n with
  |zero=>simp at hn
  |succ n=>
   rw[List.map_cons]at hb
   obtain⟨ts',h1,h2⟩:=pName_beg hb (hp a (by simp))
   rw[pRest,if_pos (atName_beg hb (hp a (by simp))),h1]
   simp only[Option.bind_some]
   rw[ih n (acc++[a]) ts' r (fun x hx=>hp x (by simp[hx])) (by simpa using hn) h2 hk,List.append_assoc];rfl
theorem stat_tok(k:K)(hw:k.wf)(N:Nat)(hN:∀c∈k.cons,3*c.size≤N+1)(ts r:List Tk)(hb:Beg ts (tokK k) r)(hr:hd r=[46]):pStat N ts=some (k,r):=by
 have hin:hd r≠w_in:=by rw[hr];decide
 have hand:hd r≠w_and:=by rw[hr];decide
 have ne:∀{a b:Bs},a≠b→∀{x:Bs},x=a→¬x=b:=fun h _ e=>e▸h
 have two:∀(l c:C)(w:Bs),l.wf→c.wf→3*l.size≤N+1→3*c.size≤N+1→w≠w_in→w≠w_and→Beg ts (tokC l++(1,w)::tokC c) r→
   (∀k∈[w_domain,w_role,w_chain,w_reflexive,w_type,w_link,w_open,w_private,w_in,w_and],hd ts≠k)∧∃r1,pConcept N ts=some (l,r1)∧hd r1=w∧pConcept N r1.tail=some (c,r):=by
  intro l c w h1 h2 h3 h4 h5 h6 hb
  obtain⟨r',b1,b2⟩:=hb.app
  obtain⟨e,b3⟩:=wordT_hd b2
  exact⟨tokC_hd h1 b1,r',conc_tok l h1 N h3 ts r' b1 (by rw[e];exact h5) (by rw[e];exact h6),e,conc_tok c h2 N h4 _ r b3 hin hand⟩
 cases k with
 |sub l c=>
  obtain⟨h0,r1,h1,h2,h3⟩:=two l c w_sub hw.1 hw.2 (hN l (by simp[K.cons])) (hN c (by simp[K.cons])) (by decide) (by decide) hb
  rw[pStat,if_neg (h0 _ (by simp)),if_neg (h0 _ (by simp)),if_neg (h0 _ (by simp)),if_neg (h0 _ (by simp)),if_neg (h0 _ (by simp)),if_neg (h0 _ (by simp)),h1]
  simp only[Option.bind_some]
  rw[if_pos h2,h3];rfl
 |equiv l c=>
  obtain⟨h0,r1,h1,h2,h3⟩:=two l c w_same hw.1 hw.2 (hN l (by simp[K.cons])) (hN c (by simp[K.cons])) (by decide) (by decide) hb
  rw[pStat,if_neg (h0 _ (by simp)),if_neg (h0 _ (by simp)),if_neg (h0 _ (by simp)),if_neg (h0 _ (by simp)),if_neg (h0 _ (by simp)),if_neg (h0 _ (by simp)),h1]
  simp only[Option.bind_some]
  rw[if_neg (ne (by decide) h2),if_pos h2,h3];rfl
 |disj l c=>
  obtain⟨h0,r1,h1,h2,h3⟩:=two l c w_disjoint hw.1 hw.2 (hN l (by simp[K.cons])) (hN c (by simp[K.cons])) (by decide) (by decide) hb
  rw[pStat,if_neg (h0 _ (by simp)),if_neg (h0 _ (by simp)),if_neg (h0 _ (by simp)),if_neg (h0 _ (by simp)),if_neg (h0 _ (by simp)),if_neg (h0 _ (by simp)),h1]
  simp only[Option.bind_some]
  rw[if_neg (ne (by decide) h2),if_neg (ne (by decide) h2),if_pos h2,h3];rfl
 |dom s c=>
  rw[tokK]at hb
  obtain⟨h,hb⟩:=wordT_hd hb
  obtain⟨ts',hn',hb⟩:=pName_beg hb hw.1
  rw[pStat,if_pos h,hn']
  simp only[Option.bind_some]
  rw[conc_tok c hw.2 N (hN c (by simp[K.cons])) ts' r hb hin hand];rfl
 |typ s c=>
  rw[tokK]at hb
  obtain⟨h,hb⟩:=wordT_hd hb
  obtain⟨ts',hn',hb⟩:=pName_beg hb hw.1
  rw[pStat,if_neg (ne (by decide) h),if_neg (ne (by decide) h),if_neg (ne (by decide) h),if_neg (ne (by decide) h),if_pos h,hn']
  simp only[Option.bind_some]
  rw[conc_tok c hw.2 N (hN c (by simp[K.cons])) ts' r hb hin hand];rfl
 |rsub s t=>
  rw[tokK]at hb
  obtain⟨h,hb⟩:=wordT_hd hb
  obtain⟨ts',hn',hb⟩:=pName_beg hb hw.1
  obtain⟨h2,hb⟩:=wordT_hd hb
  obtain⟨ts2,hn2,hb⟩:=pName_beg hb hw.2
  rw[pStat,if_neg (ne (by decide) h),if_pos h,hn']
  simp only[Option.bind_some,wantT,h2,if_true,hn2,hb.nil]
 |refl s=>
  rw[tokK]at hb
  obtain⟨h,hb⟩:=wordT_hd hb
  obtain⟨ts',hn',hb⟩:=pName_beg hb hw
  rw[pStat,if_neg (ne (by decide) h),if_neg (ne (by decide) h),if_neg (ne (by decide) h),if_pos h,hn']
  simp only[Option.bind_some,hb.nil]
 |link a s b=>
  rw[tokK]at hb
  obtain⟨h,hb⟩:=wordT_hd hb
  obtain⟨ts',hn',hb⟩:=pName_beg hb hw.1
  obtain⟨ts2,hn2,hb⟩:=pName_beg hb hw.2.1
  obtain⟨ts3,hn3,hb⟩:=pName_beg hb hw.2.2
  rw[pStat,if_neg (ne (by decide) h),if_neg (ne (by decide) h),if_neg (ne (by decide) h),if_neg (ne (by decide) h),if_neg (ne (by decide) h),if_pos h,hn']
  simp only[Option.bind_some,hn2,hn3,hb.nil]
 |chain l s=>
  obtain⟨w2,w4,wl,ws⟩:=hw
  rcases l with _|⟨a,_|⟨b,q⟩⟩
  ·simp at w2
  ·simp at w2
  ·rw[tokK,List.cons_append]at hb
   obtain⟨h,hb⟩:=wordT_hd hb
   rw[List.map_cons,List.cons_append]at hb
   obtain⟨ts',hn',hb⟩:=pName_beg hb (wl a (by simp))
   rw[List.map_cons,List.cons_append]at hb
   obtain⟨ts2,hn2,hb⟩:=pName_beg hb (wl b (by simp))
   obtain⟨r',hb1,hb2⟩:=hb.app
   obtain⟨h3,hb2⟩:=wordT_hd hb2
   obtain⟨ts4,hn4,hb⟩:=pName_beg hb2 ws
   have hq:=rest_beg q 2 [a,b] ts2 r' (fun x hx=>wl x (by simp[hx])) (by simp at w4;omega) hb1 (by rw[h3];decide)
   rw[pStat,if_neg (ne (by decide) h),if_neg (ne (by decide) h),if_pos h,hn']
   simp only[Option.bind_some,hn2,hq,wantT,h3,if_true,hn4,hb.nil]
   rfl
theorem tokK_hd{k:K}(hw:k.wf){ts r:List Tk}(h:Beg ts (tokK k) r):hd ts≠w_open∧hd ts≠w_private:=by
 have lit:∀(s:Bs) p,Beg ts ((1,s)::p) r→s≠w_open→s≠w_private→hd ts≠w_open∧hd ts≠w_private:=fun s p h h1 h2=>by rw[(wordT_hd h).1];exact⟨h1,h2⟩
 have con:∀(c:C) p,c.wf→Beg ts (tokC c++p) r→hd ts≠w_open∧hd ts≠w_private:=fun c p hc h=>by
  obtain⟨r',b1,_⟩:=h.app
  exact⟨tokC_hd hc b1 _ (by simp),tokC_hd hc b1 _ (by simp)⟩
 cases k with
 |sub l c=>exact con l _ hw.1 h
 |equiv l c=>exact con l _ hw.1 h
 |disj l c=>exact con l _ hw.1 h
 |chain l s=>rw[tokK,List.cons_append]at h;exact lit _ _ h (by decide) (by decide)
 |_=>rw[tokK]at h;exact lit _ _ h (by decide) (by decide)
theorem ax_tok(x:Ax)(hw:x.k.wf)(N:Nat)(hN:∀c∈x.k.cons,3*c.size≤N+1)(ts r:List Tk)(hb:Beg ts (tokA x) r)(hr:hd r=[46]):pAxiom N ts=some (x,r):=by
 obtain⟨op,k⟩:=x
 simp only[tokA]at hb hw hN
 cases hk:k.roley
 ·cases op
  ·simp only[hk,Bool.false_eq_true,if_false,List.nil_append]at hb
   obtain⟨h1,h2⟩:=tokK_hd hw hb
   simp only[pAxiom,h1,h2,decide_false,Bool.not_false,Bool.true_and,Bool.false_eq_true,if_false]
   rw[stat_tok k hw N hN ts r hb hr]
   simp[hk]
  ·simp only[hk,Bool.false_eq_true,if_false,if_true,List.cons_append,List.nil_append]at hb
   obtain⟨h1,hb⟩:=wordT_hd hb
   simp only[pAxiom,h1,decide_true,Bool.not_true,Bool.false_and,Bool.false_eq_true,if_false,if_true]
   rw[stat_tok k hw N hN _ r hb hr]
   simp
 ·cases op
  ·simp only[hk,Bool.false_eq_true,if_false,if_true,List.cons_append,List.nil_append]at hb
   obtain⟨h1,hb⟩:=wordT_hd hb
   have ho:hd ts≠w_open:=by rw[h1];decide
   have e1:decide (hd ts=w_open)=false:=by simp[ho]
   have e2:decide (hd ts=w_private)=true:=by simp[h1]
   simp only[pAxiom,e1,e2,Bool.not_false,Bool.true_and,Bool.false_eq_true,if_false,if_true]
   rw[stat_tok k hw N hN _ r hb hr]
   simp
  ·simp only[hk,if_true,List.nil_append]at hb
   obtain⟨h1,h2⟩:=tokK_hd hw hb
   simp only[pAxiom,h1,h2,decide_false,Bool.not_false,Bool.true_and,Bool.false_eq_true,if_false]
   rw[stat_tok k hw N hN ts r hb hr]
   simp[hk]
def pItemT(N:Nat)(ts:List Tk):Option (Ax×List Tk):=(pAxiom N ts).bind fun(x,r)=>(wantT [46] r).bind fun r=>x.tidy.map fun y=>(y,r)
def pDoc(N:Nat):Nat→List Tk→Option (List Ax)
 |0,_=>none
 |n+1,ts=>match ts with
  |[]=>none
  |t::r=>if t.kind=4 then some []else(pItemT N (t::r)).bind fun(y,r)=>(pDoc N n r).map (y:: ·)
def tokD(l:List Ax):List KT:=l.flatMap fun x=>tokA x++[(3,[46])]
structure Good(x:Ax):Prop where
 wf:x.k.wf
 ok:okK x.k=true
 tidy:x.tidy=some x
theorem okP_size{c:C}(h:okP c=true):c.size≤64:=by simp only[okP,Bool.and_eq_true,decide_eq_true_eq]at h;exact h.1.2
theorem okK_size{k:K}(h:okK k=true):∀c∈k.cons,c.size≤64:=by
 intro c hc
 cases k<;>simp only[K.cons,List.mem_cons,List.not_mem_nil,or_false]at hc<;>simp only[okK,Bool.and_eq_true]at h
 ·rcases hc with rfl|rfl;exact okP_size h.1.1;exact okP_size h.1.2
 ·rcases hc with rfl|rfl;exact okP_size h.1.1.1;exact okP_size h.1.1.2
 ·rcases hc with rfl|rfl;exact okP_size h.1;exact okP_size h.2
 ·subst hc;exact okP_size h.1
 ·subst hc;exact okP_size h.1
theorem Good.of{x y:Ax}(hw:x.k.wf)(h:x.tidy=some y):Good y:=by
 obtain⟨t,_,hy⟩:=Ax.tidy_of h
 exact⟨t.wf hw,t.ok,hy⟩
theorem doc_tok(N:Nat)(hN:200≤N):∀(l:List Ax)(ts:List Tk),(∀x∈l,Good x)→ts.map kt=tokD l++[(4,[])]→∀n,l.length<n→pDoc N n ts=some l:=by
 intro l
 induction l with
 |nil=>
  intro ts _ h n hn
  obtain⟨n,rfl⟩:∃m,n=m+1:=⟨n-1,by simp at hn;omega⟩
  cases ts with
  |nil=>simp[tokD]at h
  |cons t r=>
   simp only[tokD,List.flatMap_nil,List.nil_append,List.map_cons,List.cons.injEq,kt,Prod.mk.injEq]at h
   rw[pDoc];simp only[h.1.1,if_true]
 |cons x l ih=>
  intro ts hg h n hn
  obtain⟨n,rfl⟩:∃m,n=m+1:=⟨n-1,by simp at hn;omega⟩
  have gx:=hg x (by simp)
  rw[tokD,List.flatMap_cons,List.append_assoc,List.append_assoc]at h
  obtain⟨q1,q2,rfl,h1,h2⟩:=List.map_eq_append_iff.1 h
  rw[List.cons_append,List.nil_append]at h2
  obtain⟨t,q3,rfl,ht,h3⟩:=List.map_eq_cons_iff.1 h2
  have e:=ax_tok x gx.wf N (fun c hc=>by have:=okK_size gx.ok c hc;omega) (q1++t::q3) (t::q3) ⟨q1,rfl,h1⟩ (hd_kt ht)
  have hi:pItemT N (q1++t::q3)=some (x,q3):=by
   rw[pItemT,e]
   simp only[Option.bind_some,wantT,hd_kt ht,if_true,gx.tidy,Option.map_some,List.tail_cons]
  have hr:=ih q3 (fun y hy=>hg y (by simp[hy])) h3 n (by simp at hn;omega)
  have hne:∃t1 r1,q1++t::q3=t1::r1∧¬t1.kind=4:=by
   cases q1 with
   |nil=>exact⟨t,q3,rfl,by have:=congrArg Prod.fst ht;simp only[kt]at this;omega⟩
   |cons t1 q=>
    refine⟨t1,q++t::q3,rfl,?_⟩
    intro h4
    have hm:((4:Int),t1.text)∈tokA x:=by rw[←h1];simp[kt,h4]
    have no4:∀(c:C),c.wf→(∀p∈tokC c,p.1≠4)∧(∀p∈tokO c,p.1≠4):=by
     have key:∀n(c:C),c.size≤n→(∀p∈tokC c,p.1≠4)∧(∀p∈tokO c,p.1≠4):=by
      intro n
      induction n with
      |zero=>intro c h;have:=C.size_pos c;omega
      |succ n ihn=>
       intro c hc
       have hO:(∀p∈tokC c,p.1≠4)→(∀p∈tokO c,p.1≠4):=by
        intro h p hp
        cases hA:isAnd c
        ·rw[tokO_no hA]at hp;exact h p hp
        ·cases c with
         |and l=>
          rw[tokO_and]at hp
          simp only[List.cons_append,List.mem_cons,List.mem_append,List.not_mem_nil,or_false]at hp
          rcases hp with rfl|hp|rfl
          ·simp
          ·exact h p hp
          ·simp
         |_=>simp[isAnd]at hA
       have hC:∀p∈tokC c,p.1≠4:=by
        cases c with
        |and l=>
         simp only[C.size]at hc
         have hR:∀l:List C,sizeL l≤n→∀p∈tokR l,p.1≠4:=by
          intro l
          induction l with
          |nil=>intro _ p hp;simp[tokR]at hp
          |cons a q ihq=>
           intro hs p hp
           simp only[sizeL]at hs
           rw[tokR]at hp
           simp only[List.cons_append,List.mem_cons,List.mem_append]at hp
           rcases hp with rfl|hp|hp
           ·simp
           ·exact(ihn a (by omega)).2 p hp
           ·exact ihq (by omega) p hp
         cases l with
         |nil=>intro p hp;simp[tokC]at hp
         |cons a q=>
          simp only[sizeL]at hc
          intro p hp
          rw[tokC]at hp
          rcases List.mem_append.1 hp with hp|hp
          ·exact(ihn a (by omega)).2 p hp
          ·exact hR q (by omega) p hp
        |some r c=>
         simp only[C.size]at hc
         intro p hp
         rw[tokC]at hp
         simp only[List.mem_cons]at hp
         rcases hp with rfl|rfl|hp
         ·simp
         ·simp
         ·exact(ihn c (by omega)).2 p hp
        |_=>
         intro p hp
         simp only[tokC,List.mem_cons,List.not_mem_nil,or_false]at hp
         rcases hp with rfl|rfl|rfl|rfl|rfl<;>simp
       exact⟨hC,hO hC⟩
     exact fun c _=>key c.size c (Nat.le_refl _)
    have:∀p∈tokA x,p.1≠4:=by
     intro p hp
     simp only[tokA,List.mem_append]at hp
     rcases hp with hp|hp
     ·split at hp<;>split at hp<;>simp at hp<;>rw[hp]<;>simp
     ·have hw:=gx.wf
      revert hw hp
      cases x.k<;>intro hp hw<;>simp only[tokK,List.mem_append,List.mem_cons,List.mem_map,List.not_mem_nil,or_false]at hp
      ·rcases hp with hp|rfl|hp;exact(no4 _ hw.1).1 p hp;simp;exact(no4 _ hw.2).1 p hp
      ·rcases hp with hp|rfl|hp;exact(no4 _ hw.1).1 p hp;simp;exact(no4 _ hw.2).1 p hp
      ·rcases hp with hp|rfl|hp;exact(no4 _ hw.1).1 p hp;simp;exact(no4 _ hw.2).1 p hp
      ·rcases hp with rfl|rfl|hp;simp;simp;exact(no4 _ hw.2).1 p hp
      ·rcases hp with rfl|rfl|rfl|rfl<;>simp
      ·rcases hp with(rfl|⟨a,_,rfl⟩)|rfl|rfl<;>simp
      ·rcases hp with rfl|rfl<;>simp
      ·rcases hp with rfl|rfl|hp;simp;simp;exact(no4 _ hw.2).1 p hp
      ·rcases hp with rfl|rfl|rfl|rfl<;>simp
    exact this _ hm rfl
  obtain⟨t1,r1,e1,hk⟩:=hne
  rw[e1]at hi⊢
  rw[pDoc]
  simp only[hk,if_false,hi,Option.bind_some,hr,Option.map_some]
end Go.VT
namespace Go.VT
theorem all_u8(P:UInt8→Bool)(h:(List.range 256).all (fun n=>P (UInt8.ofNat n))=true)(c:UInt8):P c=true:=by
 have:=List.all_eq_true.1 h c.toNat (by simp only[List.mem_range];exact c.toNat_lt)
 simpa using this
def stopC:Bs:=[32,125,41,46,10]
def stopB:Bs→Bool
 |[]=>true
 |c::_=>stopC.contains c
def inW(c:UInt8):Bool:=cls c==3||cls c==4
theorem stop_in{c:UInt8}(h:stopC.contains c=true):inW c=false∧c≠58:=by
 have:=all_u8 (fun c=> !stopC.contains c||(!inW c&&c != 58)) (by decide+kernel) c
 simp only[h,Bool.not_true,Bool.false_or,Bool.and_eq_true,Bool.not_eq_true',bne_iff_ne]at this
 exact this
theorem letter_cls{c:UInt8}(h:letterB c=true):cls c=3∧inW c=true∧c≠95∧c≠58:=by
 have:=all_u8 (fun c=> !letterB c||(cls c==3&&inW c&&c != 95&&c != 58)) (by decide+kernel) c
 simp only[h,Bool.not_true,Bool.false_or,Bool.and_eq_true,beq_iff_eq,bne_iff_ne]at this
 exact⟨this.1.1.1,this.1.1.2,this.1.2,this.2⟩
theorem inner_in{c:UInt8}(h:innerB c=true):inW c=true:=by
 have:=all_u8 (fun c=> !innerB c||inW c) (by decide+kernel) c
 simpa[h]using this
theorem digit_in{c:UInt8}(h:digitB c=true):inW c=true∧cls c=4∧c≠62:=by
 have:=all_u8 (fun c=> !digitB c||(inW c&&cls c==4&&c != 62)) (by decide+kernel) c
 simp only[h,Bool.not_true,Bool.false_or,Bool.and_eq_true,beq_iff_eq,bne_iff_ne]at this
 exact⟨this.1.1,this.1.2,this.2⟩
theorem runN_app{s rest:Bs}(hs:s.all inW=true)(hr:∀c r,rest=c::r→inW c=false):runN (s++rest)=s.length:=by
 unfold runN
 induction s with
 |nil=>
  cases rest with
  |nil=>rfl
  |cons c r=>have:(cls c==3||cls c==4)=false:=hr c r rfl;simp[this]
 |cons a s ih=>
  simp only[List.all_cons,Bool.and_eq_true]at hs
  have ha:(cls a==3||cls a==4)=true:=hs.1
  simp only[List.cons_append,List.takeWhile_cons,ha,if_true,List.length_cons]
  rw[ih hs.2]
theorem stop_rest{rest:Bs}(h:stopB rest=true):(∀c r,rest=c::r→inW c=false)∧(∀c r,rest=c::r→c≠58):=
 ⟨fun c r e=>by subst e;exact(stop_in h).1,fun c r e=>by subst e;exact(stop_in h).2⟩
def Lx(b:Bs)(p:List KT):Prop:=∀n rest,stopB rest=true→lexF (n+p.length) (b++rest)=(p++(lexF n rest).1,(lexF n rest).2)
theorem Lx.nil:Lx [] []:=fun n rest _=>by simp
theorem Lx.app{a b:Bs}{p q:List KT}(h:Lx a p)(k:Lx b q)(hs:∀rest,stopB rest=true→stopB (b++rest)=true):Lx (a++b) (p++q):=fun n rest hr=>by
 have:=h (n+q.length) (b++rest) (hs rest hr)
 rw[List.length_append,List.append_assoc,show n+(p.length+q.length)=n+q.length+p.length by omega,this,k n rest hr,List.append_assoc]
theorem lex_blank(c:UInt8)(hc:cls c=1)(m:Nat)(x:Bs):lexF m (c::x)=lexF m x:=by
 cases m with
 |zero=>rfl
 |succ m=>
  have:(cls c==1)=true:=by rw[hc];rfl
  rw[lexF,lexF];simp only[List.dropWhile_cons,this,if_true]
theorem Lx.blank{c:UInt8}(hc:cls c=1){b:Bs}{q:List KT}(h:Lx b q):Lx (c::b) q:=fun n rest hr=>by
 rw[List.cons_append,lex_blank c hc,h n rest hr]
theorem lex_sign(c:UInt8)(hc:cls c=6)(m:Nat)(x:Bs):lexF (m+1) (c::x)=((3,[c])::(lexF m x).1,(lexF m x).2):=by
 have h1:(cls c==1)=false:=by rw[hc];rfl
 rw[lexF]
 simp only[List.dropWhile_cons,h1,Bool.false_eq_true,if_false]
 simp[hc,scanB]
theorem Lx.sign{c:UInt8}(hc:cls c=6){b:Bs}{q:List KT}(h:Lx b q):Lx (c::b) ((3,[c])::q):=fun n rest hr=>by
 rw[List.cons_append,List.length_cons,←Nat.add_assoc,lex_sign c hc,h n rest hr];rfl
theorem lex_tok{c:UInt8}{r rest:Bs}{k:Int}(h1:cls c≠1)(h2:cls c≠2)(hk:k≠0)(hs:scanB (c::r++rest)=(k,(c::r).length))(m:Nat):lexF (m+1) (c::r++rest)=((k,c::r)::(lexF m rest).1,(lexF m rest).2):=by
 rw[List.cons_append]at hs⊢
 have h1':(cls c==1)=false:=by simpa using h1
 rw[lexF]
 simp only[List.dropWhile_cons,h1',Bool.false_eq_true,if_false,h2,hs,hk]
 rw[←List.cons_append,List.take_left,List.drop_left]
theorem Lx.word{s:Bs}(hs:s.all inW=true)(h0:∃c r,s=c::r∧cls c=3):Lx s [(1,s)]:=fun n rest hr=>by
 obtain⟨c,r,rfl,hc⟩:=h0
 obtain⟨k1,k2⟩:=stop_rest hr
 have hsc:scanB (c::r++rest)=(1,(c::r).length):=by
  rw[List.cons_append,scanB.eq_def]
  simp only[hc,if_true]
  rw[←List.cons_append,runN_app hs k1,List.drop_left]
  split
  ·exact absurd rfl (k2 _ _ rfl)
  ·rfl
 exact lex_tok (by rw[hc];decide) (by rw[hc];decide) (by decide) hsc n
theorem wordB_in{s:Bs}(h:wordB s=true):s.all inW=true∧∃c r,s=c::r∧cls c=3∧c≠95:=by
 cases s with
 |nil=>simp[wordB]at h
 |cons c r=>
  simp only[wordB,Bool.and_eq_true]at h
  exact⟨List.all_eq_true.2 fun x hx=>inner_in (List.all_eq_true.1 h.1.2 x hx),c,r,rfl,(letter_cls h.1.1).1,(letter_cls h.1.1).2.2.1⟩
theorem cutC_app(s:Bs)(h:s.contains 58=true):s=(cutC s).1++58::(cutC s).2:=by
 induction s with
 |nil=>simp at h
 |cons a s ih=>
  by_cases ha:a=58
  ·subst ha;simp[cutC]
  ·have hb:(a != 58)=true:=by simpa using ha
   simp only[cutC,List.takeWhile_cons,List.dropWhile_cons,hb,if_true,List.cons_append]
   have:s.contains 58=true:=by
    simp only[List.contains_cons,Bool.or_eq_true,beq_iff_eq]at h
    rcases h with h|h
    ·exact absurd h.symm ha
    ·exact h
   have:=ih this
   simp only[cutC]at this
   rw[←this]
theorem cutC_no(s:Bs)(h:s.contains 58=false):(cutC s).1=s:=by
 simp only[cutC]
 refine tw_all fun y hy=>?_
 simp only[bne_iff_ne,ne_eq]
 rintro rfl
 have:s.contains 58=true:=by simpa using hy
 rw[this]at h;cases h
theorem Lx.name{s:Bs}(h:plainB s=true):Lx s [(1,s)]:=by
 have hp:=h
 simp only[plainB,Bool.and_eq_true,decide_eq_true_eq,Bool.or_eq_true,Bool.not_eq_true']at hp
 obtain⟨⟨_,h1⟩,h2⟩:=hp
 cases hc:s.contains 58
 ·rw[cutC_no s hc]at h1
  obtain⟨k1,c,r,k2,k3,_⟩:=wordB_in h1
  exact Lx.word k1 ⟨c,r,k2,k3⟩
 ·rcases h2 with h2|h2
  ·rw[h2]at hc;cases hc
  ·obtain⟨a1,c,r,e1,e2,_⟩:=wordB_in h1
   obtain⟨b1,d,e,f1,f2,f3⟩:=wordB_in h2
   have hs:=cutC_app s hc
   generalize(cutC s).1=x at*
   generalize(cutC s).2=y at*
   intro n rest hr
   obtain⟨k1,k2⟩:=stop_rest hr
   have hlen:s.length=x.length+1+y.length:=by rw[hs];simp;omega
   have hsc:scanB (s++rest)=(1,s.length):=by
    have e3:s++rest=x++(58::(y++rest)):=by rw[hs,List.append_assoc,List.cons_append]
    rw[e3]
    have hrun:runN (x++(58::(y++rest)))=x.length:=runN_app a1 (fun c r e=>by cases e;decide)
    have hrun2:runN (y++rest)=y.length:=runN_app b1 k1
    have hx:x++(58::(y++rest))=c::(r++58::(y++rest)):=by rw[e1];rfl
    have hdrop:(c::(r++58::(y++rest))).drop x.length=58::(y++rest):=by rw[←hx,List.drop_left]
    rw[hx]at hrun⊢
    have hl:y.length=(d::e).length:=by rw[f1]
    rw[hl]at hrun2 hlen
    rw[f1,List.cons_append]at hrun2 hdrop hrun⊢
    rw[scanB.eq_def]
    simp only[e2,if_true,hrun,hdrop]
    rw[if_pos ⟨f3,f2⟩,hrun2,hlen]
   have hs2:∃q,s=c::q:=⟨r++58::y,by rw[hs,e1];rfl⟩
   obtain⟨q,rfl⟩:=hs2
   exact lex_tok (by rw[e2];decide) (by rw[e2];decide) (by decide) hsc n
theorem Lx.num{n:Int}(h1: -maxN≤n)(h2:n≤maxN):Lx (Lib.itoa n) [(2,Lib.itoa n)]:=by
 obtain⟨k1,_,_,c,r,e,k2⟩:=itoa_num h1 h2
 rw[e]at k1⊢
 intro m rest hr
 obtain⟨s1,_⟩:=stop_rest hr
 have din:∀{q:Bs},q.all digitB=true→q.all inW=true:=fun h=>List.all_eq_true.2 fun x hx=>(digit_in (List.all_eq_true.1 h x hx)).1
 have htk:(c::r++rest).take (c::r).length=c::r:=List.take_left
 have hnb:numB (c::r++rest) (c::r).length=(2,(c::r).length):=by rw[numB,htk,k1];rfl
 rcases k2 with⟨rfl,hd,hne⟩|hd
 ·have hsc:scanB (45::r++rest)=(2,(45::r).length):=by
   obtain⟨d,q,rfl⟩:∃d q,r=d::q:=by cases r with|nil=>exact absurd rfl hne|cons d q=>exact⟨d,q,rfl⟩
   have hd1:=hd
   simp only[List.all_cons,Bool.and_eq_true]at hd1
   obtain⟨g1,g2,g3⟩:=digit_in hd1.1
   have hrun:runN (d::q++rest)=(d::q).length:=runN_app (din hd) s1
   rw[←hnb]
   simp only[List.cons_append]at hrun⊢
   rw[scanB.eq_def]
   dsimp only
   have c3:¬cls 45=3:=by decide
   have c5:cls 45=5:=by decide
   rw[if_neg c3,if_pos c5]
   simp only[g3,if_false,g2,ne_eq,not_true,hrun]
   rw[Nat.add_comm];rfl
  exact lex_tok (by decide) (by decide) (by decide) hsc m
 ·have hsc:scanB (c::r++rest)=(2,(c::r).length):=by
   have hd1:=hd
   simp only[List.all_cons,Bool.and_eq_true]at hd1
   obtain⟨g1,g2,g3⟩:=digit_in hd1.1
   have hrun:runN (c::r++rest)=(c::r).length:=runN_app (din hd) s1
   rw[←hnb]
   simp only[List.cons_append]at hrun⊢
   rw[scanB.eq_def]
   dsimp only
   simp only[g2]
   rw[if_neg (by decide),if_neg (by decide),if_pos trivial,hrun]
  have c4:cls c=4:=by
   simp only[List.all_cons,Bool.and_eq_true]at hd
   exact(digit_in hd.1).2.1
  exact lex_tok (by rw[c4];decide) (by rw[c4];decide) (by decide) hsc m
theorem Lx.key{s:Bs}(h:s∈kws):Lx s [(1,s)]:=by
 have:∀s∈kws,s.all inW=true∧(match s with| []=>false|c::_=>cls c==3)=true:=by decide
 obtain⟨h1,h2⟩:=this s h
 cases s with
 |nil=>cases h2
 |cons c r=>exact Lx.word h1 ⟨c,r,rfl,by simpa using h2⟩
theorem Lx.sp{a b:Bs}{p q:List KT}(h:Lx a p)(k:Lx b q):Lx (a++32::b) (p++q):=h.app (k.blank (by decide)) (fun _ _=>by rfl)
theorem Lx.close{a:Bs}{p:List KT}{c:UInt8}(h:Lx a p)(hc:cls c=6)(hs:stopC.contains c=true):Lx (a++[c]) (p++[(3,[c])]):=
 h.app (Lx.sign hc Lx.nil) (fun _ _=>hs)
end Go.VT
