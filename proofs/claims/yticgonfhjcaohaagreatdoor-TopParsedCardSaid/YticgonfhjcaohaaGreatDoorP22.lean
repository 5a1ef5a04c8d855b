/- TopParsed, part 22. -/
import Derived.Test.YticgonfhjcaohaaGreatDoorP19
set_option maxRecDepth 100000
set_option maxHeartbeats 32000000
namespace Go.Proofs.YticgonfhjcaohaaGreatDoor
open Go.RowKit Go.VT _root_.Go.Proofs.Tryz
theorem own_strs_one(l:List Bs):∀u∈l.map (fun s=>Value.string (str s)),u.oneCell'=true:=by
 intro u hu
 obtain⟨s,_,rfl⟩:=List.mem_map.1 hu
 rfl
theorem pRest_stop{n:Nat}{l:List Bs}{ts:List Tk}(h:n=0∨atName ts=false):pRest n l ts=some (l,ts):=by
 cases n with
 |zero=>rfl
 |succ n=>
  rcases h with h|h
  ·omega
  ·simp[pRest,h]
theorem pRest_go{n:Nat}{l:List Bs}{ts:List Tk}(h:atName ts=true):pRest (n+1) l ts=(pName ts).bind fun(s,r)=>pRest n (l++[s]) r:=by simp[pRest,h]
theorem chain_c(w:World)(D:Gh)(p:PC)(k:Nat)[Keeps D w][hP:PS w D p k][hT:TS D p]:
  Calls prog 40 #[p.ptr] w (KSpec w D p k ((pName (p.ts k)).bind fun(s,r)=>(pName r).bind fun(t,r)=>(pRest 2 [s,t] r).bind fun(l,r)=>(wantT w_sub r).bind fun r=>(pName r).bind fun(t,r)=>some (K.chain l t,r))):=by
 obtain⟨R,hR⟩:∃R,R=(pName (p.ts k)).bind fun(s,r)=>(pName r).bind fun(t,r)=>(pRest 2 [s,t] r).bind fun(l,r)=>(wantT w_sub r).bind fun r=>(pName r).bind fun(t,r)=>some (K.chain l t,r):=⟨_,rfl⟩
 rw[←hR]
 have hb:=Box.lt (h:=hP.box)
 have hn:NeX w.heap.size (some p.g):=ne_size hb 0
 have:=hP.box.off
 have HR:=hid hR
 clear hR
 go_enter func40,ntmps40
 go_wp2_with fail
 cases hn1:pName (p.ts (k))
 ·rw[hn1]at HR
  refine(name_bad _ D p (k) hn1).mono ?_
  rintro e w1 ⟨⟨_,_,rfl⟩,hc1⟩
  go_wp2
  exact⟨rfl,ax_no HR ⟨_,_,rfl⟩ (ii:Gr (some p.g) w D w1 D) (ii:PS w1 D p (k)) (by omega)⟩
 rename_i x
 obtain⟨s,r⟩:=x
 obtain rfl:r=p.ts (k+1):=(pName_some hn1).choose_spec.2.2.2.2.2
 rw[hn1]at HR
 simp only[Option.bind_some]at HR
 refine(name_ok _ D p (k) s _ hn1).mono ?_
 rintro e w1 ⟨rfl,hc1,hP1⟩
 clear hn1
 go_wp2_with fail
 cases hn2:pName (p.ts (k+1))
 ·rw[hn2]at HR
  refine(name_bad _ D p (k+1) hn2).mono ?_
  rintro e w2 ⟨⟨_,_,rfl⟩,hc2⟩
  go_wp2
  exact⟨rfl,ax_no HR ⟨_,_,rfl⟩ (ii:Gr (some p.g) w D w2 D) (ii:PS w2 D p (k+1)) (by omega)⟩
 rename_i x
 obtain⟨t,r⟩:=x
 obtain rfl:r=p.ts (k+1+1):=(pName_some hn2).choose_spec.2.2.2.2.2
 rw[hn2]at HR
 simp only[Option.bind_some]at HR
 refine(name_ok _ D p (k+1) t _ hn2).mono ?_
 rintro e w2 ⟨rfl,hc2,hP2⟩
 clear hn2
 have hBz:Box w2 D w.heap.size 34 axz:=ii
 have hz2:=Box.lt (h:=hBz)
 have hb2:=Box.lt (h:=hP2.box)
 obtain⟨R0,hR0⟩:∃R0,R0=pRest 2 [s,t] (p.ts (k+1+1)):=⟨_,rfl⟩
 rw[←hR0]at HR
 have HR0:=hid hR0
 clear hR0
 go_wp2
 go_loopg [3] 2 (fun gk v wr=>∃(k':Nat)(xs:List Bs),gk+xs.length=4∧2≤xs.length∧k<k'∧Gr (some p.g) w D wr D∧PS wr D p k'∧Box wr D w.heap.size 34 axz∧
   VT.Own wr D (w.heap.size+1) 9 1 v xs.length (xs.map fun s=>.string (str s))∧Hid (R0=pRest gk xs (p.ts k')))
 case atStart=>
  refine⟨k+1+1,[s,t],rfl,by simp,by omega,ii,ii,ii,?_,HR0⟩
  exact Own.lit (cs:=#[.string (str s),.string (str t)]) ii (by simp) (by simp[maxLen]) (by omega)
 case round=>
  obtain⟨k',xs,hgk,hxs,hkk,hG,hP',hB,hO,hRm⟩:=hrel
  have:=hG.keeps
  obtain⟨a0,c0,rfl⟩:=own_form hO
  have:=hP'.box.off
  have:=hB.off
  have hb':=Box.lt (h:=hP'.box)
  have hbz:=Box.lt (h:=hB)
  have:=hO.apart (g:=p.g) (by omega)
  have:=own_ne hO (g:=p.g) (by omega)
  have:=own_ne hO (g:=w.heap.size) (by omega)
  have:=hO.off
  have hsub:=hO.sub (some p.g) (a:=w) (by omega)
  have hlx:gk≠0→(xs.length:Int)<4:=fun h=>by omega
  by_cases hstop:gk=0∨atName (p.ts k')=false
  ·have hR1:=hRm.out
   rw[pRest_stop hstop]at hR1
   rw[hR1]at HR
   clear hR1 hRm
   by_cases h0:gk=0
   ·have hlt4:¬(xs.length:Int)<4:=by omega
    clear hlx hstop
    have hlim:=hT.lim.2.2
    obtain⟨wz,hwz⟩:∃wz,wz=wr:=⟨_,rfl⟩
    go_wp2_with fail
    simp only[Option.bind_some]at HR
    by_cases hw:hd (p.ts k')=w_sub
    rotate_left
    ·simp only[wantT,if_neg hw]at HR
     refine(want_bad _ D p k' w_sub hw).mono ?_
     rintro e w4 ⟨⟨_,_,rfl⟩,hc4⟩
     go_wp2
     exact⟨rfl,ax_no HR ⟨_,_,rfl⟩ (ii:Gr (some p.g) w D w4 D) (ii:PS w4 D p k') (by omega)⟩
    simp only[wantT,if_pos hw,p.tail_ts,Option.bind_some]at HR
    refine(want_ok _ D p k' w_sub hw (by simp)).mono ?_
    rintro e w4 ⟨rfl,hc4,hP4⟩
    clear hw
    go_wp2_with fail
    cases hn5:pName (p.ts (k'+1))
    ·rw[hn5]at HR
     refine(name_bad _ D p (k'+1) hn5).mono ?_
     rintro e w5 ⟨⟨_,_,rfl⟩,hc5⟩
     go_wp2
     exact⟨rfl,ax_no HR ⟨_,_,rfl⟩ (ii:Gr (some p.g) w D w5 D) (ii:PS w5 D p (k'+1)) (by omega)⟩
    rename_i x
    obtain⟨u,r⟩:=x
    obtain rfl:r=p.ts (k'+1+1):=(pName_some hn5).choose_spec.2.2.2.2.2
    rw[hn5]at HR
    simp only[Option.bind_some]at HR
    refine(name_ok _ D p (k'+1) u _ hn5).mono ?_
    rintro e w5 ⟨rfl,hc5,hP5⟩
    clear hn5
    have hO5:VT.Own w5 D (w.heap.size+1) 9 1 (.slice a0 xs.length c0) xs.length (xs.map fun s=>.string (str s)):=ii
    obtain⟨D4,hPub,hSV⟩:=SV.of_own hO5
    have:=hPub.keeps
    have:=hPub.gr (some p.g) w D ii (fun q e=>by have:=(hO5.lt q e).1;omega)
    have hP6:=Pub.ps hPub hP5 (own_ne hO5 (by omega)).out
    have hB6:=hPub.box (ii:Box w5 D w.heap.size 34 axz) (own_ne hO5 (by omega)).out
    have:=hB6.off
    have:=hP6.box.off
    go_wp2_with (((with_reducible show wpList _ _ _ ((⟨_,.store 34 _ _,_,_,_,_⟩:Oper)::_) _ _);refine wpList_storeTo rfl 34 _ _ rfl rfl (w.heap.size) (axc ⟨false,.chain xs u⟩ (.slice none 0 0) (.slice none 0 0) (.slice a0 xs.length c0)) rfl rfl _ (axz) (hB6.heap) (hz34) rfl (axc_one _ _ _ _ _ _ _ _ _ _) ?_))
    have hB7:Box (w5.setRow w.heap.size (axc ⟨false,.chain xs u⟩ (.slice none 0 0) (.slice none 0 0) (.slice a0 xs.length c0))) D4 w.heap.size 34 (axc ⟨false,.chain xs u⟩ (.slice none 0 0) (.slice none 0 0) (.slice a0 xs.length c0)):=ii
    refine bodyPost_ret (v:=.agg (axc ⟨false,.chain xs u⟩ (.slice none 0 0) (.slice none 0 0) (.slice a0 xs.length c0))) ?_ rfl ?_
    ·exact hB7.result rfl rfl underlying34 rfl hz34
    ·exact ax_ret (D':=D4) HR ⟨.nil,.nil,hSV⟩ ii ii (by omega)
   ·have hlt4:=hlx h0
    have hat:=hstop.resolve_left h0
    clear hlx hstop
    go_wp2_with fail
    refine(atName_c _ D p k').mono ?_
    rintro e w3 ⟨rfl,hc3⟩
    rw[hat]
    clear hat
    go_wp2_with fail
    simp only[Option.bind_some]at HR
    by_cases hw:hd (p.ts k')=w_sub
    rotate_left
    ·simp only[wantT,if_neg hw]at HR
     refine(want_bad _ D p k' w_sub hw).mono ?_
     rintro e w4 ⟨⟨_,_,rfl⟩,hc4⟩
     go_wp2
     exact⟨rfl,ax_no HR ⟨_,_,rfl⟩ (ii:Gr (some p.g) w D w4 D) (ii:PS w4 D p k') (by omega)⟩
    simp only[wantT,if_pos hw,p.tail_ts,Option.bind_some]at HR
    refine(want_ok _ D p k' w_sub hw (by simp)).mono ?_
    rintro e w4 ⟨rfl,hc4,hP4⟩
    clear hw
    go_wp2_with fail
    cases hn5:pName (p.ts (k'+1))
    ·rw[hn5]at HR
     refine(name_bad _ D p (k'+1) hn5).mono ?_
     rintro e w5 ⟨⟨_,_,rfl⟩,hc5⟩
     go_wp2
     exact⟨rfl,ax_no HR ⟨_,_,rfl⟩ (ii:Gr (some p.g) w D w5 D) (ii:PS w5 D p (k'+1)) (by omega)⟩
    rename_i x
    obtain⟨u,r⟩:=x
    obtain rfl:r=p.ts (k'+1+1):=(pName_some hn5).choose_spec.2.2.2.2.2
    rw[hn5]at HR
    simp only[Option.bind_some]at HR
    refine(name_ok _ D p (k'+1) u _ hn5).mono ?_
    rintro e w5 ⟨rfl,hc5,hP5⟩
    clear hn5
    have hO5:VT.Own w5 D (w.heap.size+1) 9 1 (.slice a0 xs.length c0) xs.length (xs.map fun s=>.string (str s)):=ii
    obtain⟨D4,hPub,hSV⟩:=SV.of_own hO5
    have:=hPub.keeps
    have:=hPub.gr (some p.g) w D ii (fun q e=>by have:=(hO5.lt q e).1;omega)
    have hP6:=Pub.ps hPub hP5 (own_ne hO5 (by omega)).out
    have hB6:=hPub.box (ii:Box w5 D w.heap.size 34 axz) (own_ne hO5 (by omega)).out
    have:=hB6.off
    have:=hP6.box.off
    go_wp2_with (((with_reducible show wpList _ _ _ ((⟨_,.store 34 _ _,_,_,_,_⟩:Oper)::_) _ _);refine wpList_storeTo rfl 34 _ _ rfl rfl (w.heap.size) (axc ⟨false,.chain xs u⟩ (.slice none 0 0) (.slice none 0 0) (.slice a0 xs.length c0)) rfl rfl _ (axz) (hB6.heap) (hz34) rfl (axc_one _ _ _ _ _ _ _ _ _ _) ?_))
    have hB7:Box (w5.setRow w.heap.size (axc ⟨false,.chain xs u⟩ (.slice none 0 0) (.slice none 0 0) (.slice a0 xs.length c0))) D4 w.heap.size 34 (axc ⟨false,.chain xs u⟩ (.slice none 0 0) (.slice none 0 0) (.slice a0 xs.length c0)):=ii
    refine bodyPost_ret (v:=.agg (axc ⟨false,.chain xs u⟩ (.slice none 0 0) (.slice none 0 0) (.slice a0 xs.length c0))) ?_ rfl ?_
    ·exact hB7.result rfl rfl underlying34 rfl hz34
    ·exact ax_ret (D':=D4) HR ⟨.nil,.nil,hSV⟩ ii ii (by omega)
  ·have h0:gk≠0:=fun h=>hstop (.inl h)
   have hat:atName (p.ts k')=true:=by
    cases h:atName (p.ts k')with
    |true=>rfl
    |false=>exact absurd (.inr h) hstop
   have hlt4:=hlx h0
   clear hlx hstop
   obtain⟨m,rfl⟩:∃m,gk=m+1:=⟨gk-1,by omega⟩
   have hR1:=hRm.out
   rw[pRest_go hat]at hR1
   have HR1:=hid hR1
   clear hR1 hRm
   go_wp2_with fail
   refine(atName_c _ D p k').mono ?_
   rintro e w3 ⟨rfl,hc3⟩
   rw[hat]
   clear hat
   go_wp2_with fail
   cases hn4:pName (p.ts k')
   ·rw[hn4]at HR1
    rw[show R0=none from HR1]at HR
    refine(name_bad _ D p k' hn4).mono ?_
    rintro e w4 ⟨⟨_,_,rfl⟩,hc4⟩
    go_wp2
    exact⟨rfl,ax_no HR ⟨_,_,rfl⟩ (ii:Gr (some p.g) w D w4 D) (ii:PS w4 D p k') (by omega)⟩
   rename_i x
   obtain⟨u,r⟩:=x
   obtain rfl:r=p.ts (k'+1):=(pName_some hn4).choose_spec.2.2.2.2.2
   rw[hn4]at HR1
   simp only[Option.bind_some]at HR1
   refine(name_ok _ D p k' u _ hn4).mono ?_
   rintro e w4 ⟨rfl,hc4,hP4⟩
   clear hn4
   have hOx:∀o,VT.Own (w4.alloc o) D (w.heap.size+1) 9 1 (.slice a0 xs.length c0) xs.length (xs.map fun s=>.string (str s)):=fun o=>ii
   have hBx:∀s,Box (w4.alloc (.cells #[.string s] 9)) D w4.heap.size 9 #[.string s]:=fun _=>ii
   have hs1:=hc3.size
   have hs2:=hc4.size
   go_wp2_with (at_builtin;refine wp_append_1 (v:=.slice a0 xs.length c0) rfl (.tmp 16) (.tmp 19) 32 rfl underlying32 el9 rfl (hOx _) rfl (hBx _) rfl (own_strs_one [u]) (by unfold maxLen;omega) (by omega) (by simp;omega) ?_;intro v5 w5 hO5 hc5)
   go_roundg m
   case measure=>omega
   case rel=>
    refine⟨k'+1,xs++[u],by simp;omega,by simp;omega,by omega,ii,ii,ii,?_,HR1⟩
    rw[List.map_append,List.length_append];exact hO5
end Go.Proofs.YticgonfhjcaohaaGreatDoor
namespace Go.Proofs.YticgonfhjcaohaaGreatDoor
open Go.RowKit Go.VT _root_.Go.Proofs.Tryz
abbrev axi(kd:Int)(l:C)(lp:Value)(o:Option C)(rp:Value):Array Value:=#[.int .i64 kd,.bool false,.int .i64 l.kind,.string (str l.nm),.int .i64 l.lo,.int .i64 l.hi,lp,.int .i64 (oK o),.string (str (oN o)),.int .i64 (oLo o),.int .i64 (oHi o),rp,.slice none 0 0,.string ⟨#[]⟩,.string ⟨#[]⟩,.string ⟨#[]⟩]
theorem ne_lt{a b:Nat}(h:a<b):NeX b (some a):=⟨fun e=>by have:=Option.some.inj e;omega⟩
theorem ne_gt{a b:Nat}(h:a<b):NeX a (some b):=⟨fun e=>by have:=Option.some.inj e;omega⟩
theorem inclusion_c(N:Nat)(w:World)(D:Gh)(p:PC)(k:Nat)(hN:2*p.toks.length+2≤N)[Keeps D w][hP:PS w D p k][hT:TS D p]:
  Calls prog 116 #[p.ptr] w (KSpec w D p k ((pConcept N (p.ts k)).bind fun(l,r)=>
   if hd r=w_sub then(pConcept N r.tail).bind fun(c,r)=>some (.sub l c,r)
   else if hd r=w_same then(pConcept N r.tail).bind fun(c,r)=>some (.equiv l c,r)
   else if hd r=w_disjoint then(pConcept N r.tail).bind fun(c,r)=>some (.disj l c,r)
   else none)):=by
 obtain⟨R,hR⟩:∃R,R=(pConcept N (p.ts k)).bind fun(l,r)=>
   if hd r=w_sub then(pConcept N r.tail).bind fun(c,r)=>some (K.sub l c,r)
   else if hd r=w_same then(pConcept N r.tail).bind fun(c,r)=>some (K.equiv l c,r)
   else if hd r=w_disjoint then(pConcept N r.tail).bind fun(c,r)=>some (K.disj l c,r)
   else none:=⟨_,rfl⟩
 rw[←hR]
 have hb:=Box.lt (h:=hP.box)
 have hn:NeX w.heap.size (some p.g):=ne_size hb 0
 have:=hP.box.off
 have HR:=hid hR
 clear hR
 go_enter func116,ntmps116
 go_wp2_with fail
 refine(concept_c N _ D p k (by omega)).mono ?_
 cases hn1:pConcept N (p.ts k)
 ·rw[hn1]at HR
  intro e w1 h1
  obtain⟨⟨_,_,rfl⟩,D1,k1,hg1,hk1,hP1⟩:=h1
  go_wp2
  exact⟨rfl,ax_no HR ⟨_,_,rfl⟩ (ii:Gr (some p.g) w D w1 D1) hP1 (by omega)⟩
 rename_i y
 obtain⟨l,r⟩:=y
 rw[hn1]at HR
 simp only[Option.bind_some]at HR
 intro e w1 h1
 obtain⟨pv1,D1,k1,rfl,hpv1,hg1,hP1,rfl,hk1⟩:=h1
 obtain⟨a1,m1,rfl,_,_⟩:=PV.form hpv1
 have hle1:=hg1.le
 have:=hg1.keeps
 clear hn1
 go_wp2_with fail
 obtain⟨W,hW⟩:∃W,W=w1.alloc (.cells (axi 0 l (.slice a1 l.parts.length m1) none (.slice none 0 0)) 34):=⟨_,rfl⟩
 have hGW:Gr (some p.g) w D W D1:=hW▸ii
 have hPW:PS W D1 p k1:=hW▸ii
 have hBW:Box W D1 w.heap.size 34 axz:=hW▸ii
 have hAW:Box W D1 w1.heap.size 34 (axi 0 l (.slice a1 l.parts.length m1) none (.slice none 0 0)):=hW▸ii
 rw[show w1.alloc (.cells #[.int .i64 0,.bool false,.int .i64 l.kind,.string (str l.nm),.int .i64 l.lo,.int .i64 l.hi,.slice a1 l.parts.length m1,.int .i64 0,.string ⟨#[]⟩,.int .i64 0,.int .i64 0,.slice none 0 0,.slice none 0 0,.string ⟨#[]⟩,.string ⟨#[]⟩,.string ⟨#[]⟩] 34)=W from hW.symm]
 have hlt1:w.heap.size<w1.heap.size:=Box.lt (h:=(ii:Box w1 D1 w.heap.size 34 axz))
 have hga:=Box.lt (h:=hAW)
 clear hW
 have:=hGW.keeps
 have:New w w1.heap.size:=⟨by omega⟩
 have n1:NeX w1.heap.size (some p.g):=ne_lt (by omega)
 have n2:NeX p.g (some w1.heap.size):=ne_gt (by omega)
 have n3:NeX w.heap.size (some w1.heap.size):=ne_gt (by omega)
 have n4:NeX w1.heap.size (some w.heap.size):=ne_lt (by omega)
 have:=hBW.off
 have:=hAW.off
 have:=hPW.box.off
 generalize w1.heap.size=ga at*
 by_cases hn1:hd (p.ts k1)=w_sub
 ·simp only[if_pos hn1,p.tail_ts]at HR
  refine(skip_yes _ D1 p k1 w_sub hn1 (by simp)).mono ?_
  rintro e v1 ⟨rfl,hv1,hQ1⟩
  clear hn1
  have hAv:Box v1 D1 ga 34 (axi 0 l (.slice a1 l.parts.length m1) none (.slice none 0 0)):=ii
  have qa:=hAv.held (i:=0) rfl
  have qs:=Box.lt (h:=hAv)
  have:=hQ1.box.off
  go_wp2_with fail
  refine(concept_c N _ D1 p (k1+1) (by omega)).mono ?_
  cases hm:pConcept N (p.ts (k1+1))
  ·rw[hm]at HR
   intro e w4 h4
   obtain⟨⟨_,_,rfl⟩,D4,k4,hg4,hk4,hP4⟩:=h4
   go_wp2
   exact⟨rfl,ax_no HR ⟨_,_,rfl⟩ (ii:Gr (some p.g) w D w4 D4) hP4 (by omega)⟩
  rename_i y
  obtain⟨c,r⟩:=y
  rw[hm]at HR
  simp only[Option.bind_some]at HR
  intro e w4 h4
  obtain⟨pv4,D4,k4,rfl,hpv4,hg4,hP4,rfl,hk4⟩:=h4
  obtain⟨a4,m4,rfl,_,_⟩:=PV.form hpv4
  have hle4:=hg4.le
  have:=hg4.keeps
  clear hm
  have hB4:Box w4 D4 w.heap.size 34 axz:=ii
  have hA4:Box w4 D4 ga 34 (axi 1 l (.slice a1 l.parts.length m1) none (.slice none 0 0)):=ii
  have q4:=Box.held16 hA4
  have:=hB4.off
  have:=hA4.off
  have:=hP4.box.off
  go_wp2_with ((with_reducible show wpList _ _ _ ((⟨some 24,_,_,_,_,_⟩:Oper)::_) _ _);refine stopL ?_)
  obtain⟨W5,hW5⟩:∃W5,W5=((((w4.setCell ⟨ga,7,none⟩ (.int .i64 c.kind)).setCell ⟨ga,8,none⟩ (.string (str c.nm))).setCell ⟨ga,9,none⟩ (.int .i64 c.lo)).setCell ⟨ga,10,none⟩ (.int .i64 c.hi)).setCell ⟨ga,11,none⟩ (.slice a4 c.parts.length m4):=⟨_,rfl⟩
  have hA5:Box W5 D4 ga 34 (axi 1 l (.slice a1 l.parts.length m1) (some c) (.slice a4 c.parts.length m4)):=hW5▸ii
  have hB5:Box W5 D4 w.heap.size 34 axz:=hW5▸ii
  have hP5:PS W5 D4 p k4:=hW5▸ii
  have hG5:Gr (some p.g) w D W5 D4:=hW5▸ii
  rw[←hW5]
  clear hW5
  unfold Stop
  go_wp2_with (first|((with_reducible show wpList _ _ _ ((⟨_,.load 34 _,_,_,_,_⟩:Oper)::_) _ _);refine wpList_load_row rfl 34 _ rfl (ga) rfl (34) _ (0,0) _ (hA5.heap) underlying34 rfl (hz34) ?_)|((with_reducible show wpList _ _ _ ((⟨_,.store 34 _ _,_,_,_,_⟩:Oper)::_) _ _);refine wpList_storeTo rfl 34 _ _ rfl rfl (w.heap.size) ((axc ⟨false,.sub l c⟩ (.slice a1 l.parts.length m1) (.slice a4 c.parts.length m4) (.slice none 0 0))) rfl rfl _ (axz) (hB5.heap) (hz34) rfl (axc_one _ _ _ _ _ _ _ _ _ _) ?_))
  have hB6:Box (W5.setRow w.heap.size (axc ⟨false,.sub l c⟩ (.slice a1 l.parts.length m1) (.slice a4 c.parts.length m4) (.slice none 0 0))) D4 w.heap.size 34 (axc ⟨false,.sub l c⟩ (.slice a1 l.parts.length m1) (.slice a4 c.parts.length m4) (.slice none 0 0)):=ii
  refine bodyPost_ret (v:=.agg (axc ⟨false,.sub l c⟩ (.slice a1 l.parts.length m1) (.slice a4 c.parts.length m4) (.slice none 0 0))) ?_ rfl ?_
  ·exact hB6.result rfl rfl underlying34 rfl hz34
  ·exact ax_ret (D':=D4) HR ⟨(ii:PV D4 l.parts (.slice a1 l.parts.length m1)),hpv4,SV.nil _⟩ ii ii (by omega)
 simp only[if_neg hn1]at HR
 refine(skip_no _ D1 p k1 w_sub hn1).mono ?_
 rintro e v1 ⟨rfl,hv1⟩
 go_wp2_with fail
 by_cases hn2:hd (p.ts k1)=w_same
 ·simp only[if_pos hn2,p.tail_ts]at HR
  refine(skip_yes _ D1 p k1 w_same hn2 (by simp)).mono ?_
  rintro e v2 ⟨rfl,hv2,hQ2⟩
  clear hn2
  have hAv:Box v2 D1 ga 34 (axi 0 l (.slice a1 l.parts.length m1) none (.slice none 0 0)):=ii
  have qa:=hAv.held (i:=0) rfl
  have qs:=Box.lt (h:=hAv)
  have:=hQ2.box.off
  go_wp2_with fail
  refine(concept_c N _ D1 p (k1+1) (by omega)).mono ?_
  cases hm:pConcept N (p.ts (k1+1))
  ·rw[hm]at HR
   intro e w4 h4
   obtain⟨⟨_,_,rfl⟩,D4,k4,hg4,hk4,hP4⟩:=h4
   go_wp2
   exact⟨rfl,ax_no HR ⟨_,_,rfl⟩ (ii:Gr (some p.g) w D w4 D4) hP4 (by omega)⟩
  rename_i y
  obtain⟨c,r⟩:=y
  rw[hm]at HR
  simp only[Option.bind_some]at HR
  intro e w4 h4
  obtain⟨pv4,D4,k4,rfl,hpv4,hg4,hP4,rfl,hk4⟩:=h4
  obtain⟨a4,m4,rfl,_,_⟩:=PV.form hpv4
  have hle4:=hg4.le
  have:=hg4.keeps
  clear hm
  have hB4:Box w4 D4 w.heap.size 34 axz:=ii
  have hA4:Box w4 D4 ga 34 (axi 2 l (.slice a1 l.parts.length m1) none (.slice none 0 0)):=ii
  have q4:=Box.held16 hA4
  have:=hB4.off
  have:=hA4.off
  have:=hP4.box.off
  go_wp2_with ((with_reducible show wpList _ _ _ ((⟨some 24,_,_,_,_,_⟩:Oper)::_) _ _);refine stopL ?_)
  obtain⟨W5,hW5⟩:∃W5,W5=((((w4.setCell ⟨ga,7,none⟩ (.int .i64 c.kind)).setCell ⟨ga,8,none⟩ (.string (str c.nm))).setCell ⟨ga,9,none⟩ (.int .i64 c.lo)).setCell ⟨ga,10,none⟩ (.int .i64 c.hi)).setCell ⟨ga,11,none⟩ (.slice a4 c.parts.length m4):=⟨_,rfl⟩
  have hA5:Box W5 D4 ga 34 (axi 2 l (.slice a1 l.parts.length m1) (some c) (.slice a4 c.parts.length m4)):=hW5▸ii
  have hB5:Box W5 D4 w.heap.size 34 axz:=hW5▸ii
  have hP5:PS W5 D4 p k4:=hW5▸ii
  have hG5:Gr (some p.g) w D W5 D4:=hW5▸ii
  rw[←hW5]
  clear hW5
  unfold Stop
  go_wp2_with (first|((with_reducible show wpList _ _ _ ((⟨_,.load 34 _,_,_,_,_⟩:Oper)::_) _ _);refine wpList_load_row rfl 34 _ rfl (ga) rfl (34) _ (0,0) _ (hA5.heap) underlying34 rfl (hz34) ?_)|((with_reducible show wpList _ _ _ ((⟨_,.store 34 _ _,_,_,_,_⟩:Oper)::_) _ _);refine wpList_storeTo rfl 34 _ _ rfl rfl (w.heap.size) ((axc ⟨false,.equiv l c⟩ (.slice a1 l.parts.length m1) (.slice a4 c.parts.length m4) (.slice none 0 0))) rfl rfl _ (axz) (hB5.heap) (hz34) rfl (axc_one _ _ _ _ _ _ _ _ _ _) ?_))
  have hB6:Box (W5.setRow w.heap.size (axc ⟨false,.equiv l c⟩ (.slice a1 l.parts.length m1) (.slice a4 c.parts.length m4) (.slice none 0 0))) D4 w.heap.size 34 (axc ⟨false,.equiv l c⟩ (.slice a1 l.parts.length m1) (.slice a4 c.parts.length m4) (.slice none 0 0)):=ii
  refine bodyPost_ret (v:=.agg (axc ⟨false,.equiv l c⟩ (.slice a1 l.parts.length m1) (.slice a4 c.parts.length m4) (.slice none 0 0))) ?_ rfl ?_
  ·exact hB6.result rfl rfl underlying34 rfl hz34
  ·exact ax_ret (D':=D4) HR ⟨(ii:PV D4 l.parts (.slice a1 l.parts.length m1)),hpv4,SV.nil _⟩ ii ii (by omega)
 simp only[if_neg hn2]at HR
 refine(skip_no _ D1 p k1 w_same hn2).mono ?_
 rintro e v2 ⟨rfl,hv2⟩
 go_wp2_with fail
 by_cases hn3:hd (p.ts k1)=w_disjoint
 ·simp only[if_pos hn3,p.tail_ts]at HR
  refine(skip_yes _ D1 p k1 w_disjoint hn3 (by simp)).mono ?_
  rintro e v3 ⟨rfl,hv3,hQ3⟩
  clear hn3
  have hAv:Box v3 D1 ga 34 (axi 0 l (.slice a1 l.parts.length m1) none (.slice none 0 0)):=ii
  have qa:=hAv.held (i:=0) rfl
  have qs:=Box.lt (h:=hAv)
  have:=hQ3.box.off
  go_wp2_with fail
  refine(concept_c N _ D1 p (k1+1) (by omega)).mono ?_
  cases hm:pConcept N (p.ts (k1+1))
  ·rw[hm]at HR
   intro e w4 h4
   obtain⟨⟨_,_,rfl⟩,D4,k4,hg4,hk4,hP4⟩:=h4
   go_wp2
   exact⟨rfl,ax_no HR ⟨_,_,rfl⟩ (ii:Gr (some p.g) w D w4 D4) hP4 (by omega)⟩
  rename_i y
  obtain⟨c,r⟩:=y
  rw[hm]at HR
  simp only[Option.bind_some]at HR
  intro e w4 h4
  obtain⟨pv4,D4,k4,rfl,hpv4,hg4,hP4,rfl,hk4⟩:=h4
  obtain⟨a4,m4,rfl,_,_⟩:=PV.form hpv4
  have hle4:=hg4.le
  have:=hg4.keeps
  clear hm
  have hB4:Box w4 D4 w.heap.size 34 axz:=ii
  have hA4:Box w4 D4 ga 34 (axi 3 l (.slice a1 l.parts.length m1) none (.slice none 0 0)):=ii
  have q4:=Box.held16 hA4
  have:=hB4.off
  have:=hA4.off
  have:=hP4.box.off
  go_wp2_with ((with_reducible show wpList _ _ _ ((⟨some 24,_,_,_,_,_⟩:Oper)::_) _ _);refine stopL ?_)
  obtain⟨W5,hW5⟩:∃W5,W5=((((w4.setCell ⟨ga,7,none⟩ (.int .i64 c.kind)).setCell ⟨ga,8,none⟩ (.string (str c.nm))).setCell ⟨ga,9,none⟩ (.int .i64 c.lo)).setCell ⟨ga,10,none⟩ (.int .i64 c.hi)).setCell ⟨ga,11,none⟩ (.slice a4 c.parts.length m4):=⟨_,rfl⟩
  have hA5:Box W5 D4 ga 34 (axi 3 l (.slice a1 l.parts.length m1) (some c) (.slice a4 c.parts.length m4)):=hW5▸ii
  have hB5:Box W5 D4 w.heap.size 34 axz:=hW5▸ii
  have hP5:PS W5 D4 p k4:=hW5▸ii
  have hG5:Gr (some p.g) w D W5 D4:=hW5▸ii
  rw[←hW5]
  clear hW5
  unfold Stop
  go_wp2_with (first|((with_reducible show wpList _ _ _ ((⟨_,.load 34 _,_,_,_,_⟩:Oper)::_) _ _);refine wpList_load_row rfl 34 _ rfl (ga) rfl (34) _ (0,0) _ (hA5.heap) underlying34 rfl (hz34) ?_)|((with_reducible show wpList _ _ _ ((⟨_,.store 34 _ _,_,_,_,_⟩:Oper)::_) _ _);refine wpList_storeTo rfl 34 _ _ rfl rfl (w.heap.size) ((axc ⟨false,.disj l c⟩ (.slice a1 l.parts.length m1) (.slice a4 c.parts.length m4) (.slice none 0 0))) rfl rfl _ (axz) (hB5.heap) (hz34) rfl (axc_one _ _ _ _ _ _ _ _ _ _) ?_))
  have hB6:Box (W5.setRow w.heap.size (axc ⟨false,.disj l c⟩ (.slice a1 l.parts.length m1) (.slice a4 c.parts.length m4) (.slice none 0 0))) D4 w.heap.size 34 (axc ⟨false,.disj l c⟩ (.slice a1 l.parts.length m1) (.slice a4 c.parts.length m4) (.slice none 0 0)):=ii
  refine bodyPost_ret (v:=.agg (axc ⟨false,.disj l c⟩ (.slice a1 l.parts.length m1) (.slice a4 c.parts.length m4) (.slice none 0 0))) ?_ rfl ?_
  ·exact hB6.result rfl rfl underlying34 rfl hz34
  ·exact ax_ret (D':=D4) HR ⟨(ii:PV D4 l.parts (.slice a1 l.parts.length m1)),hpv4,SV.nil _⟩ ii ii (by omega)
 simp only[if_neg hn3]at HR
 refine(skip_no _ D1 p k1 w_disjoint hn3).mono ?_
 rintro e v3 ⟨rfl,hv3⟩
 go_wp2_with fail
 refine(fail_c _ D1 p k1 30).mono ?_
 rintro e v4 ⟨⟨_,_,rfl⟩,hv4⟩
 go_wp2
 exact⟨rfl,ax_no HR ⟨_,_,rfl⟩ (ii:Gr (some p.g) w D v4 D1) (ii:PS v4 D1 p k1) (by omega)⟩
end Go.Proofs.YticgonfhjcaohaaGreatDoor
namespace Go.Proofs.YticgonfhjcaohaaGreatDoor
open Go.RowKit Go.VT _root_.Go.Proofs.Tryz
theorem sameList_c(w:World)(D:Gh)(l:List Bs)(a a2:Option Addr)(len m len2 m2:Nat)(hp:SV D l (.slice a len m))(hp2:SV D l (.slice a2 len2 m2))[Keeps D w]:
  Calls prog 23 #[.slice a len m,.slice a2 len2 m2] w fun e w'=>e=.returned (.bool true)∧Cll none w w':=by
 obtain⟨hlen,hm1,hm2⟩:=SV_len hp
 obtain⟨hlen2,hm21,hm22⟩:=SV_len hp2
 obtain rfl:len2=len:=by omega
 have HL:=hid hlen
 clear hlen hlen2
 go_enter func23,ntmps23
 go_wp2_with fail
 go_loopg [5] len2 (fun gk v wr=>∃i:Nat,v=.int .i64 i∧gk+i=len2∧Gr none w D wr D)
 case atStart=>exact⟨0,rfl,rfl,ii⟩
 case round=>
  obtain⟨i,rfl,hgk,hG⟩:=hrel
  have:=hG.keeps
  have hle:=hG.bl.size
  by_cases hi:i<len2
  ·obtain⟨s,b,o,hj,rfl,r0,r1⟩:=SV_elem (w:=wr) hp (i:=i) (by rw[←HL.out];exact hi)
   obtain⟨s2,b2,o2,hj2,e1,s0,s1⟩:=SV_elem (w:=wr) hp2 (i:=i) (by rw[←HL.out];exact hi)
   obtain rfl:s2=s:=by rw[hj]at hj2;exact(Option.some.inj hj2).symm
   subst e1
   clear hj hj2
   have hi':(i:Int)<(len2:Int):=by omega
   repeat((fail_if_success (with_reducible show Code.wp _ (Code.region 6 _ _) _ _ _));go_step)
   refine wp_region_still_tail 8 (by kernel_rfl) (by kernel_rfl) ?_
   simp only[List.take_succ_cons,List.take_zero,List.drop_succ_cons,List.drop_zero]
   repeat still_step
   refine wpStill_nil ?_
   change wpList _ _ _ _ _ wr.drew
   go_wp2_with fail
   go_roundg (gk-1)
   case measure=>omega
   case rel=>exact⟨i+1,by simp,by omega,ii⟩
  ·go_wp2_with fail
   go_ret
   have:=hG.toBel
   exact⟨rfl,Bel.c⟩
theorem same_z(w:World)(a a2:Option Addr)(m m2:Nat):
  Calls prog 22 #[.agg #[.int .i64 0,.string ⟨#[]⟩,.int .i64 0,.int .i64 0,.slice a 0 m],.agg #[.int .i64 0,.string ⟨#[]⟩,.int .i64 0,.int .i64 0,.slice a2 0 m2]] w fun e w'=>e=.returned (.bool true)∧Cll none w w':=by
 go_enter func22,ntmps22
 go_wp2_with fail
 go_loopg [5] (0:Nat) (fun gk v wr=>v=.int .i64 0∧wr=(w.alloc (.cells #[.int .i64 0,.string ⟨#[]⟩,.int .i64 0,.int .i64 0,.slice a 0 m] 31)).alloc (.cells #[.int .i64 0,.string ⟨#[]⟩,.int .i64 0,.int .i64 0,.slice a2 0 m2] 31))
 case atStart=>exact⟨rfl,rfl⟩
 case round=>
  obtain⟨rfl,rfl⟩:=hrel
  go_wp2_with fail
  go_ret
  exact⟨rfl,Bel.c⟩
theorem same_o(w:World)(D:Gh)(x:Option C)(a a2:Option Addr)(len m len2 m2:Nat)(hp:PV D (oP x) (.slice a len m))(hp2:PV D (oP x) (.slice a2 len2 m2))[Keeps D w]:
  Calls prog 22 #[.agg #[.int .i64 (oK x),.string (str (oN x)),.int .i64 (oLo x),.int .i64 (oHi x),.slice a len m],.agg #[.int .i64 (oK x),.string (str (oN x)),.int .i64 (oLo x),.int .i64 (oHi x),.slice a2 len2 m2]] w fun e w'=>e=.returned (.bool true)∧Cll none w w':=by
 cases x with
 |none=>
  obtain⟨rfl,_,_⟩:=PV_len hp
  obtain⟨rfl,_,_⟩:=PV_len hp2
  exact same_z w a a2 m m2
 |some c=>exact same_c w D c a a2 len m len2 m2 hp hp2
theorem sameAx_l(w:World)(D:Gh)(k lk ll lh rk rl rh:Int)(op:Bool)(ln rn ro x y:ByteArray)(a1 b1 a2 b2 a3 b3:Option Addr)(n1 n2 n3 m1 m2 m3 q1 q2 q3:Nat)[hk:Keeps D w]
  (h1:∀w,Keeps D w→Calls prog 22 #[.agg #[.int .i64 lk,.string ln,.int .i64 ll,.int .i64 lh,.slice a1 n1 m1],.agg #[.int .i64 lk,.string ln,.int .i64 ll,.int .i64 lh,.slice b1 n1 q1]] w fun e w'=>e=.returned (.bool true)∧Cll none w w')
  (h2:∀w,Keeps D w→Calls prog 22 #[.agg #[.int .i64 rk,.string rn,.int .i64 rl,.int .i64 rh,.slice a2 n2 m2],.agg #[.int .i64 rk,.string rn,.int .i64 rl,.int .i64 rh,.slice b2 n2 q2]] w fun e w'=>e=.returned (.bool true)∧Cll none w w')
  (h3:∀w,Keeps D w→Calls prog 23 #[.slice a3 n3 m3,.slice b3 n3 q3] w fun e w'=>e=.returned (.bool true)∧Cll none w w'):
  Calls prog 7 #[.agg #[.int .i64 k,.bool op,.int .i64 lk,.string ln,.int .i64 ll,.int .i64 lh,.slice a1 n1 m1,.int .i64 rk,.string rn,.int .i64 rl,.int .i64 rh,.slice a2 n2 m2,.slice a3 n3 m3,.string ro,.string x,.string y],
   .agg #[.int .i64 k,.bool op,.int .i64 lk,.string ln,.int .i64 ll,.int .i64 lh,.slice b1 n1 q1,.int .i64 rk,.string rn,.int .i64 rl,.int .i64 rh,.slice b2 n2 q2,.slice b3 n3 q3,.string ro,.string x,.string y]] w fun e w'=>e=.returned (.bool true)∧Cll none w w':=by
 have H1:=hid h1
 have H2:=hid h2
 have H3:=hid h3
 clear h1 h2 h3
 have hz2:(w.alloc (.cells #[.int .i64 k,.bool op,.int .i64 lk,.string ln,.int .i64 ll,.int .i64 lh,.slice a1 n1 m1,.int .i64 rk,.string rn,.int .i64 rl,.int .i64 rh,.slice a2 n2 m2,.slice a3 n3 m3,.string ro,.string x,.string y] 34)).heap.size=w.heap.size+1:=by simp
 go_enter func7,ntmps7
 repeat((fail_if_success (with_reducible show Code.wp _ (Code.region 1 _ _) _ _ _));go_step)
 obtain⟨W,hW⟩:∃W,W=(w.alloc (.cells #[.int .i64 k,.bool op,.int .i64 lk,.string ln,.int .i64 ll,.int .i64 lh,.slice a1 n1 m1,.int .i64 rk,.string rn,.int .i64 rl,.int .i64 rh,.slice a2 n2 m2,.slice a3 n3 m3,.string ro,.string x,.string y] 34)).alloc (.cells #[.int .i64 k,.bool op,.int .i64 lk,.string ln,.int .i64 ll,.int .i64 lh,.slice b1 n1 q1,.int .i64 rk,.string rn,.int .i64 rl,.int .i64 rh,.slice b2 n2 q2,.slice b3 n3 q3,.string ro,.string x,.string y] 34):=⟨_,rfl⟩
 rw[←hW]
 have hB1:Box W D w.heap.size 34 #[.int .i64 k,.bool op,.int .i64 lk,.string ln,.int .i64 ll,.int .i64 lh,.slice a1 n1 m1,.int .i64 rk,.string rn,.int .i64 rl,.int .i64 rh,.slice a2 n2 m2,.slice a3 n3 m3,.string ro,.string x,.string y]:=by rw[hW];exact ii
 have hB2:Box W D (w.heap.size+1) 34 #[.int .i64 k,.bool op,.int .i64 lk,.string ln,.int .i64 ll,.int .i64 lh,.slice b1 n1 q1,.int .i64 rk,.string rn,.int .i64 rl,.int .i64 rh,.slice b2 n2 q2,.slice b3 n3 q3,.string ro,.string x,.string y]:=by rw[hW];exact Box.newAt hz2
 have hG:Cll none w W:=by rw[hW];exact Bel.c
 have hK:Keeps D W:=by rw[hW];exact ii
 clear hW hz2
 have ca0:=hB1.held (i:=0) rfl
 have ca1:=hB1.held (i:=1) rfl
 have ca2:=hB1.held (i:=2) rfl
 have ca3:=hB1.held (i:=3) rfl
 have ca4:=hB1.held (i:=4) rfl
 have ca5:=hB1.held (i:=5) rfl
 have ca6:=hB1.held (i:=6) rfl
 have ca7:=hB1.held (i:=7) rfl
 have ca8:=hB1.held (i:=8) rfl
 have ca9:=hB1.held (i:=9) rfl
 have ca10:=hB1.held (i:=10) rfl
 have ca11:=hB1.held (i:=11) rfl
 have ca12:=hB1.held (i:=12) rfl
 have ca13:=hB1.held (i:=13) rfl
 have ca14:=hB1.held (i:=14) rfl
 have ca15:=hB1.held (i:=15) rfl
 have cb0:=hB2.held (i:=0) rfl
 have cb1:=hB2.held (i:=1) rfl
 have cb2:=hB2.held (i:=2) rfl
 have cb3:=hB2.held (i:=3) rfl
 have cb4:=hB2.held (i:=4) rfl
 have cb5:=hB2.held (i:=5) rfl
 have cb6:=hB2.held (i:=6) rfl
 have cb7:=hB2.held (i:=7) rfl
 have cb8:=hB2.held (i:=8) rfl
 have cb9:=hB2.held (i:=9) rfl
 have cb10:=hB2.held (i:=10) rfl
 have cb11:=hB2.held (i:=11) rfl
 have cb12:=hB2.held (i:=12) rfl
 have cb13:=hB2.held (i:=13) rfl
 have cb14:=hB2.held (i:=14) rfl
 have cb15:=hB2.held (i:=15) rfl
 go_wp2_with fail
 refine(H1.out W hK).mono ?_
 rintro e w1 ⟨rfl,hd1⟩
 have hG1:Bl none w w1:=hG.out.trans hd1.out
 have hK1:Keeps D w1:=ii
 replace hB1:=Box.call W w1 D _ _ _ none (h:=hB1)
 replace hB2:=Box.call W w1 D _ _ _ none (h:=hB2)
 clear hG hd1 hK
 clear ca0 ca1 ca2 ca3 ca4 ca5 ca6 ca7 ca8 ca9 ca10 ca11 ca12 ca13 ca14 ca15 cb0 cb1 cb2 cb3 cb4 cb5 cb6 cb7 cb8 cb9 cb10 cb11 cb12 cb13 cb14 cb15
 have da0:=hB1.held (i:=0) rfl
 have da1:=hB1.held (i:=1) rfl
 have da2:=hB1.held (i:=2) rfl
 have da3:=hB1.held (i:=3) rfl
 have da4:=hB1.held (i:=4) rfl
 have da5:=hB1.held (i:=5) rfl
 have da6:=hB1.held (i:=6) rfl
 have da7:=hB1.held (i:=7) rfl
 have da8:=hB1.held (i:=8) rfl
 have da9:=hB1.held (i:=9) rfl
 have da10:=hB1.held (i:=10) rfl
 have da11:=hB1.held (i:=11) rfl
 have da12:=hB1.held (i:=12) rfl
 have da13:=hB1.held (i:=13) rfl
 have da14:=hB1.held (i:=14) rfl
 have da15:=hB1.held (i:=15) rfl
 have db0:=hB2.held (i:=0) rfl
 have db1:=hB2.held (i:=1) rfl
 have db2:=hB2.held (i:=2) rfl
 have db3:=hB2.held (i:=3) rfl
 have db4:=hB2.held (i:=4) rfl
 have db5:=hB2.held (i:=5) rfl
 have db6:=hB2.held (i:=6) rfl
 have db7:=hB2.held (i:=7) rfl
 have db8:=hB2.held (i:=8) rfl
 have db9:=hB2.held (i:=9) rfl
 have db10:=hB2.held (i:=10) rfl
 have db11:=hB2.held (i:=11) rfl
 have db12:=hB2.held (i:=12) rfl
 have db13:=hB2.held (i:=13) rfl
 have db14:=hB2.held (i:=14) rfl
 have db15:=hB2.held (i:=15) rfl
 go_wp2_with fail
 refine(H2.out w1 hK1).mono ?_
 rintro e w2 ⟨rfl,hd2⟩
 have hG2:Bl none w w2:=hG1.trans hd2.out
 have hK2:Keeps D w2:=ii
 replace hB1:=Box.call w1 w2 D _ _ _ none (h:=hB1)
 replace hB2:=Box.call w1 w2 D _ _ _ none (h:=hB2)
 clear hG1 hd2 hK1
 clear da0 da1 da2 da3 da4 da5 da6 da7 da8 da9 da10 da11 da12 da13 da14 da15 db0 db1 db2 db3 db4 db5 db6 db7 db8 db9 db10 db11 db12 db13 db14 db15
 have ea0:=hB1.held (i:=0) rfl
 have ea1:=hB1.held (i:=1) rfl
 have ea2:=hB1.held (i:=2) rfl
 have ea3:=hB1.held (i:=3) rfl
 have ea4:=hB1.held (i:=4) rfl
 have ea5:=hB1.held (i:=5) rfl
 have ea6:=hB1.held (i:=6) rfl
 have ea7:=hB1.held (i:=7) rfl
 have ea8:=hB1.held (i:=8) rfl
 have ea9:=hB1.held (i:=9) rfl
 have ea10:=hB1.held (i:=10) rfl
 have ea11:=hB1.held (i:=11) rfl
 have ea12:=hB1.held (i:=12) rfl
 have ea13:=hB1.held (i:=13) rfl
 have ea14:=hB1.held (i:=14) rfl
 have ea15:=hB1.held (i:=15) rfl
 have eb0:=hB2.held (i:=0) rfl
 have eb1:=hB2.held (i:=1) rfl
 have eb2:=hB2.held (i:=2) rfl
 have eb3:=hB2.held (i:=3) rfl
 have eb4:=hB2.held (i:=4) rfl
 have eb5:=hB2.held (i:=5) rfl
 have eb6:=hB2.held (i:=6) rfl
 have eb7:=hB2.held (i:=7) rfl
 have eb8:=hB2.held (i:=8) rfl
 have eb9:=hB2.held (i:=9) rfl
 have eb10:=hB2.held (i:=10) rfl
 have eb11:=hB2.held (i:=11) rfl
 have eb12:=hB2.held (i:=12) rfl
 have eb13:=hB2.held (i:=13) rfl
 have eb14:=hB2.held (i:=14) rfl
 have eb15:=hB2.held (i:=15) rfl
 go_wp2_with fail
 refine(H3.out w2 hK2).mono ?_
 rintro e w3 ⟨rfl,hd3⟩
 have hG3:Bl none w w3:=hG2.trans hd3.out
 have hK3:Keeps D w3:=ii
 replace hB1:=Box.call w2 w3 D _ _ _ none (h:=hB1)
 replace hB2:=Box.call w2 w3 D _ _ _ none (h:=hB2)
 clear hG2 hd3 hK2
 clear ea0 ea1 ea2 ea3 ea4 ea5 ea6 ea7 ea8 ea9 ea10 ea11 ea12 ea13 ea14 ea15 eb0 eb1 eb2 eb3 eb4 eb5 eb6 eb7 eb8 eb9 eb10 eb11 eb12 eb13 eb14 eb15
 have fa0:=hB1.held (i:=0) rfl
 have fa1:=hB1.held (i:=1) rfl
 have fa2:=hB1.held (i:=2) rfl
 have fa3:=hB1.held (i:=3) rfl
 have fa4:=hB1.held (i:=4) rfl
 have fa5:=hB1.held (i:=5) rfl
 have fa6:=hB1.held (i:=6) rfl
 have fa7:=hB1.held (i:=7) rfl
 have fa8:=hB1.held (i:=8) rfl
 have fa9:=hB1.held (i:=9) rfl
 have fa10:=hB1.held (i:=10) rfl
 have fa11:=hB1.held (i:=11) rfl
 have fa12:=hB1.held (i:=12) rfl
 have fa13:=hB1.held (i:=13) rfl
 have fa14:=hB1.held (i:=14) rfl
 have fa15:=hB1.held (i:=15) rfl
 have fb0:=hB2.held (i:=0) rfl
 have fb1:=hB2.held (i:=1) rfl
 have fb2:=hB2.held (i:=2) rfl
 have fb3:=hB2.held (i:=3) rfl
 have fb4:=hB2.held (i:=4) rfl
 have fb5:=hB2.held (i:=5) rfl
 have fb6:=hB2.held (i:=6) rfl
 have fb7:=hB2.held (i:=7) rfl
 have fb8:=hB2.held (i:=8) rfl
 have fb9:=hB2.held (i:=9) rfl
 have fb10:=hB2.held (i:=10) rfl
 have fb11:=hB2.held (i:=11) rfl
 have fb12:=hB2.held (i:=12) rfl
 have fb13:=hB2.held (i:=13) rfl
 have fb14:=hB2.held (i:=14) rfl
 have fb15:=hB2.held (i:=15) rfl
 go_wp2_with fail
 go_ret
 exact⟨rfl,⟨hG3⟩⟩
theorem PV_form{D:Gh}{l:List C}{v:Value}(h:PV D l v):∃a m,v=.slice a l.length m:=by
 obtain⟨a,m,rfl,_⟩:=PV.form h
 exact⟨a,m,rfl⟩
theorem sameAx_c(w:World)(D:Gh)(x:Ax)(lp rp rl lp' rp' rl':Value)[hk:Keeps D w](h:AV D x lp rp rl)(h':AV D x lp' rp' rl'):
  Calls prog 7 #[.agg (axc x lp rp rl),.agg (axc x lp' rp' rl')] w fun e w'=>e=.returned (.bool true)∧Cll none w w':=by
 obtain⟨a1,m1,rfl⟩:=PV_form h.l
 obtain⟨b1,q1,rfl⟩:=PV_form h'.l
 obtain⟨a2,m2,rfl⟩:=PV_form h.r
 obtain⟨b2,q2,rfl⟩:=PV_form h'.r
 obtain⟨a3,m3,rfl,_⟩:=SlN.form h.s
 obtain⟨b3,q3,rfl,_⟩:=SlN.form h'.s
 exact sameAx_l w D _ _ _ _ _ _ _ _ _ _ _ _ _ _ _ _ _ _ _ _ _ _ _ _ _ _ _ _
  (fun w hk=>same_o w D _ _ _ _ _ _ _ h.l h'.l) (fun w hk=>same_o w D _ _ _ _ _ _ _ h.r h'.r) (fun w hk=>sameList_c w D _ _ _ _ _ _ _ h.s h'.s)
end Go.Proofs.YticgonfhjcaohaaGreatDoor
