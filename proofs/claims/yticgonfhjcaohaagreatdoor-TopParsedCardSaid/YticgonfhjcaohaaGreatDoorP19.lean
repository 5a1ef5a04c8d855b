/- TopParsed, part 19. -/
import Derived.Test.YticgonfhjcaohaaGreatDoorP10
import Derived.Test.YticgonfhjcaohaaGreatDoorP16
set_option maxRecDepth 100000
set_option maxHeartbeats 32000000
namespace Go.Proofs.YticgonfhjcaohaaGreatDoor
open Go.RowKit Go.VT _root_.Go.Proofs.Tryz
def oK:Option C→Int|none=>0|some c=>c.kind
def oN:Option C→Bs|none=>[]|some c=>c.nm
def oLo:Option C→Int|none=>0|some c=>c.lo
def oHi:Option C→Int|none=>0|some c=>c.hi
def oP:Option C→List C|none=>[]|some c=>c.parts
abbrev axc(x:Ax)(lp rp rl:Value):Array Value:=#[.int .i64 x.k.kind,.bool x.op,.int .i64 (oK x.k.left),.string (str (oN x.k.left)),.int .i64 (oLo x.k.left),.int .i64 (oHi x.k.left),lp,.int .i64 (oK x.k.right),.string (str (oN x.k.right)),.int .i64 (oLo x.k.right),.int .i64 (oHi x.k.right),rp,rl,.string (str x.k.role),.string (str x.k.a),.string (str x.k.b)]
abbrev axz:Array Value:=#[.int .i64 0,.bool false,.int .i64 0,.string ⟨#[]⟩,.int .i64 0,.int .i64 0,.slice none 0 0,.int .i64 0,.string ⟨#[]⟩,.int .i64 0,.int .i64 0,.slice none 0 0,.slice none 0 0,.string ⟨#[]⟩,.string ⟨#[]⟩,.string ⟨#[]⟩]
def SV(D:Gh)(l:List Bs)(v:Value):Prop:=SlN D 1 v l.length (l.map fun s=>.string (str s))
theorem SV.nil(D:Gh):SV D [] (.slice none 0 0):=SlN.nil D 1
theorem SV.le{D D':Gh}[hd:Le D D']{l:List Bs}{v:Value}(h:SV D l v):SV D' l v:=SlN.le h
structure AV(D:Gh)(x:Ax)(lp rp rl:Value):Prop where
 l:PV D (oP x.k.left) lp
 r:PV D (oP x.k.right) rp
 s:SV D x.k.roles rl
theorem AV.le{D D':Gh}[hd:Le D D']{x:Ax}{lp rp rl:Value}(h:AV D x lp rp rl):AV D' x lp rp rl:=⟨have:=h.l;ii,have:=h.r;ii,h.s.le⟩
def ARet(w:World)(D:Gh)(p:PC)(k:Nat)(x:Ax)(r:List Tk)(e:Ending)(w':World):Prop:=
 ∃lp rp rl D' k',e=.returned (.agg (axc x lp rp rl))∧AV D' x lp rp rl∧Gro (some p.g) w D w' D'∧PS w' D' p k'∧r=p.ts k'∧k<k'
def KSpec(w:World)(D:Gh)(p:PC)(k:Nat)(R:Option (K×List Tk))(e:Ending)(w':World):Prop:=match R with
 |some x=>ARet w D p k ⟨false,x.1⟩ x.2 e w'
 |none=>Bad w D p k e w'
theorem KSpec.ok{w w':World}{D:Gh}{p:PC}{k:Nat}{e:Ending}{R:Option (K×List Tk)}{c:K}{r:List Tk}(hR:Hid (R=some (c,r)))(h:ARet w D p k ⟨false,c⟩ r e w'):KSpec w D p k R e w':=by rw[hR.out];exact h
theorem KSpec.no{w w':World}{D:Gh}{p:PC}{k:Nat}{e:Ending}{R:Option (K×List Tk)}(hR:Hid (R=none))(h:Bad w D p k e w'):KSpec w D p k R e w':=by rw[hR.out];exact h
theorem ax_ret{w W:World}{D D':Gh}{p:PC}{k k':Nat}{c:K}{R:Option (K×List Tk)}{lp rp rl:Value}(hR:Hid (R=some (c,p.ts k')))(h:AV D' ⟨false,c⟩ lp rp rl)(hg:Gr (some p.g) w D W D')(hP:PS W D' p k')(hk:k<k'):KSpec w D p k R (.returned (.agg (axc ⟨false,c⟩ lp rp rl))) W:=
 KSpec.ok hR ⟨_,_,_,D',k',rfl,h,Gr.g,hP,rfl,hk⟩
theorem ax_no{w w':World}{D D':Gh}{p:PC}{k k':Nat}{R:Option (K×List Tk)}{e:Ending}(hR:Hid (R=none))(he:Fault e)(hg:Gr (some p.g) w D w' D')(hP:PS w' D' p k')(hk:k≤k'):KSpec w D p k R e w':=
 KSpec.no hR (bad_ret he Gr.g hP hk)
instance PS_setRow(w:World)(D:Gh)(p:PC)(n b:Nat)(cs:Array Value)[h:PS w D p n][hn:NeX b (some p.g)]:PS (w.setRow b cs) D p n:=⟨⟨(setRow_other w b p.g cs (fun e=>hn.out (by rw[e]))).trans h.box.heap,h.box.off⟩,h.lt⟩
theorem Box.held16{w:World}{D:Gh}{g:Nat}{t:TypeId}{c0 c1 c2 c3 c4 c5 c6 c7 c8 c9 c10 c11 c12 c13 c14 c15:Value}(h:Box w D g t #[c0,c1,c2,c3,c4,c5,c6,c7,c8,c9,c10,c11,c12,c13,c14,c15]):
  (w.cell? ⟨g,0,none⟩=some c0∧w.cell? ⟨g,1,none⟩=some c1∧w.cell? ⟨g,2,none⟩=some c2∧w.cell? ⟨g,3,none⟩=some c3∧w.cell? ⟨g,4,none⟩=some c4∧w.cell? ⟨g,5,none⟩=some c5∧w.cell? ⟨g,6,none⟩=some c6∧w.cell? ⟨g,7,none⟩=some c7∧w.cell? ⟨g,8,none⟩=some c8∧w.cell? ⟨g,9,none⟩=some c9∧w.cell? ⟨g,10,none⟩=some c10∧w.cell? ⟨g,11,none⟩=some c11∧w.cell? ⟨g,12,none⟩=some c12∧w.cell? ⟨g,13,none⟩=some c13∧w.cell? ⟨g,14,none⟩=some c14∧w.cell? ⟨g,15,none⟩=some c15)∧(w.frozen? ⟨g,0,none⟩=false∧w.frozen? ⟨g,1,none⟩=false∧w.frozen? ⟨g,2,none⟩=false∧w.frozen? ⟨g,3,none⟩=false∧w.frozen? ⟨g,4,none⟩=false∧w.frozen? ⟨g,5,none⟩=false∧w.frozen? ⟨g,6,none⟩=false∧w.frozen? ⟨g,7,none⟩=false∧w.frozen? ⟨g,8,none⟩=false∧w.frozen? ⟨g,9,none⟩=false∧w.frozen? ⟨g,10,none⟩=false∧w.frozen? ⟨g,11,none⟩=false∧w.frozen? ⟨g,12,none⟩=false∧w.frozen? ⟨g,13,none⟩=false∧w.frozen? ⟨g,14,none⟩=false∧w.frozen? ⟨g,15,none⟩=false)∧g<w.heap.size:=
 ⟨⟨Box.cell (h:=h) 0,Box.cell (h:=h) 1,Box.cell (h:=h) 2,Box.cell (h:=h) 3,Box.cell (h:=h) 4,Box.cell (h:=h) 5,Box.cell (h:=h) 6,Box.cell (h:=h) 7,Box.cell (h:=h) 8,Box.cell (h:=h) 9,Box.cell (h:=h) 10,Box.cell (h:=h) 11,Box.cell (h:=h) 12,Box.cell (h:=h) 13,Box.cell (h:=h) 14,Box.cell (h:=h) 15⟩,⟨Box.frozen (h:=h) 0,Box.frozen (h:=h) 1,Box.frozen (h:=h) 2,Box.frozen (h:=h) 3,Box.frozen (h:=h) 4,Box.frozen (h:=h) 5,Box.frozen (h:=h) 6,Box.frozen (h:=h) 7,Box.frozen (h:=h) 8,Box.frozen (h:=h) 9,Box.frozen (h:=h) 10,Box.frozen (h:=h) 11,Box.frozen (h:=h) 12,Box.frozen (h:=h) 13,Box.frozen (h:=h) 14,Box.frozen (h:=h) 15⟩,Box.lt (h:=h)⟩
theorem axc_one(x:Ax)(a b c:Option Addr)(n m k i j l:Nat):(axc x (.slice a n i) (.slice b m j) (.slice c k l)).all (·.oneCell')=true:=by kernel_rfl
theorem hz34:(prog.info? 34).map (·.size)=some (16:Nat):=by kernel_rfl
theorem SV.lit1{w:World}{D:Gh}{g:Nat}{s:Bs}[Keeps D w](h:Box w D g 9 #[.string (str s)]):∃D',Pub w D D' (some g)∧SV D' [s] (.slice (some ⟨g,0,none⟩) 1 1):=by
 obtain⟨D',hP,hc⟩:=h.pub
 refine⟨D',hP,by simp,some ⟨g,0,none⟩,1,by simp,by simp,by simp[maxLen],by simp,fun _=>⟨g,0,rfl,fun j u e=>?_⟩⟩
 rw[Nat.zero_add]
 refine hc j u ?_
 cases j with
 |zero=>simpa using e
 |succ j=>simp at e
theorem SV.of_own{w:World}{D:Gh}[Keeps D w]{B:Nat}{e:TypeId}{v:Value}{n:Nat}{l:List Bs}(h:VT.Own w D B e 1 v n (l.map fun s=>.string (str s))):∃D',Pub w D D' v.ownBlock∧SV D' l v:=by
 obtain⟨D',hP,hS⟩:=h.pub
 have hl:n=l.length:=by have:=h.own.1;simp at this;omega
 subst hl
 exact⟨D',hP,hS⟩
theorem domain_c(N:Nat)(w:World)(D:Gh)(p:PC)(k:Nat)(hN:2*p.toks.length+2≤N)[Keeps D w][hP:PS w D p k][hT:TS D p]:
  Calls prog 38 #[p.ptr] w (KSpec w D p k ((pName (p.ts k)).bind fun(s,r)=>(pConcept N r).bind fun(c,r)=>some (K.dom s c,r))):=by
 obtain⟨R,hR⟩:∃R,R=(pName (p.ts k)).bind fun(s,r)=>(pConcept N r).bind fun(c,r)=>some (K.dom s c,r):=⟨_,rfl⟩
 rw[←hR]
 have hb:=Box.lt (h:=hP.box)
 have hn:NeX w.heap.size (some p.g):=ne_size hb 0
 have:=hP.box.off
 have HR:=hid hR
 clear hR
 go_enter func38,ntmps38
 go_wp2_with fail
 cases hn1:pName (p.ts (k))
 ·rw[hn1]at HR
  refine(name_bad _ D p (k) hn1).mono ?_
  rintro e w1 ⟨⟨_,_,rfl⟩,hc1⟩
  go_wp2
  exact⟨rfl,ax_no HR ⟨_,_,rfl⟩ (ii:Gr (some p.g) w D w1 D) (ii:PS w1 D p (k)) (by omega)⟩
 ·rename_i x
  obtain⟨s,r⟩:=x
  obtain rfl:r=p.ts (k+1):=(pName_some hn1).choose_spec.2.2.2.2.2
  rw[hn1]at HR
  simp only[Option.bind_some]at HR
  refine(name_ok _ D p (k) s _ hn1).mono ?_
  rintro e w1 ⟨rfl,hc1,hP1⟩
  clear hn1
  go_wp2_with fail
  refine(concept_c N _ D p (k+1) (by omega)).mono ?_
  cases hn2:pConcept N (p.ts (k+1))
  ·rw[hn2]at HR
   intro e w2 h2
   obtain⟨⟨_,_,rfl⟩,D2,k2,hg2,hk2,hP2⟩:=h2
   go_wp2
   exact⟨rfl,ax_no HR ⟨_,_,rfl⟩ (ii:Gr (some p.g) w D w2 D2) hP2 (by omega)⟩
  ·rename_i y
   obtain⟨c,r⟩:=y
   rw[hn2]at HR
   simp only[Option.bind_some]at HR
   intro e w2 h2
   obtain⟨pv2,D2,k2,rfl,hpv2,hg2,hP2,rfl,hk2⟩:=h2
   obtain⟨a2,m2,rfl,_,_⟩:=PV.form hpv2
   have hle2:=hg2.le
   clear hn2
   have hB:Box w2 D2 w.heap.size 34 axz:=ii
   have:=hB.off
   have:=hP2.box.off
   go_wp2_with (refine wpList_storeTo rfl 34 _ _ rfl rfl w.heap.size (axc ⟨false,.dom s c⟩ (.slice none 0 0) (.slice a2 c.parts.length m2) (.slice none 0 0)) rfl rfl 34 axz hB.heap hz34 rfl (axc_one _ _ _ _ _ _ _ _ _ _) ?_)
   have hB':Box (w2.setRow w.heap.size (axc ⟨false,.dom s c⟩ (.slice none 0 0) (.slice a2 c.parts.length m2) (.slice none 0 0))) D2 w.heap.size 34 (axc ⟨false,.dom s c⟩ (.slice none 0 0) (.slice a2 c.parts.length m2) (.slice none 0 0)):=ii
   refine bodyPost_ret (v:=.agg (axc ⟨false,.dom s c⟩ (.slice none 0 0) (.slice a2 c.parts.length m2) (.slice none 0 0))) ?_ rfl ?_
   ·exact hB'.result rfl rfl underlying34 rfl hz34
   ·exact ax_ret (D':=D2) HR ⟨.nil,hpv2,SV.nil _⟩ ii ii (by omega)
theorem reflexive_c(w:World)(D:Gh)(p:PC)(k:Nat)[Keeps D w][hP:PS w D p k][hT:TS D p]:
  Calls prog 41 #[p.ptr] w (KSpec w D p k ((pName (p.ts k)).bind fun(s,r)=>some (K.refl s,r))):=by
 obtain⟨R,hR⟩:∃R,R=(pName (p.ts k)).bind fun(s,r)=>some (K.refl s,r):=⟨_,rfl⟩
 rw[←hR]
 have hb:=Box.lt (h:=hP.box)
 have hn:NeX w.heap.size (some p.g):=ne_size hb 0
 have:=hP.box.off
 have HR:=hid hR
 clear hR
 go_enter func41,ntmps41
 go_wp2_with fail
 cases hn1:pName (p.ts (k))
 ·rw[hn1]at HR
  refine(name_bad _ D p (k) hn1).mono ?_
  rintro e w1 ⟨⟨_,_,rfl⟩,hc1⟩
  go_wp2
  exact⟨rfl,ax_no HR ⟨_,_,rfl⟩ (ii:Gr (some p.g) w D w1 D) (ii:PS w1 D p (k)) (by omega)⟩
 ·rename_i x
  obtain⟨s,r⟩:=x
  obtain rfl:r=p.ts (k+1):=(pName_some hn1).choose_spec.2.2.2.2.2
  rw[hn1]at HR
  simp only[Option.bind_some]at HR
  refine(name_ok _ D p (k) s _ hn1).mono ?_
  rintro e w1 ⟨rfl,hc1,hP1⟩
  clear hn1
  have hB:Box w1 D w.heap.size 34 axz:=ii
  have:=hB.off
  have:=hP1.box.off
  go_wp2_with (refine wpList_storeTo rfl 34 _ _ rfl rfl w.heap.size (axc ⟨false,.refl s⟩ (.slice none 0 0) (.slice none 0 0) (.slice none 0 0)) rfl rfl 34 axz hB.heap hz34 rfl (axc_one _ _ _ _ _ _ _ _ _ _) ?_)
  have hB':Box (w1.setRow w.heap.size (axc ⟨false,.refl s⟩ (.slice none 0 0) (.slice none 0 0) (.slice none 0 0))) D w.heap.size 34 (axc ⟨false,.refl s⟩ (.slice none 0 0) (.slice none 0 0) (.slice none 0 0)):=ii
  refine bodyPost_ret (v:=.agg (axc ⟨false,.refl s⟩ (.slice none 0 0) (.slice none 0 0) (.slice none 0 0))) ?_ rfl ?_
  ·exact hB'.result rfl rfl underlying34 rfl hz34
  ·exact ax_ret (D':=D) HR ⟨.nil,.nil,SV.nil _⟩ ii ii (by omega)
theorem typing_c(N:Nat)(w:World)(D:Gh)(p:PC)(k:Nat)(hN:2*p.toks.length+2≤N)[Keeps D w][hP:PS w D p k][hT:TS D p]:
  Calls prog 42 #[p.ptr] w (KSpec w D p k ((pName (p.ts k)).bind fun(s,r)=>(pConcept N r).bind fun(c,r)=>some (K.typ s c,r))):=by
 obtain⟨R,hR⟩:∃R,R=(pName (p.ts k)).bind fun(s,r)=>(pConcept N r).bind fun(c,r)=>some (K.typ s c,r):=⟨_,rfl⟩
 rw[←hR]
 have hb:=Box.lt (h:=hP.box)
 have hn:NeX w.heap.size (some p.g):=ne_size hb 0
 have:=hP.box.off
 have HR:=hid hR
 clear hR
 go_enter func42,ntmps42
 go_wp2_with fail
 cases hn1:pName (p.ts (k))
 ·rw[hn1]at HR
  refine(name_bad _ D p (k) hn1).mono ?_
  rintro e w1 ⟨⟨_,_,rfl⟩,hc1⟩
  go_wp2
  exact⟨rfl,ax_no HR ⟨_,_,rfl⟩ (ii:Gr (some p.g) w D w1 D) (ii:PS w1 D p (k)) (by omega)⟩
 ·rename_i x
  obtain⟨s,r⟩:=x
  obtain rfl:r=p.ts (k+1):=(pName_some hn1).choose_spec.2.2.2.2.2
  rw[hn1]at HR
  simp only[Option.bind_some]at HR
  refine(name_ok _ D p (k) s _ hn1).mono ?_
  rintro e w1 ⟨rfl,hc1,hP1⟩
  clear hn1
  go_wp2_with fail
  refine(concept_c N _ D p (k+1) (by omega)).mono ?_
  cases hn2:pConcept N (p.ts (k+1))
  ·rw[hn2]at HR
   intro e w2 h2
   obtain⟨⟨_,_,rfl⟩,D2,k2,hg2,hk2,hP2⟩:=h2
   go_wp2
   exact⟨rfl,ax_no HR ⟨_,_,rfl⟩ (ii:Gr (some p.g) w D w2 D2) hP2 (by omega)⟩
  ·rename_i y
   obtain⟨c,r⟩:=y
   rw[hn2]at HR
   simp only[Option.bind_some]at HR
   intro e w2 h2
   obtain⟨pv2,D2,k2,rfl,hpv2,hg2,hP2,rfl,hk2⟩:=h2
   obtain⟨a2,m2,rfl,_,_⟩:=PV.form hpv2
   have hle2:=hg2.le
   clear hn2
   have hB:Box w2 D2 w.heap.size 34 axz:=ii
   have:=hB.off
   have:=hP2.box.off
   go_wp2_with (refine wpList_storeTo rfl 34 _ _ rfl rfl w.heap.size (axc ⟨false,.typ s c⟩ (.slice none 0 0) (.slice a2 c.parts.length m2) (.slice none 0 0)) rfl rfl 34 axz hB.heap hz34 rfl (axc_one _ _ _ _ _ _ _ _ _ _) ?_)
   have hB':Box (w2.setRow w.heap.size (axc ⟨false,.typ s c⟩ (.slice none 0 0) (.slice a2 c.parts.length m2) (.slice none 0 0))) D2 w.heap.size 34 (axc ⟨false,.typ s c⟩ (.slice none 0 0) (.slice a2 c.parts.length m2) (.slice none 0 0)):=ii
   refine bodyPost_ret (v:=.agg (axc ⟨false,.typ s c⟩ (.slice none 0 0) (.slice a2 c.parts.length m2) (.slice none 0 0))) ?_ rfl ?_
   ·exact hB'.result rfl rfl underlying34 rfl hz34
   ·exact ax_ret (D':=D2) HR ⟨.nil,hpv2,SV.nil _⟩ ii ii (by omega)
theorem link_c(w:World)(D:Gh)(p:PC)(k:Nat)[Keeps D w][hP:PS w D p k][hT:TS D p]:
  Calls prog 43 #[p.ptr] w (KSpec w D p k ((pName (p.ts k)).bind fun(a,r)=>(pName r).bind fun(s,r)=>(pName r).bind fun(b,r)=>some (K.link a s b,r))):=by
 obtain⟨R,hR⟩:∃R,R=(pName (p.ts k)).bind fun(a,r)=>(pName r).bind fun(s,r)=>(pName r).bind fun(b,r)=>some (K.link a s b,r):=⟨_,rfl⟩
 rw[←hR]
 have hb:=Box.lt (h:=hP.box)
 have hn:NeX w.heap.size (some p.g):=ne_size hb 0
 have:=hP.box.off
 have HR:=hid hR
 clear hR
 go_enter func43,ntmps43
 go_wp2_with fail
 cases hn1:pName (p.ts (k))
 ·rw[hn1]at HR
  refine(name_bad _ D p (k) hn1).mono ?_
  rintro e w1 ⟨⟨_,_,rfl⟩,hc1⟩
  go_wp2
  exact⟨rfl,ax_no HR ⟨_,_,rfl⟩ (ii:Gr (some p.g) w D w1 D) (ii:PS w1 D p (k)) (by omega)⟩
 ·rename_i x
  obtain⟨a,r⟩:=x
  obtain rfl:r=p.ts (k+1):=(pName_some hn1).choose_spec.2.2.2.2.2
  rw[hn1]at HR
  simp only[Option.bind_some]at HR
  refine(name_ok _ D p (k) a _ hn1).mono ?_
  rintro e w1 ⟨rfl,hc1,hP1⟩
  clear hn1
  go_wp2_with fail
  cases hn2:pName (p.ts (k+1))
  ·rw[hn2]at HR
   refine(name_bad _ D p (k+1) hn2).mono ?_
   rintro e w2 ⟨⟨_,_,rfl⟩,hc2⟩
   go_wp2
   exact⟨rfl,ax_no HR ⟨_,_,rfl⟩ (ii:Gr (some p.g) w D w2 D) (ii:PS w2 D p (k+1)) (by omega)⟩
  ·rename_i x
   obtain⟨s,r⟩:=x
   obtain rfl:r=p.ts (k+1+1):=(pName_some hn2).choose_spec.2.2.2.2.2
   rw[hn2]at HR
   simp only[Option.bind_some]at HR
   refine(name_ok _ D p (k+1) s _ hn2).mono ?_
   rintro e w2 ⟨rfl,hc2,hP2⟩
   clear hn2
   go_wp2_with fail
   cases hn3:pName (p.ts (k+1+1))
   ·rw[hn3]at HR
    refine(name_bad _ D p (k+1+1) hn3).mono ?_
    rintro e w3 ⟨⟨_,_,rfl⟩,hc3⟩
    go_wp2
    exact⟨rfl,ax_no HR ⟨_,_,rfl⟩ (ii:Gr (some p.g) w D w3 D) (ii:PS w3 D p (k+1+1)) (by omega)⟩
   ·rename_i x
    obtain⟨b,r⟩:=x
    obtain rfl:r=p.ts (k+1+1+1):=(pName_some hn3).choose_spec.2.2.2.2.2
    rw[hn3]at HR
    simp only[Option.bind_some]at HR
    refine(name_ok _ D p (k+1+1) b _ hn3).mono ?_
    rintro e w3 ⟨rfl,hc3,hP3⟩
    clear hn3
    have hB:Box w3 D w.heap.size 34 axz:=ii
    have:=hB.off
    have:=hP3.box.off
    go_wp2_with (refine wpList_storeTo rfl 34 _ _ rfl rfl w.heap.size (axc ⟨false,.link a s b⟩ (.slice none 0 0) (.slice none 0 0) (.slice none 0 0)) rfl rfl 34 axz hB.heap hz34 rfl (axc_one _ _ _ _ _ _ _ _ _ _) ?_)
    have hB':Box (w3.setRow w.heap.size (axc ⟨false,.link a s b⟩ (.slice none 0 0) (.slice none 0 0) (.slice none 0 0))) D w.heap.size 34 (axc ⟨false,.link a s b⟩ (.slice none 0 0) (.slice none 0 0) (.slice none 0 0)):=ii
    refine bodyPost_ret (v:=.agg (axc ⟨false,.link a s b⟩ (.slice none 0 0) (.slice none 0 0) (.slice none 0 0))) ?_ rfl ?_
    ·exact hB'.result rfl rfl underlying34 rfl hz34
    ·exact ax_ret (D':=D) HR ⟨.nil,.nil,SV.nil _⟩ ii ii (by omega)
theorem role_c(w:World)(D:Gh)(p:PC)(k:Nat)[Keeps D w][hP:PS w D p k][hT:TS D p]:
  Calls prog 39 #[p.ptr] w (KSpec w D p k ((pName (p.ts k)).bind fun(s,r)=>(wantT w_sub r).bind fun r=>(pName r).bind fun(t,r)=>some (K.rsub s t,r))):=by
 obtain⟨R,hR⟩:∃R,R=(pName (p.ts k)).bind fun(s,r)=>(wantT w_sub r).bind fun r=>(pName r).bind fun(t,r)=>some (K.rsub s t,r):=⟨_,rfl⟩
 rw[←hR]
 have hb:=Box.lt (h:=hP.box)
 have hn:NeX w.heap.size (some p.g):=ne_size hb 0
 have:=hP.box.off
 have HR:=hid hR
 clear hR
 go_enter func39,ntmps39
 go_wp2_with fail
 cases hn1:pName (p.ts (k))
 ·rw[hn1]at HR
  refine(name_bad _ D p (k) hn1).mono ?_
  rintro e w1 ⟨⟨_,_,rfl⟩,hc1⟩
  go_wp2
  exact⟨rfl,ax_no HR ⟨_,_,rfl⟩ (ii:Gr (some p.g) w D w1 D) (ii:PS w1 D p (k)) (by omega)⟩
 rename_i x
 obtain⟨s,r⟩:=x
 obtain rfl:r=p.ts (k+1):=(pName_some hn1).choose_spec.2.2.2.2.2
 rw[hn1]at HR
 simp only[Option.bind_some]at HR
 refine(name_ok _ D p (k) s _ hn1).mono ?_
 rintro e w1 ⟨rfl,hc1,hP1⟩
 clear hn1
 go_wp2_with fail
 by_cases hn2:hd (p.ts (k+1))=w_sub
 rotate_left
 ·simp only[wantT,if_neg hn2]at HR
  refine(want_bad _ D p (k+1) w_sub hn2).mono ?_
  rintro e w2 ⟨⟨_,_,rfl⟩,hc2⟩
  go_wp2
  exact⟨rfl,ax_no HR ⟨_,_,rfl⟩ (ii:Gr (some p.g) w D w2 D) (ii:PS w2 D p (k+1)) (by omega)⟩
 simp only[wantT,if_pos hn2,p.tail_ts,Option.bind_some]at HR
 refine(want_ok _ D p (k+1) w_sub hn2 (by simp)).mono ?_
 rintro e w2 ⟨rfl,hc2,hP2⟩
 clear hn2
 have hb2:=Box.lt (h:=hP2.box)
 have hn2:NeX w2.heap.size (some p.g):=ne_size hb2 0
 have hBz:Box w2 D w.heap.size 34 axz:=ii
 have hz2:=Box.lt (h:=hBz)
 have:=hBz.off
 go_wp2_with fail
 cases hn3:pName (p.ts (k+1+1))
 ·rw[hn3]at HR
  refine(name_bad _ D p (k+1+1) hn3).mono ?_
  rintro e w3 ⟨⟨_,_,rfl⟩,hc3⟩
  go_wp2
  exact⟨rfl,ax_no HR ⟨_,_,rfl⟩ (ii:Gr (some p.g) w D w3 D) (ii:PS w3 D p (k+1+1)) (by omega)⟩
 rename_i x
 obtain⟨t,r⟩:=x
 obtain rfl:r=p.ts (k+1+1+1):=(pName_some hn3).choose_spec.2.2.2.2.2
 rw[hn3]at HR
 simp only[Option.bind_some]at HR
 refine(name_ok _ D p (k+1+1) t _ hn3).mono ?_
 rintro e w3 ⟨rfl,hc3,hP3⟩
 clear hn3
 obtain⟨D4,hPub,hSV⟩:=SV.lit1 (w:=w3) (D:=D) (g:=w2.heap.size) (s:=s) ii
 have:=hPub.keeps
 have:=hPub.gr (some p.g) w D ii (fun q e=>by cases e;omega)
 have hP4:=Pub.ps hPub hP3 (fun e=>by have:=Option.some.inj e;omega)
 have hB:=hPub.box (ii:Box w3 D w.heap.size 34 axz) (fun e=>by have:=Option.some.inj e;omega)
 have:=hB.off
 have:=hP4.box.off
 go_wp2_with (refine wpList_storeTo rfl 34 _ _ rfl rfl w.heap.size (axc ⟨false,.rsub s t⟩ (.slice none 0 0) (.slice none 0 0) (.slice (some ⟨w2.heap.size,0,none⟩) 1 1)) rfl rfl 34 axz hB.heap hz34 rfl (axc_one _ _ _ _ _ _ _ _ _ _) ?_)
 have hB':Box (w3.setRow w.heap.size (axc ⟨false,.rsub s t⟩ (.slice none 0 0) (.slice none 0 0) (.slice (some ⟨w2.heap.size,0,none⟩) 1 1))) D4 w.heap.size 34 (axc ⟨false,.rsub s t⟩ (.slice none 0 0) (.slice none 0 0) (.slice (some ⟨w2.heap.size,0,none⟩) 1 1)):=ii
 refine bodyPost_ret (v:=.agg (axc ⟨false,.rsub s t⟩ (.slice none 0 0) (.slice none 0 0) (.slice (some ⟨w2.heap.size,0,none⟩) 1 1))) ?_ rfl ?_
 ·exact hB'.result rfl rfl underlying34 rfl hz34
 ·exact ax_ret (D':=D4) HR ⟨.nil,.nil,hSV⟩ ii ii (by omega)
end Go.Proofs.YticgonfhjcaohaaGreatDoor
namespace Go.Proofs.YticgonfhjcaohaaGreatDoor
open Go.RowKit Go.VT _root_.Go.Proofs.Tryz
section
variable{w:World}{D:Gh}{g:Nat}{t:TypeId}
theorem box16{a0 a1 a2 a3 a4 a5 a6 a7 a8 a9 b0 b1 b2 b3 b4 b5:Value}(h:Box w D g t #[a0,a1,a2,a3,a4,a5,a6,a7,a8,a9,b0,b1,b2,b3,b4,b5]):
  w.cell? ⟨g,0,none⟩=some a0∧w.cell? ⟨g,1,none⟩=some a1∧w.cell? ⟨g,2,none⟩=some a2∧w.cell? ⟨g,3,none⟩=some a3∧w.cell? ⟨g,4,none⟩=some a4∧w.cell? ⟨g,5,none⟩=some a5∧w.cell? ⟨g,6,none⟩=some a6∧w.cell? ⟨g,7,none⟩=some a7∧
  w.cell? ⟨g,8,none⟩=some a8∧w.cell? ⟨g,9,none⟩=some a9∧w.cell? ⟨g,10,none⟩=some b0∧w.cell? ⟨g,11,none⟩=some b1∧w.cell? ⟨g,12,none⟩=some b2∧w.cell? ⟨g,13,none⟩=some b3∧w.cell? ⟨g,14,none⟩=some b4∧w.cell? ⟨g,15,none⟩=some b5:=
 ⟨h.cell 0,h.cell 1,h.cell 2,h.cell 3,h.cell 4,h.cell 5,h.cell 6,h.cell 7,h.cell 8,h.cell 9,h.cell 10,h.cell 11,h.cell 12,h.cell 13,h.cell 14,h.cell 15⟩
theorem box7{a0 a1 a2 a3 a4 a5 a6:Value}(h:Box w D g t #[a0,a1,a2,a3,a4,a5,a6]):
  w.cell? ⟨g,0,none⟩=some a0∧w.cell? ⟨g,1,none⟩=some a1∧w.cell? ⟨g,2,none⟩=some a2∧w.cell? ⟨g,3,none⟩=some a3∧w.cell? ⟨g,4,none⟩=some a4∧w.cell? ⟨g,5,none⟩=some a5∧w.cell? ⟨g,6,none⟩=some a6:=
 ⟨h.cell 0,h.cell 1,h.cell 2,h.cell 3,h.cell 4,h.cell 5,h.cell 6⟩
end
theorem step2{w w1:World}{D:Gh}{g h:Nat}{t t':TypeId}{cs us:Array Value}{f:FuncId}{args:Array Value}{r:Ending}{Q:Ending→World→Prop}(hf:Calls prog f args w1 fun e w'=>e=r∧Cll none w1 w')
  (hC:Box w1 D g t cs) (hE:Box w1 D h t' us) (hc:Cll none w w1) [Keeps D w1] (hQ:∀w2,Box w2 D g t cs→Box w2 D h t' us→Cll none w w2→Keeps D w2→Q r w2):Calls prog f args w1 Q:=
 hf.mono fun e w2 ⟨he,hc2⟩=>by subst he;exact hQ w2 (Box.call w1 w2 D _ _ _ none) (Box.call w1 w2 D _ _ _ none) ⟨hc.out.trans hc2.out⟩ (Keeps.call none D w1 w2)
def K.u2:K→Bool|.sub _ _=>false|.equiv _ _=>false|.disj _ _=>false|.typ _ _=>false|_=>true
def K.u3:K→Bool|.typ _ _=>true|.link _ _ _=>true|_=>false
def K.u4:K→Bool|.link _ _ _=>true|_=>false
def K.lo:K→Int|.rsub _ _=>1|.chain _ _=>2|_=>0
def K.hi:K→Int|.rsub _ _=>1|.chain _ _=>4|_=>0
abbrev useA(k:K):Array Value:=#[.bool k.left.isSome,.bool k.right.isSome,.bool (K.u2 k),.bool (K.u3 k),.bool (K.u4 k),.int .i64 (K.lo k),.int .i64 (K.hi k)]
theorem useT(k:K)(j:Nat)(u:Value)(h:(useA k)[j]? =some u):usesT[k.kind.toNat*7+j]? =some u:=by
 cases k<;>match j,h with
  |0,h|1,h|2,h|3,h|4,h|5,h|6,h=>exact h
theorem useF(w:World)(D:Gh)(k:K)(n:Nat)(hn:k.kind.toNat*7=n)[hk:Keeps D w][hT:TB D]:w.cell? ⟨0,n,none⟩=some (.bool k.left.isSome)∧w.cell? ⟨0,n+1,none⟩=some (.bool k.right.isSome)∧w.cell? ⟨0,n+2,none⟩=some (.bool (K.u2 k))∧w.cell? ⟨0,n+3,none⟩=some (.bool (K.u3 k))∧
  w.cell? ⟨0,n+4,none⟩=some (.bool (K.u4 k))∧w.cell? ⟨0,n+5,none⟩=some (.int .i64 (K.lo k))∧w.cell? ⟨0,n+6,none⟩=some (.int .i64 (K.hi k))∧0<w.heap.size:=by
 subst hn
 have h:=fun j u e=>hk.out _ _ _ (hT.uses _ _ (useT k j u e))
 exact⟨h 0 _ rfl,h 1 _ rfl,h 2 _ rfl,h 3 _ rfl,h 4 _ rfl,h 5 _ rfl,h 6 _ rfl,Keeps.lt (hT.uses 0 _ rfl)⟩
theorem str_nil:str []=⟨#[]⟩:=rfl
theorem left_nil{D:Gh}{o:Option C}{p:Value}(h:PV D (oP o) p):o=none→p=.slice none 0 0:=fun e=>by subst e;exact PV_nil h
theorem shaped_c(w:World)(D:Gh)(x:Ax)(lp rp rl:Value)(hv:AV D x lp rp rl)(hw:x.k.wf)[hk:Keeps D w][hT:TB D]:
  Calls prog 50 #[.agg (axc x lp rp rl)] w fun e w'=>e=.returned (.bool true)∧Cll none w w':=by
 obtain⟨hl,hr,hs⟩:=hv
 obtain⟨a3,m3,rfl,_⟩:=SlN.form hs
 have hf:=useF w D x.k _ rfl
 have f4:(K.lo x.k:Int)≤x.k.roles.length:=by revert hw;cases x.k<;>simp[K.lo,K.roles,K.wf]<;>omega
 have f5:(x.k.roles.length:Int)≤K.hi x.k:=by revert hw;cases x.k<;>simp[K.hi,K.roles,K.wf]<;>omega
 have hL:=left_nil hl
 have hR:=left_nil hr
 clear hl hr hs hw
 obtain⟨op,k⟩:=x
 cases k
 all_goals
  (try obtain rfl:=hL rfl)
  (try obtain rfl:=hR rfl)
  clear hL hR
  simp only[axc,K.kind,K.left,K.right,K.roles,K.role,K.a,K.b,K.u2,K.u3,K.u4,K.lo,K.hi,oK,oN,oLo,oHi,str_nil,List.length_nil,List.length_cons,Option.isSome_some,Option.isSome_none,Int.reduceToNat,Nat.reduceMul,Nat.reduceAdd]at*
  go_enter func50,ntmps50
  go_wp2_with fail
 all_goals first
  |(go_ret;exact⟨rfl,Bel.c⟩)
  |refine step2 (w:=w) (D:=D) (g:=w.heap.size) (h:=w.heap.size+1) (isEmpty_z _) ii (Box.newAt (by simp)) Bel.c fun w1 hC hE hc hk1=>?_
 all_goals
  have c:=box16 hC
  have u:=box7 hE
  go_wp2_with fail
 all_goals first
  |(go_ret;exact⟨rfl,hc⟩)
  |refine step2 (isEmpty_z _) hC hE hc fun w2 hC hE hc hk1=>?_
 all_goals
  have c:=box16 hC
  have u:=box7 hE
  go_wp2_with fail
  go_ret
  exact⟨rfl,hc⟩
theorem SV_len{D:Gh}{l:List Bs}{a:Option Addr}{n m:Nat}(h:SV D l (.slice a n m)):n=l.length∧n≤m∧m≤9223372036854775807:=by
 obtain⟨_,a',c,hv,h1,h2,_⟩:=h
 cases hv
 exact⟨rfl,h1,h2⟩
theorem SV_elem{D:Gh}{w:World}[hk:Keeps D w]{l:List Bs}{a:Option Addr}{n m i:Nat}(h:SV D l (.slice a n m))(hi:i<l.length):
  ∃s b o,l[i]? =some s∧a=some ⟨b,o,none⟩∧w.cell? ⟨b,o+i,none⟩=some (.string (str s))∧b<w.heap.size:=by
 obtain⟨rfl,_,_⟩:=SV_len h
 obtain⟨_,a',c,hv,h1,h2,_,h4⟩:=h
 cases hv
 obtain⟨b,o,rfl,hc⟩:=h4 (by omega)
 have hj:=List.getElem?_eq_getElem hi
 have:=hc i (.string (str l[i])) (by rw[List.getElem?_map,hj];rfl)
 exact⟨_,b,o,hj,rfl,hk.out _ _ _ this,Keeps.lt this⟩
theorem isPlain_t(s:Bs)(w:World)(h:plainB s=true):Calls prog 122 #[.string (str s)] w fun e w'=>e=.returned (.bool true)∧Cll none w w':=h▸isPlain_c s w (wf_len h)
theorem named_c(w:World)(D:Gh)(x:Ax)(lp rp rl:Value)(hv:AV D x lp rp rl)(hw:x.k.wf)[hk:Keeps D w]:
  Calls prog 51 #[.agg (axc x lp rp rl),.agg (useA x.k)] w fun e w'=>e=.returned (.bool true)∧Cll none w w':=by
 obtain⟨hl,hr,hs⟩:=hv
 obtain⟨a3,m3,rfl,_⟩:=SlN.form hs
 have p1:K.u2 x.k=true→plainB x.k.role=true:=by revert hw;cases x.k<;>simp+contextual [K.u2,K.role,K.wf]
 have p2:K.u3 x.k=true→plainB x.k.a=true:=by revert hw;cases x.k<;>simp+contextual [K.u3,K.a,K.wf]
 have p3:K.u4 x.k=true→plainB x.k.b=true:=by revert hw;cases x.k<;>simp+contextual [K.u4,K.b,K.wf]
 have hpl:∀r∈x.k.roles,plainB r=true:=by revert hw;cases x.k<;>simp+contextual [K.roles,K.wf]
 obtain⟨_,hm1,hm2⟩:=SV_len hs
 obtain⟨n3,hlen⟩:∃n,n=x.k.roles.length:=⟨_,rfl⟩
 rw[←hlen]at hs hm1⊢
 have hL:=left_nil hl
 have hR:=left_nil hr
 obtain⟨op,k⟩:=x
 simp only at*
 generalize k.roles=rs at*
 have HL:=hid hlen
 have HP:=hid hpl
 have HS:=hid hs
 clear hl hr hs hw hlen hpl
 cases k
 all_goals
  (try obtain rfl:=hL rfl)
  (try obtain rfl:=hR rfl)
  clear hL hR
  simp only[axc,useA,K.kind,K.left,K.right,K.role,K.a,K.b,K.u2,K.u3,K.u4,K.lo,K.hi,oK,oN,oLo,oHi,str_nil,Option.isSome_some,Option.isSome_none,forall_const,Bool.false_eq_true,false_implies]at*
  go_enter func51,ntmps51
  go_wp2_with fail
 all_goals try
  refine step2 (w:=w) (D:=D) (g:=w.heap.size) (h:=w.heap.size+1) (isPlain_t _ _ p1) ii (Box.newAt (by simp)) Bel.c fun w1 hC hE hc hk1=>?_
  have c:=box16 hC
  have u:=box7 hE
  go_wp2_with fail
 all_goals first
  |refine step2 (checkName_ok _ _ (wf_len p2) p2) hC hE hc fun w1 hC hE hc hk1=>?_
   have c:=box16 hC
   have u:=box7 hE
   go_wp2_with fail
  |refine step2 (w:=w) (D:=D) (g:=w.heap.size) (h:=w.heap.size+1) (checkName_ok _ _ (wf_len p2) p2) ii (Box.newAt (by simp)) Bel.c fun w1 hC hE hc hk1=>?_
   have c:=box16 hC
   have u:=box7 hE
   go_wp2_with fail
  |skip
 all_goals try
  refine step2 (checkName_ok _ _ (wf_len p3) p3) hC hE hc fun w1 hC hE hc hk1=>?_
  have c:=box16 hC
  have u:=box7 hE
  go_wp2_with fail
 all_goals
  try have hG0:Gr none w D _ D:=⟨hc.out,hk1,fun _ _ _ h=>h,fun _ _ _=>rfl⟩
  go_loopg [38] (n3:Nat) (fun gk v wr=>∃i:Nat,v=.int .i64 i∧gk+i=n3∧Gr none w D wr D)
  case atStart=>exact⟨0,rfl,by omega,ii⟩
  case round=>
   obtain⟨i,rfl,hgk,hG⟩:=hrel
   have:=hG.keeps
   by_cases hi:i<n3
   ·obtain⟨s',b,o,hj,ha,r0,r1⟩:=SV_elem (w:=wr) HS.out (i:=i) (by rw[←HL.out];exact hi)
    subst ha
    have hps:=HP.out s' (List.mem_of_getElem? hj)
    clear hj
    go_wp2_with fail
    refine(isPlain_t s' wr hps).mono ?_
    rintro e w5 ⟨rfl,hc5⟩
    go_wp2_with fail
    go_roundg (gk-1)
    case measure=>omega
    case rel=>exact⟨i+1,by simp,by omega,ii⟩
   ·go_wp2_with fail
    have:=hG.toBel
    go_ret
    exact⟨rfl,Bel.c⟩
end Go.Proofs.YticgonfhjcaohaaGreatDoor
namespace Go.Proofs.YticgonfhjcaohaaGreatDoor
open Go.RowKit Go.VT _root_.Go.Proofs.Tryz
theorem preC_shal:∀(n:Nat)(c:C),c.size≤n→(preC c).all shal=flat8 c:=by
 intro n
 induction n with
 |zero=>intro c h;have:=C.size_pos c;omega
 |succ n ih=>
  intro c hn
  have hL:∀l:List C,sizeL l≤n→(preL l).all shal=flat8L l:=by
   intro l
   induction l with
   |nil=>intro _;simp[preL,flat8L]
   |cons a r ihr=>
    intro hs
    simp only[sizeL]at hs
    rw[preL,List.all_append,ih a (by omega),ihr (by omega),flat8L]
  cases c with
  |and l=>
   simp only[C.size]at hn
   rw[preC,List.all_cons,hL l (by omega),flat8];rfl
  |some r c=>
   simp only[C.size]at hn
   rw[preC,List.all_cons,ih c (by omega),flat8];simp[shal]
  |_=>simp[preC,flat8,shal]
theorem hz63:(prog.info? 63).map (·.size)=some (7:Nat):=by kernel_rfl
theorem checkE_eq(c:C):checkE c=if okP c then 0 else 21:=by
 have:okC c=okP c:=by
  simp only[okC,okP,fitsB,preC_shal c.size c (Nat.le_refl _)]
  simp
 rw[checkE,this]
def chkK:K→Int
 |.sub l r=>if okP l then(if okP r then(if bareB r then 22 else 0)else 21)else 21
 |.equiv l r=>if okP l then(if okP r then(if bareB l then 22 else if bareB r then 22 else 0)else 21)else 21
 |.disj l r=>if okP l then(if okP r then 0 else 21)else 21
 |.dom _ c=>if okP c then(if bareB c then 22 else 0)else 21
 |.typ _ c=>if okP c then(if bareB c then 22 else 0)else 21
 |_=>0
theorem chkK_zero(k:K):chkK k=0↔okK k=true:=by
 cases k with
 |sub l r=>simp only[chkK,okK];cases okP l<;>cases okP r<;>cases bareB r<;>simp
 |equiv l r=>simp only[chkK,okK];cases okP l<;>cases okP r<;>cases bareB l<;>cases bareB r<;>simp
 |disj l r=>simp only[chkK,okK];cases okP l<;>cases okP r<;>simp
 |dom s r=>simp only[chkK,okK];cases okP r<;>cases bareB r<;>simp
 |typ s r=>simp only[chkK,okK];cases okP r<;>cases bareB r<;>simp
 |_=>simp[chkK,okK]
theorem stepP{w w1:World}{D:Gh}{g h:Nat}{t t':TypeId}{cs us:Array Value}{f:FuncId}{args:Array Value}{P:Ending→Prop}{Q:Ending→World→Prop}(hf:Calls prog f args w1 fun e w'=>P e∧Cll none w1 w')
  (hC:Box w1 D g t cs) (hE:Box w1 D h t' us) (hc:Cll none w w1) [Keeps D w1] (hQ:∀w2,Box w2 D g t cs→Box w2 D h t' us→Cll none w w2→Keeps D w2→∀e,P e→Q e w2):Calls prog f args w1 Q:=
 hf.mono fun e w2 ⟨he,hc2⟩=>hQ w2 (Box.call w1 w2 D _ _ _ none) (Box.call w1 w2 D _ _ _ none) ⟨hc.out.trans hc2.out⟩ (Keeps.call none D w1 w2) e he
theorem boxB{w:World}{D:Gh}{g g':Nat}{t t':TypeId}{cs us:Array Value}{o:Obj}(h:Box w D g t cs)(_:Box (w.alloc o) D g' t' us):Box (w.alloc o) D g t cs:=ii
theorem checkConcept_p(w:World)(D:Gh)(c:C)(a:Option Addr)(n m:Nat)(hw:c.wf∧PV D c.parts (.slice a n m))[hk:Keeps D w][hT:TB D]:
  Calls prog 52 #[cv c (.slice a n m)] w fun e w'=>(okP c=true∧e=.returned (.int .i64 0)∨okP c=false∧e=.returned (.int .i64 21))∧Cll none w w':=
 (checkConcept_c w D c a n m hw.1 hw.2).mono fun e w' ⟨he,hc⟩=>⟨by rw[he,checkE_eq];cases okP c<;>simp,hc⟩
theorem isBare_p(w:World)(D:Gh)(c:C)(a:Option Addr)(n m:Nat)(hw:c.wf∧PV D c.parts (.slice a n m))[hk:Keeps D w]:
  Calls prog 53 #[cv c (.slice a n m)] w fun e w'=>(bareB c=true∧e=.returned (.bool true)∨bareB c=false∧e=.returned (.bool false))∧Cll none w w':=
 (isBare_c w D c a n m hw.2).mono fun e w' ⟨he,hc⟩=>⟨by rw[he];cases bareB c<;>simp,hc⟩
theorem checkAxiom_c(w:World)(D:Gh)(x:Ax)(lp rp rl:Value)(hv:AV D x lp rp rl)(hw:x.k.wf)[hk:Keeps D w][hT:TB D]:
  Calls prog 19 #[.agg (axc x lp rp rl)] w fun e w'=>e=.returned (.int .i64 (chkK x.k))∧Cll none w w':=by
 obtain⟨a1,m1,rfl,_⟩:=PV.form hv.l
 obtain⟨a2,m2,rfl,_⟩:=PV.form hv.r
 obtain⟨a3,m3,rfl,_⟩:=SlN.form hv.s
 obtain⟨R,hR⟩:∃R,R=chkK x.k:=⟨_,rfl⟩
 rw[←hR]
 have HR:=hid hR
 have HSH:=hid (fun(w:World)(_:Keeps D w)=>shaped_c w D x _ _ _ hv hw)
 have HNM:=hid (fun(w:World)(_:Keeps D w)=>named_c w D x _ _ _ hv hw)
 have HK:=hid (fun(w:World)(_:Keeps D w)=>useF w D x.k _ rfl)
 have HE:=hid (fun(w:World)(_:Keeps D w)=>Box.new w D 63 (useA x.k))
 have FL:Hid (match x.k.left with|some l=>l.wf∧PV D l.parts (.slice a1 (oP x.k.left).length m1)|none=>True):=hid (by
  have h:=hv.l;revert hw h;cases x.k<;>simp+contextual [K.left,K.wf,oP])
 have FR:Hid (match x.k.right with|some l=>l.wf∧PV D l.parts (.slice a2 (oP x.k.right).length m2)|none=>True):=hid (by
  have h:=hv.r;revert hw h;cases x.k<;>simp+contextual [K.right,K.wf,oP])
 have hC0:=Box.new w D 34 (axc x (.slice a1 (oP x.k.left).length m1) (.slice a2 (oP x.k.right).length m2) (.slice a3 x.k.roles.length m3))
 clear hR hv hw
 obtain⟨op,k⟩:=x
 cases k
 all_goals
  simp only[axc,useA,K.kind,K.left,K.right,K.roles,K.role,K.a,K.b,K.u2,K.u3,K.u4,K.lo,K.hi,oK,oN,oLo,oHi,oP,str_nil,List.length_nil,List.length_cons,Option.isSome_some,Option.isSome_none,Int.reduceToNat,Nat.reduceMul,Nat.reduceAdd]at*
  go_enter func19,ntmps19
  go_wp2_with (first|((with_reducible show wpList _ _ _ ((⟨_,.load 34 _,_,_,_,_⟩:Oper)::_) _ _);refine wpList_load_row rfl 34 _ rfl (w.heap.size) rfl (34) _ (0,0) _ (hC0.heap) underlying34 rfl (hz34) ?_))
  refine step2 (w:=w) (HSH.out _ ii) hC0 hC0 Bel.c fun w1 hC _ hc hk1=>?_
  have c:=box16 hC
  have q:=HK.out w1 hk1
  have hE2:=HE.out w1 hk1
  have hC2:=boxB hC hE2
  go_wp2_with (first|((with_reducible show wpList _ _ _ ((⟨_,.load 34 _,_,_,_,_⟩:Oper)::_) _ _);refine wpList_load_row rfl 34 _ rfl (w.heap.size) rfl (34) _ (0,0) _ (hC2.heap) underlying34 rfl (hz34) ?_)|((with_reducible show wpList _ _ _ ((⟨_,.load 63 _,_,_,_,_⟩:Oper)::_) _ _);refine wpList_load_row rfl 63 _ rfl (w1.heap.size) rfl (63) _ (0,0) _ (hE2.heap) underlying63 rfl (hz63) ?_))
  refine step2 (w:=w) (HNM.out _ ii) hC2 hE2 Bel.c fun w2 hC hE hc hk1=>?_
  clear c q hE2 hC2 HSH HNM HK HE
  have c:=box16 hC
  have u:=box7 hE
  go_wp2_with fail
 all_goals try
  refine stepP (checkConcept_p _ D _ _ _ _ FL.out) hC hE hc fun w3 hC hE hc hk1=>?_
  have c:=box16 hC
  have u:=box7 hE
  rintro e(⟨hokl,rfl⟩|⟨hokl,rfl⟩)
  rotate_left
  ·go_wp2
   go_ret
   exact⟨by rw[HR.out];simp[chkK,hokl],hc⟩
  go_wp2_with fail
 all_goals try
  refine stepP (checkConcept_p _ D _ _ _ _ FR.out) hC hE hc fun w3 hC hE hc hk1=>?_
  have c:=box16 hC
  have u:=box7 hE
  rintro e(⟨hokr,rfl⟩|⟨hokr,rfl⟩)
  rotate_left
  ·go_wp2
   go_ret
   exact⟨by rw[HR.out];first|simp[chkK,hokl,hokr]|simp[chkK,hokr],hc⟩
  go_wp2_with fail
 all_goals try
  refine stepP (isBare_p _ D _ _ _ _ FL.out) hC hE hc fun w3 hC hE hc hk1=>?_
  have c:=box16 hC
  have u:=box7 hE
  rintro e(⟨hbl,rfl⟩|⟨hbl,rfl⟩)
  all_goals go_wp2_with fail
 all_goals try
  refine stepP (isBare_p _ D _ _ _ _ FR.out) hC hE hc fun w3 hC hE hc hk1=>?_
  rintro e(⟨hbr,rfl⟩|⟨hbr,rfl⟩)
  all_goals go_wp2_with fail
 all_goals
  go_ret
  exact⟨by rw[HR.out];first|simp[chkK,hokl,hokr,hbl,hbr]|simp[chkK,hokl,hokr,hbl]|simp[chkK,hokl,hokr,hbr]|simp[chkK,hokl,hokr]|simp[chkK,hokr,hbr]|simp[chkK],hc⟩
end Go.Proofs.YticgonfhjcaohaaGreatDoor
