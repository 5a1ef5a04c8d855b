/- TopParsed, part 10. -/
import Derived.Test.YticgonfhjcaohaaGreatDoorP05
import Derived.Test.YticgonfhjcaohaaGreatDoorP07
set_option maxRecDepth 100000
set_option maxHeartbeats 32000000
namespace Go.Proofs.YticgonfhjcaohaaGreatDoor
open Go.RowKit Go.VT _root_.Go.Proofs.Tryz
attribute [local go_sem] Oper.semAt_some
mutual
def preC:C→List C
 |.and l=>.and l::preL l
 |.some r c=>.some r c::preC c
 |c=>[c]
def preL:List C→List C
 |[]=>[]
 |c::r=>preC c++preL r
end
theorem preC_eq(c:C):preC c=c::preL c.parts:=by cases c<;>simp[preC,preL,C.parts]
theorem preL_take(l:List C)(i:Nat)(c:C)(h:l[i]? =some c):preL (l.take (i+1))=preL (l.take i)++preC c:=by
 induction l generalizing i with
 |nil=>simp at h
 |cons a r ih=>
  cases i with
  |zero=>simp at h;subst h;simp[preL]
  |succ i=>simp only[List.take_succ_cons,preL];rw[ih i (by simpa using h),List.append_assoc]
theorem preL_at(l:List C)(i:Nat)(c:C)(h:l[i]? =some c):preL (l.take i)++preC c<+:preL l:=by
 induction l generalizing i with
 |nil=>simp at h
 |cons a r ih=>
  cases i with
  |zero=>simp at h;subst h;simp[preL]
  |succ i=>simp only[List.take_succ_cons,preL,List.append_assoc];exact(List.prefix_append_right_inj _).2 (ih i (by simpa using h))
def RdC(D:Gh)(c:C)(v:Value):Prop:=∃a n m,v=cv c (.slice a n m)∧PV D c.parts (.slice a n m)
def VPost(J Jx:List C→Gh→World→Prop)(D:Gh)(xs till:List C)(e:Ending)(W':World):Prop:=(e=.returned (.bool true)∧∃D',Le D D'∧J till D' W')∨(e=.returned (.bool false)∧∃p D',Le D D'∧p<+:xs∧Jx p D' W')
theorem le_refl(D:Gh):Le D D:=⟨fun _ _ _ h=>h⟩
theorem le_trans{A B C':Gh}(h:Le A B)(k:Le B C'):Le A C':=⟨fun b o v e=>k.out b o v (h.out b o v e)⟩
theorem keeps_le{D D':Gh}(h:Le D D'){w:World}[hk:Keeps D' w]:Keeps D w:=⟨fun b o v e=>hk.out b o v (h.out b o v e)⟩
theorem new_pub{w:World}{D:Gh}[hk:Keeps D w](t:TypeId)(cs:Array Value):∃D',Gro none w D (w.alloc (.cells cs t)) D'∧∀o u,cs[o]? =some u→D' w.heap.size o=some u:=by
 obtain⟨D',hP,hc⟩:=Box.pub (Box.new w D t cs)
 have:=hP.gr none w D ii (fun k e=>by cases e;exact Nat.le_refl _)
 exact⟨D',Gr.g,hc⟩
theorem visit_s(n:Nat)(xs:List C)(D0:Gh)(l:Nat)(J Jx:List C→Gh→World→Prop)
  (hJk:∀s D W,J s D W→Keeps D W) (hJg:∀s D W D' W',J s D W→Gro none W D W' D'→J s D' W') (hJx:∀s D W D' W',Jx s D W→Gro none W D W' D'→Jx s D' W')
  (hY:∀pre x D1 W1 v,J pre D1 W1→(pre++[x])<+:xs→RdC D0 x v→YieldAt Fence.wide 0 prog l #[v] W1 fun e W'=>(e=.returned (.bool true)∧∃D',Le D1 D'∧J (pre++[x]) D' W')∨(e=.returned (.bool false)∧∃D',Le D1 D'∧Jx (pre++[x]) D' W'))
  (ih:∀(c:C)(pre0:List C)(a:Option Addr)(len m:Nat)(D:Gh)(W:World),c.size≤n→Le D0 D→PV D0 c.parts (.slice a len m)→J pre0 D W→pre0++preC c<+:xs→
   Calls prog 138 #[cv c (.slice a len m),.func (.yield l) #[] #[]] W (VPost J Jx D xs (pre0++preC c)))
  (c:C) (pre0:List C) (a:Option Addr) (len m:Nat) (D:Gh) (W:World) (hn:c.size≤n+1) (hD:Le D0 D) (hp:PV D0 c.parts (.slice a len m)) (hJ:J pre0 D W) (hpre:pre0++preC c<+:xs):
  Calls prog 138 #[cv c (.slice a len m),.func (.yield l) #[] #[]] W (VPost J Jx D xs (pre0++preC c)):=by
 obtain⟨hlen,hm1,hm2⟩:=PV_len hp
 have:=hJk _ _ _ hJ
 obtain⟨D1,hg1,hc1⟩:=new_pub (w:=W) (D:=D) 31 #[.int .i64 c.kind,.string (str c.nm),.int .i64 c.lo,.int .i64 c.hi,.slice a len m]
 have hJ1:=hJg _ _ _ _ _ hJ hg1
 have hc4:D1 W.heap.size 4=some (.slice a len m):=hc1 4 _ rfl
 have hD1:=le_trans hD hg1.le
 have HDD:=hid hg1.le
 clear hJ hc1 hg1
 have HL:=hid hlen
 have HS:=hid c.size_parts
 have HE:=hid (preC_eq c)
 have HPRE:=hid hpre
 have IH:=hid ih
 have HJK:=hid hJk
 have HJG:=hid hJg
 have HJX:=hid hJx
 have HY:=hid hY
 clear hlen hpre ih hJk hJg hJx hY
 go_enter func138,ntmps138
 repeat((fail_if_success (with_reducible show Code.wp _ (Code.region 1 _ _) _ _ _));go_step)
 have hy1:pre0++[c]<+:xs:=by
  refine List.IsPrefix.trans ?_ HPRE.out
  rw[HE.out];exact⟨preL c.parts,by simp⟩
 obtain⟨fn,tmps,asg,body,hy,hR⟩:=HY.out pre0 c D1 _ (cv c (.slice a len m)) hJ1 hy1 ⟨a,len,m,rfl,hp⟩
 have HR:=hid hR
 clear hR hy1 hJ1
 refine(wpIn_wide (n:=1)).1 ?_
 gi_wp2
 refine HR.out.mono ?_
 clear HR hy
 rintro e W4(⟨rfl,D4,hd4,hJ4⟩|⟨rfl,D4,hd4,hJx4⟩)
 ·gi_wp2
  have:=HJK.out _ _ _ hJ4
  have c4:=Keeps.out (D:=D4) (w:=W4) _ _ _ (hd4.out _ _ _ hc4)
  go_wp2_with fail
  go_loopg [14] len (fun gk v wr=>∃(i:Nat)(D':Gh),v=.int .i64 i∧gk+i=len∧Le D4 D'∧J (pre0++[c]++preL (c.parts.take i)) D' wr)
  case atStart=>exact⟨0,D4,rfl,rfl,le_refl _,by simpa[preL]using hJ4⟩
  case round=>
   obtain⟨i,D5,rfl,hgk,hd5,hJ5⟩:=hrel
   have:=HJK.out _ _ _ hJ5
   have hD5:Le D0 D5:=le_trans hD1 (le_trans hd4 hd5)
   by_cases hi:i<len
   ·have:=keeps_le hD5 (w:=wr)
    obtain⟨c',b,o,a',n',m',hj,rfl,rfl,hp',r0,r1,r2,r3,r4,r5⟩:=PV_elem (w:=wr) hp (i:=i) (by rw[←HL.out];exact hi)
    have HJ:=hid hj
    clear hj
    go_wp2_with fail
    have hc':c'.size≤n:=by
     have h1:=sizeL_at _ _ _ HJ.out
     have h2:=HS.out
     omega
    have hpx:pre0++[c]++preL (c.parts.take i)++preC c'<+:xs:=by
     refine List.IsPrefix.trans ?_ HPRE.out
     rw[HE.out,List.append_assoc,List.append_assoc]
     refine(List.prefix_append_right_inj _).2 ?_
     rw[List.singleton_append]
     exact List.prefix_cons_inj c |>.2 (preL_at _ _ _ HJ.out)
    have ih1:=IH.out c' _ a' c'.parts.length m' D5 (wr.alloc (.cells #[.int .i64 c'.kind,.string (str c'.nm),.int .i64 c'.lo,.int .i64 c'.hi,.slice a' c'.parts.length m'] 31)) hc' hD5 hp' (HJG.out _ _ _ _ _ hJ5 Gr.g) hpx
    refine ih1.mono ?_
    clear ih1 hpx
    rintro e W6(⟨rfl,D6,hd6,hJ6⟩|⟨rfl,p6,D6,hd6,hp6,hJ6⟩)
    ·go_wp2_with fail
     go_roundg (gk-1)
     case measure=>omega
     case rel=>exact⟨i+1,D6,by simp,by omega,le_trans hd5 hd6,by rw[preL_take _ _ _ HJ.out,←List.append_assoc];exact hJ6⟩
    ·go_wp2
     go_ret
     exact .inr ⟨rfl,p6,D6,le_trans HDD.out (le_trans hd4 (le_trans hd5 hd6)),hp6,hJ6⟩
   ·go_wp2_with fail
    go_ret
    have hil:c.parts.take i=c.parts:=List.take_of_length_le (by have:=HL.out;omega)
    rw[hil]at hJ5
    exact .inl ⟨rfl,D5,le_trans HDD.out (le_trans hd4 hd5),by rw[HE.out,←List.singleton_append,←List.append_assoc];exact hJ5⟩
 ·gi_wp2
  go_wp2
  go_ret
  refine .inr ⟨rfl,pre0++[c],D4,le_trans HDD.out hd4,?_,hJx4⟩
  refine List.IsPrefix.trans ?_ HPRE.out
  rw[HE.out];exact⟨preL c.parts,by simp⟩
theorem walk_seq(D0:Gh)(c:C)(b:Nat)(a:Option Addr)(n m:Nat)(hc:Crow D0 b 0 c (.slice a n m))(hp:PV D0 c.parts (.slice a n m)):
  SeqV prog 137 #[.pointer (some ⟨b,0,none⟩)] (RdC D0) (preC c) D0:=by
 intro l J Jx W D hD hJk hJg hJx hY hJ
 have key:∀(n:Nat)(c:C)(pre0:List C)(xs:List C)(a:Option Addr)(len m:Nat)(D:Gh)(W:World),(∀pre x D1 W1 v,J pre D1 W1→(pre++[x])<+:xs→RdC D0 x v→YieldAt Fence.wide 0 prog l #[v] W1 fun e W'=>(e=.returned (.bool true)∧∃D',Le D1 D'∧J (pre++[x]) D' W')∨(e=.returned (.bool false)∧∃D',Le D1 D'∧Jx (pre++[x]) D' W'))→
   c.size≤n→Le D0 D→PV D0 c.parts (.slice a len m)→J pre0 D W→pre0++preC c<+:xs→
   Calls prog 138 #[cv c (.slice a len m),.func (.yield l) #[] #[]] W (VPost J Jx D xs (pre0++preC c)):=by
  intro n
  induction n with
  |zero=>intro c pre0 xs a len m D W _ hc;have:=C.size_pos c;omega
  |succ n ih=>intro c pre0 xs a len m D W hY hc hD hp hJ hx;exact visit_s n xs D0 l J Jx hJk hJg hJx hY (fun c pre0 a len m D W h1 h2 h3 h4 h5=>ih c pre0 xs a len m D W hY h1 h2 h3 h4 h5) c pre0 a len m D W hc hD hp hJ hx
 have hv:=key c.size c [] (preC c) a n m D W hY (Nat.le_refl _) hD hp hJ (by simp)
 have:=hJk _ _ _ hJ
 have:=keeps_le hD (w:=W)
 obtain⟨r0,r1,r2,r3,r4,r5⟩:=hc.held (w:=W)
 simp only[Nat.zero_add]at r0 r1 r2 r3 r4
 clear hY hJk hJg hJx hc
 show Calls prog 137 #[.func (.yield l) #[] #[],.pointer (some ⟨b,0,none⟩)] W _
 go_enter func137,ntmps137
 go_wp2_with fail
 refine hv.mono ?_
 clear hv key
 rintro e W6(⟨rfl,D6,hd6,hJ6⟩|⟨rfl,p6,D6,hd6,hp6,hJ6⟩)
 ·go_wp2
  go_end0
  exact⟨⟨_,rfl⟩,.inl ⟨D6,hd6,hJ6⟩⟩
 ·go_wp2
  go_end0
  exact⟨⟨_,rfl⟩,.inr ⟨p6,D6,hd6,hp6,hJ6⟩⟩
theorem walk_c(w:World)(D:Gh)(c:C)(a:Option Addr)(n m:Nat)[Keeps D w]:
  Calls prog 74 #[cv c (.slice a n m)] w fun e w'=>∃b D',e=.returned (.func (.func 137) #[] #[.pointer (some ⟨b,0,none⟩)])∧Gro none w D w' D'∧Crow D' b 0 c (.slice a n m):=by
 obtain⟨D1,hg1,hc1⟩:=new_pub (w:=w) (D:=D) 31 #[.int .i64 c.kind,.string (str c.nm),.int .i64 c.lo,.int .i64 c.hi,.slice a n m]
 have hcr:Crow D1 w.heap.size 0 c (.slice a n m):=⟨hc1 0 _ rfl,hc1 1 _ rfl,hc1 2 _ rfl,hc1 3 _ rfl,hc1 4 _ rfl⟩
 clear hc1
 go_enter func74,ntmps74
 go_wp2
 go_ret
 exact⟨w.heap.size,D1,rfl,hg1,hcr⟩
end Go.Proofs.YticgonfhjcaohaaGreatDoor
namespace Go.Proofs.YticgonfhjcaohaaGreatDoor
open Go.RowKit Go.VT _root_.Go.Proofs.Tryz
attribute [local go_sem] Oper.semAt_some
theorem wf_pre(c:C):c.wf→∀x∈preC c,x.wf:=by
 have key:∀n(c:C),c.size≤n→c.wf→∀x∈preC c,x.wf:=by
  intro n
  induction n with
  |zero=>intro c hc;have:=C.size_pos c;omega
  |succ n ih=>
   have hL:∀l:List C,sizeL l≤n→C.wf.wfL l→∀x∈preL l,x.wf:=by
    intro l
    induction l with
    |nil=>intro _ _ x hx;simp[preL]at hx
    |cons a r ihr=>
     intro hs hw x hx
     simp only[sizeL]at hs
     simp only[preL,List.mem_append]at hx
     rcases hx with hx|hx
     ·exact ih a (by omega) hw.1 x hx
     ·exact ihr (by omega) hw.2 x hx
   intro c hc hw x hx
   cases c with
   |and l=>
    simp only[preC,List.mem_cons]at hx
    rcases hx with rfl|hx
    ·exact hw
    ·simp only[C.size]at hc;exact hL l (by omega) hw.2 x hx
   |some r c=>
    simp only[preC,List.mem_cons]at hx
    rcases hx with rfl|hx
    ·exact hw
    ·simp only[C.size]at hc;exact ih c (by omega) hw.2 x hx
   |_=>simp only[preC,List.mem_singleton]at hx;subst hx;exact hw
 exact key c.size c (Nat.le_refl _)
def okC(c:C):Bool:=fitsB c 0 0&&(preC c).all shal
def checkE(c:C):Int:=if okC c then 0 else 21
theorem marks_ret0{P:Program}{fn:Func}{R:Ending→World→Prop}{tmps:Array Value}{W:World}{v:Value}
  (hr:(results fn tmps).run P W=.ok v W) (hR:R (.returned v) W):bodyPostM Fence.wide 0 P fn R .ret {tmps:=tmps,defers:=[]} W:=⟨v,hr,hR⟩
theorem Bel.putC{w W:World}{l:Nat}(h:Cll none w W)(hl:w.heap.size≤l)(o':Obj):Cll none w (W.putObj l o'):=⟨h.out.put hl o'⟩
theorem checkConcept_c(w:World)(D:Gh)(c:C)(a:Option Addr)(n m:Nat)(hw:c.wf)(hp:PV D c.parts (.slice a n m))[hk:Keeps D w][hT:TB D]:
  Calls prog 52 #[cv c (.slice a n m)] w fun e w'=>e=.returned (.int .i64 (checkE c))∧Cll none w w':=by
 have HW:=hid (wf_pre c hw)
 have HP:=hid hp
 refine calls_of_marks func52 rfl ?_
 simp only[ntmps52,List.size_toArray,List.length_cons,List.length_nil,Nat.reduceAdd,Nat.reduceSub,Array.replicate_succ,Array.replicate_zero,List.push_toArray,List.append_toArray,List.nil_append,List.cons_append]
 go_wp2_with fail
 have hB1:Box (((w.alloc (.cells #[.int .i64 c.kind,.string (str c.nm),.int .i64 c.lo,.int .i64 c.hi,.slice a n m] 31)).alloc (.cells #[.int .i64 0] 26)).alloc (.cells #[.int .i64 0] 3)) D w.heap.size 31 #[.int .i64 c.kind,.string (str c.nm),.int .i64 c.lo,.int .i64 c.hi,.slice a n m]:=ii
 have hB2:Box (((w.alloc (.cells #[.int .i64 c.kind,.string (str c.nm),.int .i64 c.lo,.int .i64 c.hi,.slice a n m] 31)).alloc (.cells #[.int .i64 0] 26)).alloc (.cells #[.int .i64 0] 3)) D (w.heap.size+1) 26 #[.int .i64 0]:=by
  have:=Box.new (w.alloc (.cells #[.int .i64 c.kind,.string (str c.nm),.int .i64 c.lo,.int .i64 c.hi,.slice a n m] 31)) D 26 #[.int .i64 0]
  simp only[World.size_alloc]at this
  exact ii
 have hB3:Box (((w.alloc (.cells #[.int .i64 c.kind,.string (str c.nm),.int .i64 c.lo,.int .i64 c.hi,.slice a n m] 31)).alloc (.cells #[.int .i64 0] 26)).alloc (.cells #[.int .i64 0] 3)) D (w.heap.size+1+1) 3 #[.int .i64 ((0:Nat):Int)]:=by
  have:=Box.new ((w.alloc (.cells #[.int .i64 c.kind,.string (str c.nm),.int .i64 c.lo,.int .i64 c.hi,.slice a n m] 31)).alloc (.cells #[.int .i64 0] 26)) D 3 #[.int .i64 0]
  simpa only[World.size_alloc,Int.natCast_zero]using this
 have hc0:Cll none w (((w.alloc (.cells #[.int .i64 c.kind,.string (str c.nm),.int .i64 c.lo,.int .i64 c.hi,.slice a n m] 31)).alloc (.cells #[.int .i64 0] 26)).alloc (.cells #[.int .i64 0] 3)):=Bel.c
 have hk0:Keeps D (((w.alloc (.cells #[.int .i64 c.kind,.string (str c.nm),.int .i64 c.lo,.int .i64 c.hi,.slice a n m] 31)).alloc (.cells #[.int .i64 0] 26)).alloc (.cells #[.int .i64 0] 3)):=ii
 generalize((w.alloc (.cells #[.int .i64 c.kind,.string (str c.nm),.int .i64 c.lo,.int .i64 c.hi,.slice a n m] 31)).alloc (.cells #[.int .i64 0] 26)).alloc (.cells #[.int .i64 0] 3)=W at*
 refine(fits_c W D c a n m 0 0 (w.heap.size+1+1) (by omega) (by omega) hp).mono ?_
 rintro e W1 ⟨rfl,hc1,sz,hB3',hsz⟩
 have:=neGt (show w.heap.size<w.heap.size+1+1 by omega)
 have:=neGt (show w.heap.size+1<w.heap.size+1+1 by omega)
 have:=hB3.off
 have hC1:Box W1 D w.heap.size 31 _:=Box.call W W1 D _ _ _ (some (w.heap.size+1+1))
 have hC2:Box W1 D (w.heap.size+1) 26 #[.int .i64 0]:=Box.call W W1 D _ _ _ (some (w.heap.size+1+1))
 have e0:=hC2.held (i:=0) rfl
 have s0:=Box.lt (h:=hC2)
 have c0:=Box.cell (h:=hC1) 0
 have c1:=Box.cell (h:=hC1) 1
 have c2:=Box.cell (h:=hC1) 2
 have c3:=Box.cell (h:=hC1) 3
 have c4:=Box.cell (h:=hC1) 4
 have:New w (w.heap.size+1+1):=⟨by omega⟩
 have:New w (w.heap.size+1):=⟨by omega⟩
 have:OffX D (some (w.heap.size+1+1)):=ii
 have hk1:Keeps D W1:=Keeps.call (some (w.heap.size+1+1)) D W W1
 have hb0:Bel none w W:=⟨hc0.out⟩
 have hb1:Bel none w W1:=ii
 have:=hC2.off
 have:=hC1.off
 clear hc1 hB1 hB2 hB3 hB3' hc0 hb0
 cases hf:fitsB c 0 0
 ·have hE:checkE c=21:=by simp[checkE,okC,hf]
  go_wp2
  have hD:Box (W1.setCell ⟨w.heap.size+1,0,none⟩ (.int .i64 21)) D (w.heap.size+1) 26 #[.int .i64 21]:=ii
  have d0:=Box.cell (h:=hD) 0
  exact marks_ret0 (v:=.int .i64 21) (by simp[results,results52,go_sem,d0]) ⟨by rw[hE],Bel.c⟩
 ·go_wp2_with fail
  refine(walk_c _ D c a n m).mono ?_
  rintro e W2 ⟨b,D2,rfl,hg2,hcr⟩
  have:=hg2.keeps
  have hle2:=hg2.le
  have hE1:Box W2 D2 w.heap.size 31 _:=Box.gro W1 W2 D D2 _ _ _ none
  have hE2:Box W2 D2 (w.heap.size+1) 26 #[.int .i64 0]:=Box.gro W1 W2 D D2 _ _ _ none
  have hb2:Cll none w W2:=have:Gro none W1 D W2 D2:=hg2;Bel.c
  have hT2:TB D2:=ii
  have hseq:=walk_seq D2 c b a n m hcr (have:=HP.out;ii)
  clear hC1 hC2 e0 c0 c1 c2 c3 c4 hk1 hb1 hcr
  go_wp2_with fail
  have hseqd:=hg2.bl.size
  refine wp_rangeFunc_V (recs:=preC c) (Rd:=RdC D2) (D0:=D2) (D:=D2) (gf:=137) (lb:=#[.pointer (some ⟨b,0,none⟩)]) rfl (enters_of func137 (by kernel_rfl) rfl) hseq (le_refl D2)
   (fun pre D' W=>Keeps D' W∧Le D2 D'∧Cll none w W∧Box W D' (w.heap.size+1) 26 #[.int .i64 0]∧pre.all shal=true)
   (fun cd pre D' W=>cd=.ret∧Cll none w W∧Box W D' (w.heap.size+1) 26 #[.int .i64 21]∧pre.all shal=false)
   (fun s D W h=>h.1)
   (fun s D W D' W' h hg=>⟨hg.keeps,le_trans h.2.1 hg.le,⟨h.2.2.1.out.trans hg.bl⟩,have:=h.2.2.2.1;Box.gro W W' D D' _ _ _ none,h.2.2.2.2⟩)
   (fun cd s D W D' W' h hg=>⟨h.1,⟨h.2.1.out.trans hg.bl⟩,have:=h.2.2.1;Box.gro W W' D D' _ _ _ none,h.2.2.2⟩)
   (fun s D W l o o' h hl ho hc=>⟨h.1.put o' ho hc,h.2.1,Bel.putC h.2.2.1 (by omega) o',h.2.2.2.1.put o' ho hc,h.2.2.2.2⟩)
   (fun cd s D W l o o' h hl ho hc=>⟨h.1,Bel.putC h.2.1 (by omega) o',h.2.2.1.put o' ho hc,h.2.2.2⟩)
   ⟨hg2.keeps,le_refl D2,hb2,hE2,rfl⟩
   (fun pre x v D1 a1 W=>Keeps D1 W∧Le D2 D1∧Cll none w W∧Box W D1 (w.heap.size+1) 26 #[.int .i64 0]∧pre.all shal=true∧∃g a' n' m',g≠w.heap.size+1∧v=cv x (.slice a' n' m')∧PV D2 x.parts (.slice a' n' m')∧Box W D1 g 31 #[.int .i64 x.kind,.string (str x.nm),.int .i64 x.lo,.int .i64 x.hi,.slice a' n' m']∧
    a1={tmps:=#[cv c (.slice a n m),.pointer (some ⟨w.heap.size,0,none⟩),.pointer (some ⟨w.heap.size+1,0,none⟩),.pointer (some ⟨w.heap.size+1+1,0,none⟩),.pointer (some ⟨g,0,none⟩),undef,cv c (.slice a n m),.bool true,.bool false,cv c (.slice a n m),.func (.func 137) #[] #[.pointer (some ⟨b,0,none⟩)],v,undef,undef,undef,undef,undef],defers:=[]})
   (fun pre x v D1 a1 W l o o' h hl ho hc=>by
    obtain⟨h1,h2,h3,h4,h5,g,a',n',m',h6,h7,h8,h9,h10⟩:=h
    exact⟨h1.put o' ho hc,h2,Bel.putC h3 (by omega) o',h4.put o' ho hc,h5,g,a',n',m',h6,h7,h8,h9.put o' ho hc,h10⟩)
   ?assign ?body ?done ?stop
  case assign=>
   rintro l pre x v D1 W K ⟨h1,h2,h3,h4,h5⟩⟨a',n',m',rfl,hpx⟩ hpre hK
   have:=h1
   have hx:=hK _ (W.alloc (.cells #[.int .i64 x.kind,.string (str x.nm),.int .i64 x.lo,.int .i64 x.hi,.slice a' n' m'] 31)) (KeepsFrom.cll (X:=none) Bel.c (by simp)) ⟨ii,h2,Bel.c,ii,h5,W.heap.size,a',n',m',(by have:=Box.lt (h:=h4);omega),rfl,hpx,ii,rfl⟩
   clear hK
   gi_wp2
   exact hx
  case body=>
   rintro l pre x v D1 a1 W ⟨h1,h2,h3,h4,h5,g,a',n',m',hne,rfl,hpx,hBg,rfl⟩ hpre hrd
   have:=h1
   have hwx:x.wf:=HW.out x (List.IsPrefix.subset hpre (by simp))
   have hT3:TB D1:=have:=h2;ii
   have hpx':PV D1 x.parts (.slice a' n' m'):=by have:=h2;have:=hpx;exact ii
   have HC:=hid (checkFields_c W D1 x a' n' m' hwx hpx')
   have c0:=Box.cell (h:=hBg) 0
   have c1:=Box.cell (h:=hBg) 1
   have c2:=Box.cell (h:=hBg) 2
   have c3:=Box.cell (h:=hBg) 3
   have c4:=Box.cell (h:=hBg) 4
   have e0:=h4.held (i:=0) rfl
   have s1:=Box.lt (h:=h4)
   have hfn:Fence.wide.fn 125:=trivial
   have hdp:Fence.wide.depth=none:=rfl
   have HPA:=hid h5
   clear h5 hpre hwx hpx hpx' hrd
   gi_wp2
   refine(CallsIn.inRound l (callsIn_wide.2 HC.out)).mono ?_
   rintro e w' ⟨rfl,hc⟩
   have hb':Box w' D1 (w.heap.size+1) 26 #[.int .i64 0]:=ii
   have e0':=hb'.held (i:=0) rfl
   have s1':=Box.lt (h:=hb')
   have hk':Keeps D1 w':=ii
   have hcl:Cll none w w':=⟨h3.out.trans hc.out⟩
   have:=hb'.off
   clear e0 s1 c0 c1 c2 c3 c4
   cases hsx:shal x
   ·rw[show shalE x=21 from by simp[shalE,hsx]]
    gi_wp2
    refine⟨KeepsFrom.trans (KeepsFrom.cll (X:=none) hc (by simp)) ((KeepsOthers.setCell _ _ _).from _),D1,le_refl _,rfl,⟨hcl.out.setNew (by show w.heap.size≤w.heap.size+1;omega) _⟩,ii,?_⟩
    rw[List.all_append,HPA.out];simp[hsx]
   ·rw[show shalE x=0 from by simp[shalE,hsx]]
    gi_wp2
    refine⟨KeepsFrom.cll (X:=none) hc (by simp),D1,le_refl _,hk',h2,hcl,hb',?_⟩
    rw[List.all_append,HPA.out];simp[hsx]
  case done=>
   rintro L D' W ⟨h1,h2,h3,h4,h5⟩ hle hL hWL
   have:=h1
   have e0':=h4.held (i:=0) rfl
   have s1':=Box.lt (h:=h4)
   have HE:Hid (checkE c=0):=hid (by simp[checkE,okC,hf,h5])
   have:=h4.off
   clear h5 hseq
   dsimp only
   go_wp2
   have hD:Box (W.setCell ⟨w.heap.size+1,0,none⟩ (.int .i64 0)) D' (w.heap.size+1) 26 #[.int .i64 0]:=ii
   have hWL':=(KeepsOthers.setCell W ⟨w.heap.size+1,0,none⟩ (.int .i64 0)).same L _ hWL rfl
   have d0:=Box.cell (h:=hD.put (.deferred none) hWL' rfl) 0
   exact marks_ret hWL' (v:=.int .i64 0) (by simp[results,results52,go_sem,d0]) ⟨by rw[HE.out],Bel.putC ⟨h3.out.setNew (by show w.heap.size≤w.heap.size+1;omega) _⟩ (by omega) _⟩
  case stop=>
   rintro L cd pre D' W hpr ⟨rfl,h3,h4,h5⟩ hle hL hWL
   have HE:Hid (checkE c=21):=by
    refine hid ?_
    obtain⟨r,hr⟩:=hpr
    simp[checkE,okC,←hr,h5]
   clear h5 hseq hpr
   dsimp only
   go_wp2
   have d0:=Box.cell (h:=h4.put (.deferred none) hWL rfl) 0
   exact marks_ret hWL (v:=.int .i64 21) (by simp[results,results52,go_sem,d0]) ⟨by rw[HE.out],Bel.putC h3 (by omega) _⟩
end Go.Proofs.YticgonfhjcaohaaGreatDoor
