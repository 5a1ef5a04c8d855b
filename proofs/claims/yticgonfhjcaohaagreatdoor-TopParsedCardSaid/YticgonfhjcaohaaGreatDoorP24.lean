/- TopParsed, part 24. -/
import Derived.Test.YticgonfhjcaohaaGreatDoorP20
set_option maxRecDepth 100000
set_option maxHeartbeats 32000000
namespace Go.Proofs.YticgonfhjcaohaaGreatDoor
open Go.RowKit Go.VT _root_.Go.Proofs.Tryz
theorem kind6{c:C}(h:c.kind=6):∃r d,c=.some r d:=by cases c<;>simp_all [C.kind]
theorem kind5{c:C}(h:c.kind=5):∃l,c=.and l:=by cases c<;>simp_all [C.kind]
theorem tidy0{c:C}(h:c.kind≠6)(k:c.kind≠5):tidyC c=some c:=by cases c<;>simp_all [C.kind,tidyC]
theorem tidy_s(N:Nat)(ih:TidyS N):TidyS (N+1):=by
 intro w D c a n m hN h1000 hp hk
 obtain⟨hlen,hm1,hm2⟩:=PV_len hp
 have hsz:=c.size_parts
 obtain⟨R,hR⟩:∃R,R=tidyC c:=⟨_,rfl⟩
 rw[←hR]
 have HR:=hid hR
 clear hR
 have hB1:Box (w.alloc (.cells #[.int .i64 c.kind,.string (str c.nm),.int .i64 c.lo,.int .i64 c.hi,.slice a n m] 31)) D w.heap.size 31 #[.int .i64 c.kind,.string (str c.nm),.int .i64 c.lo,.int .i64 c.hi,.slice a n m]:=ii
 obtain⟨W,hW⟩:∃W,W=(w.alloc (.cells #[.int .i64 c.kind,.string (str c.nm),.int .i64 c.lo,.int .i64 c.hi,.slice a n m] 31)).alloc (.cells #[.int .i64 0,.string ⟨#[]⟩,.int .i64 0,.int .i64 0,.slice none 0 0] 31):=⟨_,rfl⟩
 have hB1:Box W D w.heap.size 31 #[.int .i64 c.kind,.string (str c.nm),.int .i64 c.lo,.int .i64 c.hi,.slice a n m]:=hW▸ii
 have hB2:Box W D (w.heap.size+1) 31 #[.int .i64 0,.string ⟨#[]⟩,.int .i64 0,.int .i64 0,.slice none 0 0]:=by rw[hW];exact Box.newAt (by simp)
 have hG:Gr none w D W D:=hW▸ii
 have HW:=hid hW
 have:=hG.keeps
 have r0:=(hB1.held (i:=0) rfl).1
 have r1:=(hB1.held (i:=1) rfl).1
 have r2:=(hB1.held (i:=2) rfl).1
 have r3:=(hB1.held (i:=3) rfl).1
 have r4:=(hB1.held (i:=4) rfl).1
 have hl2:=hB2.lt
 have hne12:NeX w.heap.size (some (w.heap.size+1)):=⟨fun e=>by have:=Option.some.inj e;omega⟩
 have:=hB2.off
 clear hW
 by_cases h6:c.kind=6
 ·have k6:(c.kind==6)=true:=by simp[h6]
  obtain⟨rr,c1,hc1⟩:=kind6 h6
  have hpar:c.parts=[c1]:=by rw[hc1];rfl
  have HRC:Hid (R=(tidyC c1).map fun x=>if isBot x then .bot else .some rr x):=hid (by rw[HR.out,hc1,tidyC])
  have HNM:Hid (c.nm=rr):=hid (by rw[hc1];rfl)
  rw[hpar]at hlen hsz hp
  obtain⟨c2,b,o,a',n',m',hj,rfl,rfl,hp',s0,s1,s2,s3,s4,s5⟩:=PV_elem (w:=W) hp (i:=0) (by simp)
  obtain rfl:c1=c2:=by simpa using hj
  simp only[Nat.zero_mul,Nat.add_zero]at s0 s1 s2 s3 s4
  simp only[sizeL]at hsz
  have hz1:c1.size≤N:=by omega
  have hz2:c1.size≤1000:=by omega
  obtain rfl:n=1:=by simpa using hlen
  clear hlen hsz hj hpar h6 hc1 HR
  go_enter func20,ntmps20
  repeat((fail_if_success (with_reducible show Code.wp _ (Code.region 1 _ _) _ _ _));go_step)
  rw[←HW.out]
  go_wp2_with fail
  refine(ih W D c1 a' _ m' hz1 hz2 hp').mono ?_
  intro e w3 h3
  cases hq:tidyC c1 with
  |none=>
   rw[hq]at h3
   obtain⟨rfl,hc3⟩:=h3
   have HN:Hid (R=none):=hid (by rw[HRC.out,hq];rfl)
   have hB3:Box w3 D (w.heap.size+1) 31 #[.int .i64 0,.string ⟨#[]⟩,.int .i64 0,.int .i64 0,.slice none 0 0]:=ii
   have hB4:Box (w3.alloc (.cells #[.int .i64 0,.string ⟨#[]⟩,.int .i64 0,.int .i64 0,.slice none 0 0] 31)) D (w.heap.size+1) 31 #[.int .i64 0,.string ⟨#[]⟩,.int .i64 0,.int .i64 0,.slice none 0 0]:=ii
   have hG3:Gr none w D (w3.alloc (.cells #[.int .i64 0,.string ⟨#[]⟩,.int .i64 0,.int .i64 0,.slice none 0 0] 31)) D:=ii
   clear hq
   go_wp2_with (((with_reducible show wpList _ _ _ ((⟨_,.store 31 _ _,_,_,_,_⟩:Oper)::_) _ _);refine wpList_storeTo rfl 31 _ _ rfl rfl (w.heap.size+1) ((#[.int .i64 0,.string ⟨#[]⟩,.int .i64 0,.int .i64 0,.slice none 0 0])) rfl rfl _ ((#[.int .i64 0,.string ⟨#[]⟩,.int .i64 0,.int .i64 0,.slice none 0 0])) (hB4.heap) (hz31) rfl (ccs_one _ _ _ _ _ _ _) ?_))
   have:=hG3.toBel
   have hB5:Box ((w3.alloc (.cells #[.int .i64 0,.string ⟨#[]⟩,.int .i64 0,.int .i64 0,.slice none 0 0] 31)).setRow (w.heap.size+1) #[.int .i64 0,.string ⟨#[]⟩,.int .i64 0,.int .i64 0,.slice none 0 0]) D (w.heap.size+1) 31 #[.int .i64 0,.string ⟨#[]⟩,.int .i64 0,.int .i64 0,.slice none 0 0]:=ii
   refine bodyPost_ret (v:=.tuple #[czero,.int .i64 2]) ?_ rfl ?_
   ·simp[results,results20,go_sem,Box.cell (D:=D) (g:=w.heap.size+1)]
   ·rw[HN.out]
    exact⟨rfl,Bel.c⟩
  |some y=>
   rw[hq]at h3
   obtain⟨py,D3,rfl,hpy,hg3⟩:=h3
   obtain⟨ay,my,rfl,_,_⟩:=PV.form hpy
   have:=hg3.keeps
   have:=hg3.le
   have hB3:Box w3 D3 (w.heap.size+1) 31 #[.int .i64 0,.string ⟨#[]⟩,.int .i64 0,.int .i64 0,.slice none 0 0]:=ii
   have hB13:Box w3 D3 w.heap.size 31 #[.int .i64 c.kind,.string (str c.nm),.int .i64 c.lo,.int .i64 c.hi,.slice (some ⟨b,o,none⟩) 1 m]:=ii
   obtain⟨Wa,hWa⟩:∃Wa,Wa=w3.alloc (.cells #[.int .i64 y.kind,.string (str y.nm),.int .i64 y.lo,.int .i64 y.hi,.slice ay y.parts.length my] 31):=⟨_,rfl⟩
   have hB4:Box Wa D3 (w.heap.size+1) 31 #[.int .i64 0,.string ⟨#[]⟩,.int .i64 0,.int .i64 0,.slice none 0 0]:=hWa▸ii
   have hB14:Box Wa D3 w.heap.size 31 #[.int .i64 c.kind,.string (str c.nm),.int .i64 c.lo,.int .i64 c.hi,.slice (some ⟨b,o,none⟩) 1 m]:=hWa▸ii
   have hYa:Box Wa D3 w3.heap.size 31 #[.int .i64 y.kind,.string (str y.nm),.int .i64 y.lo,.int .i64 y.hi,.slice ay y.parts.length my]:=hWa▸ii
   have hG3:Gr none w D Wa D3:=hWa▸ii
   have:=hG3.keeps
   have hsa:w3.heap.size+1=Wa.heap.size:=by rw[hWa];simp
   have hl3:=hB3.lt
   have t0:=(hYa.held (i:=0) rfl).1
   have t1:=(hYa.held (i:=1) rfl).1
   have t2:=(hYa.held (i:=2) rfl).1
   have t3:=(hYa.held (i:=3) rfl).1
   have t4:=(hYa.held (i:=4) rfl).1
   have u1:=(hB14.held (i:=1) rfl).1
   have HWa:=hid hWa
   have HSA:=hid hsa
   have:=hB4.off
   clear hWa hsa
   by_cases hb:y.kind=2
   ·have kb:(y.kind==2)=true:=by simp[hb]
    have hyb:y=.bot:=by revert hb;cases y<;>simp[C.kind]
    have HN:Hid (R=some .bot∧y=.bot):=hid ⟨by rw[HRC.out,hq,hyb];rfl,hyb⟩
    clear hb hyb hq
    go_wp2_with ((with_reducible show wpList _ _ _ ((⟨some 19,_,_,_,_,_⟩:Oper)::_) _ _);refine stopL ?_)
    rw[←HWa.out]
    unfold Stop
    go_wp2_with (((with_reducible show wpList _ _ _ ((⟨_,.store 31 _ _,_,_,_,_⟩:Oper)::_) _ _);refine wpList_storeTo rfl 31 _ _ rfl rfl (w.heap.size+1) ((#[.int .i64 y.kind,.string (str y.nm),.int .i64 y.lo,.int .i64 y.hi,.slice ay y.parts.length my])) rfl rfl _ ((#[.int .i64 0,.string ⟨#[]⟩,.int .i64 0,.int .i64 0,.slice none 0 0])) (hB4.heap) (hz31) rfl (ccs_one _ _ _ _ _ _ _) ?_))
    have hB5:Box (Wa.setRow (w.heap.size+1) #[.int .i64 y.kind,.string (str y.nm),.int .i64 y.lo,.int .i64 y.hi,.slice ay y.parts.length my]) D3 (w.heap.size+1) 31 #[.int .i64 y.kind,.string (str y.nm),.int .i64 y.lo,.int .i64 y.hi,.slice ay y.parts.length my]:=ii
    refine bodyPost_ret (v:=.tuple #[cv y (.slice ay y.parts.length my),.int .i64 0]) ?_ rfl ?_
    ·simp[results,results20,go_sem,Box.cell (D:=D3) (g:=w.heap.size+1)]
    ·rw[HN.out.1]
     have e1:=HN.out.2
     rw[e1]at hpy hB5⊢
     exact⟨_,D3,rfl,hpy,Gr.g⟩
   ·have kb:(y.kind==2)=false:=by simp[hb]
    have hyb:isBot y=false:=by revert hb;cases y<;>simp[C.kind,isBot]
    have HN:Hid (R=some (.some rr y)):=hid (by rw[HRC.out,hq];simp[hyb])
    clear hb hyb hq
    go_wp2_with ((with_reducible show wpList _ _ _ ((⟨some 19,_,_,_,_,_⟩:Oper)::_) _ _);refine stopL ?_)
    rw[←HWa.out]
    unfold Stop
    have hB6:Box (Wa.alloc (.cells #[.int .i64 y.kind,.string (str y.nm),.int .i64 y.lo,.int .i64 y.hi,.slice ay y.parts.length my] 31)) D3 (w.heap.size+1) 31 #[.int .i64 0,.string ⟨#[]⟩,.int .i64 0,.int .i64 0,.slice none 0 0]:=ii
    have hL6:Box (Wa.alloc (.cells #[.int .i64 y.kind,.string (str y.nm),.int .i64 y.lo,.int .i64 y.hi,.slice ay y.parts.length my] 31)) D3 Wa.heap.size 31 #[.int .i64 y.kind,.string (str y.nm),.int .i64 y.lo,.int .i64 y.hi,.slice ay y.parts.length my]:=ii
    have hG6:Gr none w D (Wa.alloc (.cells #[.int .i64 y.kind,.string (str y.nm),.int .i64 y.lo,.int .i64 y.hi,.slice ay y.parts.length my] 31)) D3:=ii
    go_wp2_with (((with_reducible show wpList _ _ _ ((⟨_,.store 31 _ _,_,_,_,_⟩:Oper)::_) _ _);refine wpList_storeTo rfl 31 _ _ rfl rfl (w.heap.size+1) ((#[.int .i64 6,.string (str c.nm),.int .i64 0,.int .i64 0,.slice (some ⟨Wa.heap.size,0,none⟩) 1 1])) rfl rfl _ ((#[.int .i64 0,.string ⟨#[]⟩,.int .i64 0,.int .i64 0,.slice none 0 0])) (hB6.heap) (hz31) rfl (ccs_one _ _ _ _ _ _ _) ?_))
    have hsA:=HSA.out
    have hneA:NeX Wa.heap.size (some (w.heap.size+1)):=⟨fun e=>by have:=Option.some.inj e;omega⟩
    have hneB:NeX (w.heap.size+1) (some Wa.heap.size):=⟨fun e=>by have:=Option.some.inj e;omega⟩
    have hB7:Box ((Wa.alloc (.cells #[.int .i64 y.kind,.string (str y.nm),.int .i64 y.lo,.int .i64 y.hi,.slice ay y.parts.length my] 31)).setRow (w.heap.size+1) #[.int .i64 6,.string (str c.nm),.int .i64 0,.int .i64 0,.slice (some ⟨Wa.heap.size,0,none⟩) 1 1]) D3 (w.heap.size+1) 31 #[.int .i64 6,.string (str c.nm),.int .i64 0,.int .i64 0,.slice (some ⟨Wa.heap.size,0,none⟩) 1 1]:=ii
    have hL7:Box ((Wa.alloc (.cells #[.int .i64 y.kind,.string (str y.nm),.int .i64 y.lo,.int .i64 y.hi,.slice ay y.parts.length my] 31)).setRow (w.heap.size+1) #[.int .i64 6,.string (str c.nm),.int .i64 0,.int .i64 0,.slice (some ⟨Wa.heap.size,0,none⟩) 1 1]) D3 Wa.heap.size 31 #[.int .i64 y.kind,.string (str y.nm),.int .i64 y.lo,.int .i64 y.hi,.slice ay y.parts.length my]:=ii
    have hG7:Gr none w D ((Wa.alloc (.cells #[.int .i64 y.kind,.string (str y.nm),.int .i64 y.lo,.int .i64 y.hi,.slice ay y.parts.length my] 31)).setRow (w.heap.size+1) #[.int .i64 6,.string (str c.nm),.int .i64 0,.int .i64 0,.slice (some ⟨Wa.heap.size,0,none⟩) 1 1]) D3:=ii
    have:=hG7.keeps
    have hO7:Own ((Wa.alloc (.cells #[.int .i64 y.kind,.string (str y.nm),.int .i64 y.lo,.int .i64 y.hi,.slice ay y.parts.length my] 31)).setRow (w.heap.size+1) #[.int .i64 6,.string (str c.nm),.int .i64 0,.int .i64 0,.slice (some ⟨Wa.heap.size,0,none⟩) 1 1]) D3 Wa.heap.size 31 5 (.slice (some ⟨Wa.heap.size,0,none⟩) 1 1) 1 ([(y,Value.slice ay y.parts.length my)].flatMap crow):=Own.lit hL7 (by simp) (by simp[maxLen]) (Nat.le_refl _)
    have hsW:=hG3.bl.size
    obtain⟨D9,hPub,hPV⟩:=hO7.pubPV (by simp) (by intro z hz;obtain rfl:=List.mem_singleton.1 hz;exact hpy)
    have:=hPub.gr none w D hG7 (fun q e=>by have:=own_eq e;omega)
    have hB10:=hPub.box hB7 hneB.out
    have HNM2:=HNM.out
    refine bodyPost_ret (v:=.tuple #[.agg #[.int .i64 6,.string (str c.nm),.int .i64 0,.int .i64 0,.slice (some ⟨Wa.heap.size,0,none⟩) 1 1],.int .i64 0]) ?_ rfl ?_
    ·simp[results,results20,go_sem,Box.cell (h:=hB10)]
    ·rw[HN.out]
     refine⟨.slice (some ⟨Wa.heap.size,0,none⟩) 1 1,D9,?_,hPV,Gr.g⟩
     rw[HNM2];rfl
 ·have k6:(c.kind==6)=false:=by simp[h6]
  by_cases h5:c.kind=5
  ·have k5:(c.kind==5)=true:=by simp[h5]
   obtain⟨l,hl⟩:=kind5 h5
   have HRC:Hid (R=(tidyL c.parts).bind meetC):=hid (by rw[HR.out,hl,tidyC];rfl)
   have hz1:sizeL c.parts≤N:=by omega
   have hz2:sizeL c.parts≤1000:=by omega
   clear h5 h6 hl hlen hsz HR
   go_enter func20,ntmps20
   repeat((fail_if_success (with_reducible show Code.wp _ (Code.region 1 _ _) _ _ _));go_step)
   rw[←HW.out]
   go_wp2_with fail
   refine(meet_s N ih W D c.parts a n m hz1 hz2 hp).mono ?_
   intro e w3 h3
   rw[←HRC.out]at h3
   cases R with
   |none=>
    obtain⟨rfl,hc3⟩:=h3
    have hB3:Box w3 D (w.heap.size+1) 31 #[.int .i64 0,.string ⟨#[]⟩,.int .i64 0,.int .i64 0,.slice none 0 0]:=ii
    have hG3:Gr none w D w3 D:=ii
    go_wp2_with (((with_reducible show wpList _ _ _ ((⟨_,.store 31 _ _,_,_,_,_⟩:Oper)::_) _ _);refine wpList_storeTo rfl 31 _ _ rfl rfl (w.heap.size+1) ((#[.int .i64 0,.string ⟨#[]⟩,.int .i64 0,.int .i64 0,.slice none 0 0])) rfl rfl _ ((#[.int .i64 0,.string ⟨#[]⟩,.int .i64 0,.int .i64 0,.slice none 0 0])) (hB3.heap) (hz31) rfl (ccs_one _ _ _ _ _ _ _) ?_))
    have:=hG3.toBel
    have hB5:Box (w3.setRow (w.heap.size+1) #[.int .i64 0,.string ⟨#[]⟩,.int .i64 0,.int .i64 0,.slice none 0 0]) D (w.heap.size+1) 31 #[.int .i64 0,.string ⟨#[]⟩,.int .i64 0,.int .i64 0,.slice none 0 0]:=ii
    refine bodyPost_ret (v:=.tuple #[czero,.int .i64 2]) ?_ rfl ?_
    ·simp[results,results20,go_sem,Box.cell (D:=D) (g:=w.heap.size+1)]
    ·exact⟨rfl,Bel.c⟩
   |some y=>
    obtain⟨py,D3,rfl,hpy,hg3⟩:=h3
    obtain⟨ay,my,rfl,_,_⟩:=PV.form hpy
    have:=hg3.keeps
    have hB3:Box w3 D3 (w.heap.size+1) 31 #[.int .i64 0,.string ⟨#[]⟩,.int .i64 0,.int .i64 0,.slice none 0 0]:=ii
    have hG3:Gr none w D w3 D3:=ii
    have:=hB3.off
    go_wp2_with (((with_reducible show wpList _ _ _ ((⟨_,.store 31 _ _,_,_,_,_⟩:Oper)::_) _ _);refine wpList_storeTo rfl 31 _ _ rfl rfl (w.heap.size+1) ((#[.int .i64 y.kind,.string (str y.nm),.int .i64 y.lo,.int .i64 y.hi,.slice ay y.parts.length my])) rfl rfl _ ((#[.int .i64 0,.string ⟨#[]⟩,.int .i64 0,.int .i64 0,.slice none 0 0])) (hB3.heap) (hz31) rfl (ccs_one _ _ _ _ _ _ _) ?_))
    have hB5:Box (w3.setRow (w.heap.size+1) #[.int .i64 y.kind,.string (str y.nm),.int .i64 y.lo,.int .i64 y.hi,.slice ay y.parts.length my]) D3 (w.heap.size+1) 31 #[.int .i64 y.kind,.string (str y.nm),.int .i64 y.lo,.int .i64 y.hi,.slice ay y.parts.length my]:=ii
    refine bodyPost_ret (v:=.tuple #[cv y (.slice ay y.parts.length my),.int .i64 0]) ?_ rfl ?_
    ·simp[results,results20,go_sem,Box.cell (D:=D3) (g:=w.heap.size+1)]
    ·exact⟨_,D3,rfl,hpy,Gr.g⟩
  ·have k5:(c.kind==5)=false:=by simp[h5]
   have HN:Hid (R=some c):=hid (by rw[HR.out,tidy0 h6 h5])
   clear h5 h6 hlen hsz HR
   go_enter func20,ntmps20
   repeat((fail_if_success (with_reducible show Code.wp _ (Code.region 1 _ _) _ _ _));go_step)
   rw[←HW.out]
   go_wp2_with (((with_reducible show wpList _ _ _ ((⟨_,.store 31 _ _,_,_,_,_⟩:Oper)::_) _ _);refine wpList_storeTo rfl 31 _ _ rfl rfl (w.heap.size+1) ((#[.int .i64 c.kind,.string (str c.nm),.int .i64 c.lo,.int .i64 c.hi,.slice a n m])) rfl rfl _ ((#[.int .i64 0,.string ⟨#[]⟩,.int .i64 0,.int .i64 0,.slice none 0 0])) (hB2.heap) (hz31) rfl (ccs_one _ _ _ _ _ _ _) ?_))
   have hB5:Box (W.setRow (w.heap.size+1) #[.int .i64 c.kind,.string (str c.nm),.int .i64 c.lo,.int .i64 c.hi,.slice a n m]) D (w.heap.size+1) 31 #[.int .i64 c.kind,.string (str c.nm),.int .i64 c.lo,.int .i64 c.hi,.slice a n m]:=ii
   refine bodyPost_ret (v:=.tuple #[cv c (.slice a n m),.int .i64 0]) ?_ rfl ?_
   ·simp[results,results20,go_sem,Box.cell (D:=D) (g:=w.heap.size+1)]
   ·rw[HN.out]
    exact⟨_,D,rfl,hp,Gr.g⟩
theorem tidy_all(N:Nat):TidyS N:=by
 induction N with
 |zero=>intro w D c a n m h;have:=c.size_pos;omega
 |succ N ih=>exact tidy_s N ih
theorem tidy_c(w:World)(D:Gh)(c:C)(a:Option Addr)(n m:Nat)(h:c.size≤1000)(hp:PV D c.parts (.slice a n m))[Keeps D w]:Calls prog 20 #[cv c (.slice a n m)] w (TRet w D (tidyC c)):=
 tidy_all c.size w D c a n m (Nat.le_refl _) h hp
end Go.Proofs.YticgonfhjcaohaaGreatDoor
