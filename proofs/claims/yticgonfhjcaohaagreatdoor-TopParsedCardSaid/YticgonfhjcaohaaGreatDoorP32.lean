/- TopParsed, part 32. -/
import Derived.Test.YticgonfhjcaohaaGreatDoorP27
set_option maxRecDepth 100000
set_option maxHeartbeats 32000000
namespace Go.Proofs.YticgonfhjcaohaaGreatDoor
open Go.RowKit Go.VT _root_.Go.Proofs.Tryz
theorem tidyAx4(w:World)(D:Gh)(x:Ax)(lp rp rl:Value)(hv:AV D x lp rp rl)(hw:x.k.wf)(h0:chkK x.k=0)(hls0:x.k.left≠none)(hlo0:tidyO x.k.left≠none)(hrs0:x.k.right≠none)(hro0:tidyO x.k.right≠none)(hk0:x.k.kind≠2∧x.k.kind≠3)[hk:Keeps D w][hT:TB D]:
  Calls prog 6 #[.agg (axc x lp rp rl)] w (TARet w D x.tidy):=by
 obtain⟨R,hR⟩:∃R,R=x.tidy:=⟨_,rfl⟩
 rw[←hR]
 have HR:=hid hR
 clear hR
 have HV:=hid hv
 have HWF:=hid hw
 obtain⟨hl,hr,hs⟩:=hv
 obtain⟨a1,m1,rfl,_,_⟩:=PV.form hl
 obtain⟨a2,m2,rfl,_,_⟩:=PV.form hr
 obtain⟨a3,m3,rfl,_,_⟩:=SlN.form hs
 generalize hn1:(oP x.k.left).length=n1 at*
 generalize hn2:(oP x.k.right).length=n2 at*
 generalize hn3:x.k.roles.length=n3 at*
 obtain⟨kn,c2,c3,c4,c5,c6,hkk,hkn,u0,u1,u2,u3,u4,u5,u6⟩:=usesAt (D:=D) x.k
 have HKK:=hid hkk
 obtain⟨W1,hW1⟩:∃W1,W1=(w.alloc (.cells (axc x (.slice a1 n1 m1) (.slice a2 n2 m2) (.slice a3 n3 m3)) 34)).alloc (.cells axz 34):=⟨_,rfl⟩
 have hB1:Box W1 D w.heap.size 34 (axc x (.slice a1 n1 m1) (.slice a2 n2 m2) (.slice a3 n3 m3)):=hW1▸ii
 have hB2:Box W1 D (w.heap.size+1) 34 axz:=by rw[hW1];exact Box.newAt (by simp)
 have hG1:Gr none w D W1 D:=hW1▸ii
 have HW1:=hid hW1
 have:=hG1.keeps
 clear hW1 hn1 hn2 hn3 hkk hw
 go_enter func6,ntmps6
 repeat((fail_if_success (with_reducible show Code.wp _ (Code.region 1 _ _) _ _ _));go_step)
 rw[←HW1.out]
 go_wp2_with (((with_reducible show wpList _ _ _ ((⟨_,.load 34 _,_,_,_,_⟩:Oper)::_) _ _);refine wpList_load_row rfl 34 _ rfl (w.heap.size) rfl (34) _ (0,0) _ (hB1.heap) underlying34 rfl (hz34) ?_))
 refine(checkAxiom_c W1 D x _ _ _ HV.out HWF.out).mono ?_
 rintro e w2 ⟨rfl,hc2⟩
 have hB1b:Box w2 D w.heap.size 34 (axc x (.slice a1 n1 m1) (.slice a2 n2 m2) (.slice a3 n3 m3)):=ii
 have hB2b:Box w2 D (w.heap.size+1) 34 axz:=ii
 have hG2:Gr none w D w2 D:=ii
 have:=hG2.keeps
 have:=hB2b.off
 clear hB1 hB2 hG1 hc2
 have HLS0:=hid hls0
 clear hls0
 have HLO0:=hid hlo0
 clear hlo0
 have HRS0:=hid hrs0
 clear hrs0
 have HRO0:=hid hro0
 clear hro0
 have HK0:=hid hk0
 clear hk0
 ·have hok:=(chkK_zero x.k).1 h0
  have HRT:Hid (R=(tidyK x.k).map fun k=>⟨x.op,k⟩):=hid (by rw[HR.out,Ax.tidy,if_pos hok])
  have HSZ:=hid (ok_size hok)
  rw[h0]
  clear h0 hok HR
  have k0:w2.cell? ⟨w.heap.size,0,none⟩=some (.int .i64 (kn:Int)):=by rw[←HKK.out];exact(hB1b.held (i:=0) rfl).1
  have v0:=Keeps.out (D:=D) (w:=w2) _ _ _ u0
  have v1:=Keeps.out (D:=D) (w:=w2) _ _ _ u1
  have v2:=Keeps.out (D:=D) (w:=w2) _ _ _ u2
  have v3:=Keeps.out (D:=D) (w:=w2) _ _ _ u3
  have v4:=Keeps.out (D:=D) (w:=w2) _ _ _ u4
  have v5:=Keeps.out (D:=D) (w:=w2) _ _ _ u5
  have v6:=Keeps.out (D:=D) (w:=w2) _ _ _ u6
  have hk10:(kn:Int)<10:=by omega
  have h0s:0<w2.heap.size:=Keeps.lt u0
  obtain⟨W3,hW3⟩:∃W3,W3=(w2.alloc (.cells #[.bool x.k.left.isSome,.bool x.k.right.isSome,.bool c2,.bool c3,.bool c4,.int .i64 c5,.int .i64 c6] 63)).setRow (w.heap.size+1) (axc x (.slice a1 n1 m1) (.slice a2 n2 m2) (.slice a3 n3 m3)):=⟨_,rfl⟩
  have hB1c:Box (w2.alloc (.cells #[.bool x.k.left.isSome,.bool x.k.right.isSome,.bool c2,.bool c3,.bool c4,.int .i64 c5,.int .i64 c6] 63)) D w.heap.size 34 (axc x (.slice a1 n1 m1) (.slice a2 n2 m2) (.slice a3 n3 m3)):=ii
  have hB2c:Box (w2.alloc (.cells #[.bool x.k.left.isSome,.bool x.k.right.isSome,.bool c2,.bool c3,.bool c4,.int .i64 c5,.int .i64 c6] 63)) D (w.heap.size+1) 34 axz:=ii
  have hB5c:Box (w2.alloc (.cells #[.bool x.k.left.isSome,.bool x.k.right.isSome,.bool c2,.bool c3,.bool c4,.int .i64 c5,.int .i64 c6] 63)) D w2.heap.size 63 #[.bool x.k.left.isSome,.bool x.k.right.isSome,.bool c2,.bool c3,.bool c4,.int .i64 c5,.int .i64 c6]:=ii
  have hlb:=hB2b.lt
  have hn12:NeX w.heap.size (some (w.heap.size+1)):=⟨fun e=>by have:=Option.some.inj e;omega⟩
  have hn52:NeX w2.heap.size (some (w.heap.size+1)):=⟨fun e=>by have:=Option.some.inj e;omega⟩
  have hB1d:Box W3 D w.heap.size 34 (axc x (.slice a1 n1 m1) (.slice a2 n2 m2) (.slice a3 n3 m3)):=hW3▸ii
  have hB2d:Box W3 D (w.heap.size+1) 34 (axc x (.slice a1 n1 m1) (.slice a2 n2 m2) (.slice a3 n3 m3)):=hW3▸ii
  have hB5d:Box W3 D w2.heap.size 63 #[.bool x.k.left.isSome,.bool x.k.right.isSome,.bool c2,.bool c3,.bool c4,.int .i64 c5,.int .i64 c6]:=hW3▸ii
  have hG3:Gr none w D W3 D:=hW3▸ii
  have HW3:=hid hW3
  clear hW3
  go_wp2_with (first|((with_reducible show wpList _ _ _ ((⟨_,.load 34 _,_,_,_,_⟩:Oper)::_) _ _);refine wpList_load_row rfl 34 _ rfl (w.heap.size) rfl (34) _ (0,0) _ (hB1c.heap) underlying34 rfl (hz34) ?_)|(((with_reducible show wpList _ _ _ ((⟨_,.store 34 _ _,_,_,_,_⟩:Oper)::_) _ _);refine wpList_storeTo rfl 34 _ _ rfl rfl (w.heap.size+1) ((axc x (.slice a1 n1 m1) (.slice a2 n2 m2) (.slice a3 n3 m3))) rfl rfl _ (axz) (hB2c.heap) (hz34) rfl (axc_one _ _ _ _ _ _ _ _ _ _) ?_);rw[←HW3.out];refine stopL ?_))
  unfold Stop
  clear hB1b hB2b hG2 hB1c hB2c hB5c k0 v0 v1 v2 v3 v4 v5 v6 u0 u1 u2 u3 u4 u5 u6
  repeat((fail_if_success (with_reducible show Code.wp _ (Code.seq (Code.region 6 _ _) _) _ _ _));go_step)
  go_cut [3]from 6 (fun u3 wx=>∃(lo:Option C)(lq:Value)(D1:Gh),u3=.int .i64 0∧Hid (tidyO x.k.left=some lo)∧PV D1 (oP lo) lq∧Gr none w D wx D1∧Box wx D1 w.heap.size 34 (axc x (.slice a1 n1 m1) (.slice a2 n2 m2) (.slice a3 n3 m3))∧Box wx D1 (w.heap.size+1) 34 (axg x.k.kind x.op lo x.k.right lq (.slice a2 n2 m2) (.slice a3 n3 m3) x.k.role x.k.a x.k.b)∧
   Box wx D1 w2.heap.size 63 #[.bool x.k.left.isSome,.bool x.k.right.isSome,.bool c2,.bool c3,.bool c4,.int .i64 c5,.int .i64 c6])
  case first=>
   have:=hG3.keeps
   obtain⟨ol,hx⟩:∃ol,x.k.left=ol:=⟨_,rfl⟩
   cases ol with
   |none=>
    exact absurd hx HLS0.out
   |some l=>
    have hi:x.k.left.isSome=true:=by rw[hx];rfl
    have hu:W3.cell? ⟨w2.heap.size,0,none⟩=some (.bool x.k.left.isSome):=(Box.held (h:=hB5d) (i:=0) rfl).1
    rw[hi]at hu
    have q0:W3.cell? ⟨w.heap.size,2,none⟩=some (.int .i64 (oK x.k.left)):=(Box.held (h:=hB1d) (i:=2) rfl).1
    have q1:W3.cell? ⟨w.heap.size,3,none⟩=some (.string (str (oN x.k.left))):=(Box.held (h:=hB1d) (i:=3) rfl).1
    have q2:W3.cell? ⟨w.heap.size,4,none⟩=some (.int .i64 (oLo x.k.left)):=(Box.held (h:=hB1d) (i:=4) rfl).1
    have q3:W3.cell? ⟨w.heap.size,5,none⟩=some (.int .i64 (oHi x.k.left)):=(Box.held (h:=hB1d) (i:=5) rfl).1
    have q4:W3.cell? ⟨w.heap.size,6,none⟩=some (.slice a1 n1 m1):=(Box.held (h:=hB1d) (i:=6) rfl).1
    rw[hx]at q0 q1 q2 q3
    simp only[oK,oN,oLo,oHi]at q0 q1 q2 q3
    have hpl:PV D l.parts (.slice a1 n1 m1):=by have:=hl;rw[hx]at this;exact this
    have hls:=HSZ.out.1 l hx
    have HX:=hid hx
    clear hx hi
    go_wp2_with fail
    refine(tidy_c _ D l a1 n1 m1 hls hpl).mono ?_
    intro e w4 h4
    cases hq:tidyC l with
    |none=>
     exact absurd (show tidyO x.k.left=none by rw[HX.out];simp[tidyO,hq]) HLO0.out
    |some y=>
     rw[hq]at h4
     obtain⟨py,D4,rfl,hpy,hg4⟩:=h4
     obtain⟨ay,my,rfl,_,_⟩:=PV.form hpy
     have:=hg4.keeps
     have:=hg4.le
     have hB4:Box w4 D4 (w.heap.size+1) 34 (axc x (.slice a1 n1 m1) (.slice a2 n2 m2) (.slice a3 n3 m3)):=ii
     have hB14:Box w4 D4 w.heap.size 34 (axc x (.slice a1 n1 m1) (.slice a2 n2 m2) (.slice a3 n3 m3)):=ii
     have hB54:Box w4 D4 w2.heap.size 63 #[.bool x.k.left.isSome,.bool x.k.right.isSome,.bool c2,.bool c3,.bool c4,.int .i64 c5,.int .i64 c6]:=ii
     have hG4:Gr none w D w4 D4:=ii
     have:=hB4.off
     have HQ:Hid (tidyO x.k.left=some (some y)):=hid (by rw[HX.out];simp[tidyO,hq])
     clear hq
     go_wp2_with ((with_reducible show wpList _ _ _ ((⟨none,.store 31 _ _,_,_,_,_⟩:Oper)::_) _ _);refine wpList_store_mid rfl 31 _ _ rfl (w.heap.size+1) 2 (#[.int .i64 y.kind,.string (str y.nm),.int .i64 y.lo,.int .i64 y.hi,.slice ay y.parts.length my]) rfl rfl (Box.there hB4 2 5 (by show _≤16;omega)) hz31 (ccs_one _ _ _ _ _ _ _) ?_)
     go_meet
     case rel=>
      have e2:Box (((((w4.setCell ⟨w.heap.size+1,2,none⟩ (.int .i64 y.kind)).setCell ⟨w.heap.size+1,3,none⟩ (.string (str y.nm))).setCell ⟨w.heap.size+1,4,none⟩ (.int .i64 y.lo)).setCell ⟨w.heap.size+1,5,none⟩ (.int .i64 y.hi)).setCell ⟨w.heap.size+1,6,none⟩ (.slice ay y.parts.length my)) D4 (w.heap.size+1) 34 _:=ii
      have e1:Box (((((w4.setCell ⟨w.heap.size+1,2,none⟩ (.int .i64 y.kind)).setCell ⟨w.heap.size+1,3,none⟩ (.string (str y.nm))).setCell ⟨w.heap.size+1,4,none⟩ (.int .i64 y.lo)).setCell ⟨w.heap.size+1,5,none⟩ (.int .i64 y.hi)).setCell ⟨w.heap.size+1,6,none⟩ (.slice ay y.parts.length my)) D4 w.heap.size 34 (axc x (.slice a1 n1 m1) (.slice a2 n2 m2) (.slice a3 n3 m3)):=ii
      have e5:Box (((((w4.setCell ⟨w.heap.size+1,2,none⟩ (.int .i64 y.kind)).setCell ⟨w.heap.size+1,3,none⟩ (.string (str y.nm))).setCell ⟨w.heap.size+1,4,none⟩ (.int .i64 y.lo)).setCell ⟨w.heap.size+1,5,none⟩ (.int .i64 y.hi)).setCell ⟨w.heap.size+1,6,none⟩ (.slice ay y.parts.length my)) D4 w2.heap.size 63 #[.bool x.k.left.isSome,.bool x.k.right.isSome,.bool c2,.bool c3,.bool c4,.int .i64 c5,.int .i64 c6]:=ii
      have eg:Gr none w D (((((w4.setCell ⟨w.heap.size+1,2,none⟩ (.int .i64 y.kind)).setCell ⟨w.heap.size+1,3,none⟩ (.string (str y.nm))).setCell ⟨w.heap.size+1,4,none⟩ (.int .i64 y.lo)).setCell ⟨w.heap.size+1,5,none⟩ (.int .i64 y.hi)).setCell ⟨w.heap.size+1,6,none⟩ (.slice ay y.parts.length my)) D4:=ii
      exact⟨some y,.slice ay y.parts.length my,D4,rfl,HQ,hpy,eg,e1,e2,e5⟩
  case rest=>
   obtain⟨lo,lq,D1,rfl,HLO,hlq,hGc,hB1e,hB2e,hB5e⟩:=hcut
   obtain⟨lqa,lqm,rfl,_,_⟩:=PV.form hlq
   generalize hln:(oP lo).length=lqn at*
   have:=hGc.keeps
   have:=gr_le hGc
   have hr1:PV D1 (oP x.k.right) (.slice a2 n2 m2):=ii
   have:=hB2e.off
   clear hG3 hB1d hB2d hB5d HW1 HW3 hln
   repeat((fail_if_success (with_reducible show Code.wp _ (Code.seq (Code.region 10 _ _) _) _ _ _));go_step)
   go_cut [3]from 6 (fun u3 wx=>∃(ro:Option C)(rq:Value)(D2:Gh),u3=.int .i64 0∧Hid (tidyO x.k.right=some ro)∧PV D2 (oP lo) (.slice lqa lqn lqm)∧PV D2 (oP ro) rq∧Gr none w D wx D2∧Box wx D2 w.heap.size 34 (axc x (.slice a1 n1 m1) (.slice a2 n2 m2) (.slice a3 n3 m3))∧Box wx D2 (w.heap.size+1) 34 (axg x.k.kind x.op lo ro (.slice lqa lqn lqm) rq (.slice a3 n3 m3) x.k.role x.k.a x.k.b))
   case first=>
    obtain⟨ol,hx⟩:∃ol,x.k.right=ol:=⟨_,rfl⟩
    cases ol with
    |none=>
     exact absurd hx HRS0.out
    |some l=>
     have hi:x.k.right.isSome=true:=by rw[hx];rfl
     have hu:wc.cell? ⟨w2.heap.size,1,none⟩=some (.bool x.k.right.isSome):=(Box.held (h:=hB5e) (i:=1) rfl).1
     rw[hi]at hu
     have q0:wc.cell? ⟨w.heap.size,7,none⟩=some (.int .i64 (oK x.k.right)):=(Box.held (h:=hB1e) (i:=7) rfl).1
     have q1:wc.cell? ⟨w.heap.size,8,none⟩=some (.string (str (oN x.k.right))):=(Box.held (h:=hB1e) (i:=8) rfl).1
     have q2:wc.cell? ⟨w.heap.size,9,none⟩=some (.int .i64 (oLo x.k.right)):=(Box.held (h:=hB1e) (i:=9) rfl).1
     have q3:wc.cell? ⟨w.heap.size,10,none⟩=some (.int .i64 (oHi x.k.right)):=(Box.held (h:=hB1e) (i:=10) rfl).1
     have q4:wc.cell? ⟨w.heap.size,11,none⟩=some (.slice a2 n2 m2):=(Box.held (h:=hB1e) (i:=11) rfl).1
     rw[hx]at q0 q1 q2 q3
     simp only[oK,oN,oLo,oHi]at q0 q1 q2 q3
     have hpl:PV D1 l.parts (.slice a2 n2 m2):=by have:=hr1;rw[hx]at this;exact this
     have hls:=HSZ.out.2 l hx
     have HX:=hid hx
     clear hx hi
     go_wp2_with fail
     refine(tidy_c _ D1 l a2 n2 m2 hls hpl).mono ?_
     intro e w4 h4
     cases hq:tidyC l with
     |none=>
      exact absurd (show tidyO x.k.right=none by rw[HX.out];simp[tidyO,hq]) HRO0.out
     |some y=>
      rw[hq]at h4
      obtain⟨py,D4,rfl,hpy,hg4⟩:=h4
      obtain⟨ay,my,rfl,_,_⟩:=PV.form hpy
      have:=hg4.keeps
      have:=hg4.le
      have hB4:Box w4 D4 (w.heap.size+1) 34 (axg x.k.kind x.op lo x.k.right (.slice lqa lqn lqm) (.slice a2 n2 m2) (.slice a3 n3 m3) x.k.role x.k.a x.k.b):=ii
      have hB14:Box w4 D4 w.heap.size 34 (axc x (.slice a1 n1 m1) (.slice a2 n2 m2) (.slice a3 n3 m3)):=ii
      have hB54:Box w4 D4 w2.heap.size 63 #[.bool x.k.left.isSome,.bool x.k.right.isSome,.bool c2,.bool c3,.bool c4,.int .i64 c5,.int .i64 c6]:=ii
      have hG4:Gr none w D w4 D4:=ii
      have:=hB4.off
      have HQ:Hid (tidyO x.k.right=some (some y)):=hid (by rw[HX.out];simp[tidyO,hq])
      clear hq
      go_wp2_with ((with_reducible show wpList _ _ _ ((⟨none,.store 31 _ _,_,_,_,_⟩:Oper)::_) _ _);refine wpList_store_mid rfl 31 _ _ rfl (w.heap.size+1) 7 (#[.int .i64 y.kind,.string (str y.nm),.int .i64 y.lo,.int .i64 y.hi,.slice ay y.parts.length my]) rfl rfl (Box.there hB4 7 5 (by show _≤16;omega)) hz31 (ccs_one _ _ _ _ _ _ _) ?_)
      go_meet
      case rel=>
       have e2:Box (((((w4.setCell ⟨w.heap.size+1,7,none⟩ (.int .i64 y.kind)).setCell ⟨w.heap.size+1,8,none⟩ (.string (str y.nm))).setCell ⟨w.heap.size+1,9,none⟩ (.int .i64 y.lo)).setCell ⟨w.heap.size+1,10,none⟩ (.int .i64 y.hi)).setCell ⟨w.heap.size+1,11,none⟩ (.slice ay y.parts.length my)) D4 (w.heap.size+1) 34 _:=ii
       have e1:Box (((((w4.setCell ⟨w.heap.size+1,7,none⟩ (.int .i64 y.kind)).setCell ⟨w.heap.size+1,8,none⟩ (.string (str y.nm))).setCell ⟨w.heap.size+1,9,none⟩ (.int .i64 y.lo)).setCell ⟨w.heap.size+1,10,none⟩ (.int .i64 y.hi)).setCell ⟨w.heap.size+1,11,none⟩ (.slice ay y.parts.length my)) D4 w.heap.size 34 (axc x (.slice a1 n1 m1) (.slice a2 n2 m2) (.slice a3 n3 m3)):=ii
       have e5:Box (((((w4.setCell ⟨w.heap.size+1,7,none⟩ (.int .i64 y.kind)).setCell ⟨w.heap.size+1,8,none⟩ (.string (str y.nm))).setCell ⟨w.heap.size+1,9,none⟩ (.int .i64 y.lo)).setCell ⟨w.heap.size+1,10,none⟩ (.int .i64 y.hi)).setCell ⟨w.heap.size+1,11,none⟩ (.slice ay y.parts.length my)) D4 w2.heap.size 63 #[.bool x.k.left.isSome,.bool x.k.right.isSome,.bool c2,.bool c3,.bool c4,.int .i64 c5,.int .i64 c6]:=ii
       have eg:Gr none w D (((((w4.setCell ⟨w.heap.size+1,7,none⟩ (.int .i64 y.kind)).setCell ⟨w.heap.size+1,8,none⟩ (.string (str y.nm))).setCell ⟨w.heap.size+1,9,none⟩ (.int .i64 y.lo)).setCell ⟨w.heap.size+1,10,none⟩ (.int .i64 y.hi)).setCell ⟨w.heap.size+1,11,none⟩ (.slice ay y.parts.length my)) D4:=ii
       exact⟨some y,.slice ay y.parts.length my,D4,rfl,HQ,ii,hpy,eg,e1,e2⟩
   case rest=>
    obtain⟨ro,rq,D2,rfl,HRO,hlq2,hrq,hGe,hB1f,hB2f⟩:=hcut
    obtain⟨rqa,rqm,rfl,_,_⟩:=PV.form hrq
    generalize hrn:(oP ro).length=rqn at*
    have:=hGe.keeps
    have:=gr_le hGe
    have:=hB2f.off
    have hs2:SV D2 x.k.roles (.slice a3 n3 m3):=hs.le
    have k0:wc.cell? ⟨w.heap.size,0,none⟩=some (.int .i64 (kn:Int)):=by rw[←HKK.out];exact(hB1f.held (i:=0) rfl).1
    clear hGc hB1e hB2e hB5e hrn hlq hr1
    have h23:¬(kn=2∨kn=3):=by have:=HKK.out;have:=HK0.out;omega
    have e2:((kn:Int)==2)=false:=beq_eq_false_iff_ne.2 (by omega)
    have e3:((kn:Int)==3)=false:=beq_eq_false_iff_ne.2 (by omega)
    have HSW:Hid (swapK x.k lo ro=false):=hid (by
     have hk:=HKK.out
     simp[swapK,hk,e2,e3])
    clear h23
    go_wp2_with (first|((with_reducible show wpList _ _ _ ((⟨_,.load 34 _,_,_,_,_⟩:Oper)::_) _ _);refine wpList_load_row rfl 34 _ rfl (w.heap.size+1) rfl (34) _ (0,0) _ (hB2f.heap) underlying34 rfl (hz34) ?_)|((with_reducible show wpList _ _ _ ((⟨_,.store 34 _ _,_,_,_,_⟩:Oper)::_) _ _);refine wpList_storeTo rfl 34 _ _ rfl rfl (w.heap.size+1) ((axg x.k.kind x.op lo ro (.slice lqa lqn lqm) (.slice rqa rqn rqm) (.slice a3 n3 m3) x.k.role x.k.a x.k.b)) rfl rfl _ ((axg x.k.kind x.op lo ro (.slice lqa lqn lqm) (.slice rqa rqn rqm) (.slice a3 n3 m3) x.k.role x.k.a x.k.b)) (hB2f.heap) (hz34) rfl (axg_one _ _ _ _ _ _ _ _ _ _ _ _ _ _ _ _) ?_))
    have hBz:Box (wc.setRow (w.heap.size+1) (axg x.k.kind x.op lo ro (.slice lqa lqn lqm) (.slice rqa rqn rqm) (.slice a3 n3 m3) x.k.role x.k.a x.k.b)) D2 (w.heap.size+1) 34 (axg x.k.kind x.op lo ro (.slice lqa lqn lqm) (.slice rqa rqn rqm) (.slice a3 n3 m3) x.k.role x.k.a x.k.b):=ii
    have hGz:Gr none w D (wc.setRow (w.heap.size+1) (axg x.k.kind x.op lo ro (.slice lqa lqn lqm) (.slice rqa rqn rqm) (.slice a3 n3 m3) x.k.role x.k.a x.k.b)) D2:=ii
    refine bodyPost_ret (v:=.tuple #[.agg (axg x.k.kind x.op lo ro (.slice lqa lqn lqm) (.slice rqa rqn rqm) (.slice a3 n3 m3) x.k.role x.k.a x.k.b),.int .i64 0]) ?_ rfl ?_
    ·simp[results,results6,go_sem,Box.cell (h:=hBz)]
    ·obtain⟨y,hy,e1,e2,e3,e4,e5,e6,e7⟩:=tidyK_of HLO.out HRO.out
     rw[HSW.out]at e6 e7
     exact ta_ret (by rw[HRT.out,hy];rfl) e1 e2 e3 e4 e5 e6 e7 hlq2 hrq hs2
theorem tidyAx5(w:World)(D:Gh)(x:Ax)(lp rp rl:Value)(hv:AV D x lp rp rl)(hw:x.k.wf)(h0:chkK x.k=0)(hls0:x.k.left≠none)(hlo0:tidyO x.k.left≠none)(hrs0:x.k.right≠none)(hro0:tidyO x.k.right≠none)(hk0:x.k.kind=2)[hk:Keeps D w][hT:TB D]:
  Calls prog 6 #[.agg (axc x lp rp rl)] w (TARet w D x.tidy):=by
 obtain⟨R,hR⟩:∃R,R=x.tidy:=⟨_,rfl⟩
 rw[←hR]
 have HR:=hid hR
 clear hR
 have HV:=hid hv
 have HWF:=hid hw
 obtain⟨hl,hr,hs⟩:=hv
 obtain⟨a1,m1,rfl,_,_⟩:=PV.form hl
 obtain⟨a2,m2,rfl,_,_⟩:=PV.form hr
 obtain⟨a3,m3,rfl,_,_⟩:=SlN.form hs
 generalize hn1:(oP x.k.left).length=n1 at*
 generalize hn2:(oP x.k.right).length=n2 at*
 generalize hn3:x.k.roles.length=n3 at*
 obtain⟨kn,c2,c3,c4,c5,c6,hkk,hkn,u0,u1,u2,u3,u4,u5,u6⟩:=usesAt (D:=D) x.k
 have HKK:=hid hkk
 obtain⟨W1,hW1⟩:∃W1,W1=(w.alloc (.cells (axc x (.slice a1 n1 m1) (.slice a2 n2 m2) (.slice a3 n3 m3)) 34)).alloc (.cells axz 34):=⟨_,rfl⟩
 have hB1:Box W1 D w.heap.size 34 (axc x (.slice a1 n1 m1) (.slice a2 n2 m2) (.slice a3 n3 m3)):=hW1▸ii
 have hB2:Box W1 D (w.heap.size+1) 34 axz:=by rw[hW1];exact Box.newAt (by simp)
 have hG1:Gr none w D W1 D:=hW1▸ii
 have HW1:=hid hW1
 have:=hG1.keeps
 clear hW1 hn1 hn2 hn3 hkk hw
 go_enter func6,ntmps6
 repeat((fail_if_success (with_reducible show Code.wp _ (Code.region 1 _ _) _ _ _));go_step)
 rw[←HW1.out]
 go_wp2_with (((with_reducible show wpList _ _ _ ((⟨_,.load 34 _,_,_,_,_⟩:Oper)::_) _ _);refine wpList_load_row rfl 34 _ rfl (w.heap.size) rfl (34) _ (0,0) _ (hB1.heap) underlying34 rfl (hz34) ?_))
 refine(checkAxiom_c W1 D x _ _ _ HV.out HWF.out).mono ?_
 rintro e w2 ⟨rfl,hc2⟩
 have hB1b:Box w2 D w.heap.size 34 (axc x (.slice a1 n1 m1) (.slice a2 n2 m2) (.slice a3 n3 m3)):=ii
 have hB2b:Box w2 D (w.heap.size+1) 34 axz:=ii
 have hG2:Gr none w D w2 D:=ii
 have:=hG2.keeps
 have:=hB2b.off
 clear hB1 hB2 hG1 hc2
 have HLS0:=hid hls0
 clear hls0
 have HLO0:=hid hlo0
 clear hlo0
 have HRS0:=hid hrs0
 clear hrs0
 have HRO0:=hid hro0
 clear hro0
 have HK0:=hid hk0
 clear hk0
 ·have hok:=(chkK_zero x.k).1 h0
  have HRT:Hid (R=(tidyK x.k).map fun k=>⟨x.op,k⟩):=hid (by rw[HR.out,Ax.tidy,if_pos hok])
  have HSZ:=hid (ok_size hok)
  rw[h0]
  clear h0 hok HR
  have k0:w2.cell? ⟨w.heap.size,0,none⟩=some (.int .i64 (kn:Int)):=by rw[←HKK.out];exact(hB1b.held (i:=0) rfl).1
  have v0:=Keeps.out (D:=D) (w:=w2) _ _ _ u0
  have v1:=Keeps.out (D:=D) (w:=w2) _ _ _ u1
  have v2:=Keeps.out (D:=D) (w:=w2) _ _ _ u2
  have v3:=Keeps.out (D:=D) (w:=w2) _ _ _ u3
  have v4:=Keeps.out (D:=D) (w:=w2) _ _ _ u4
  have v5:=Keeps.out (D:=D) (w:=w2) _ _ _ u5
  have v6:=Keeps.out (D:=D) (w:=w2) _ _ _ u6
  have hk10:(kn:Int)<10:=by omega
  have h0s:0<w2.heap.size:=Keeps.lt u0
  obtain⟨W3,hW3⟩:∃W3,W3=(w2.alloc (.cells #[.bool x.k.left.isSome,.bool x.k.right.isSome,.bool c2,.bool c3,.bool c4,.int .i64 c5,.int .i64 c6] 63)).setRow (w.heap.size+1) (axc x (.slice a1 n1 m1) (.slice a2 n2 m2) (.slice a3 n3 m3)):=⟨_,rfl⟩
  have hB1c:Box (w2.alloc (.cells #[.bool x.k.left.isSome,.bool x.k.right.isSome,.bool c2,.bool c3,.bool c4,.int .i64 c5,.int .i64 c6] 63)) D w.heap.size 34 (axc x (.slice a1 n1 m1) (.slice a2 n2 m2) (.slice a3 n3 m3)):=ii
  have hB2c:Box (w2.alloc (.cells #[.bool x.k.left.isSome,.bool x.k.right.isSome,.bool c2,.bool c3,.bool c4,.int .i64 c5,.int .i64 c6] 63)) D (w.heap.size+1) 34 axz:=ii
  have hB5c:Box (w2.alloc (.cells #[.bool x.k.left.isSome,.bool x.k.right.isSome,.bool c2,.bool c3,.bool c4,.int .i64 c5,.int .i64 c6] 63)) D w2.heap.size 63 #[.bool x.k.left.isSome,.bool x.k.right.isSome,.bool c2,.bool c3,.bool c4,.int .i64 c5,.int .i64 c6]:=ii
  have hlb:=hB2b.lt
  have hn12:NeX w.heap.size (some (w.heap.size+1)):=⟨fun e=>by have:=Option.some.inj e;omega⟩
  have hn52:NeX w2.heap.size (some (w.heap.size+1)):=⟨fun e=>by have:=Option.some.inj e;omega⟩
  have hB1d:Box W3 D w.heap.size 34 (axc x (.slice a1 n1 m1) (.slice a2 n2 m2) (.slice a3 n3 m3)):=hW3▸ii
  have hB2d:Box W3 D (w.heap.size+1) 34 (axc x (.slice a1 n1 m1) (.slice a2 n2 m2) (.slice a3 n3 m3)):=hW3▸ii
  have hB5d:Box W3 D w2.heap.size 63 #[.bool x.k.left.isSome,.bool x.k.right.isSome,.bool c2,.bool c3,.bool c4,.int .i64 c5,.int .i64 c6]:=hW3▸ii
  have hG3:Gr none w D W3 D:=hW3▸ii
  have HW3:=hid hW3
  clear hW3
  go_wp2_with (first|((with_reducible show wpList _ _ _ ((⟨_,.load 34 _,_,_,_,_⟩:Oper)::_) _ _);refine wpList_load_row rfl 34 _ rfl (w.heap.size) rfl (34) _ (0,0) _ (hB1c.heap) underlying34 rfl (hz34) ?_)|(((with_reducible show wpList _ _ _ ((⟨_,.store 34 _ _,_,_,_,_⟩:Oper)::_) _ _);refine wpList_storeTo rfl 34 _ _ rfl rfl (w.heap.size+1) ((axc x (.slice a1 n1 m1) (.slice a2 n2 m2) (.slice a3 n3 m3))) rfl rfl _ (axz) (hB2c.heap) (hz34) rfl (axc_one _ _ _ _ _ _ _ _ _ _) ?_);rw[←HW3.out];refine stopL ?_))
  unfold Stop
  clear hB1b hB2b hG2 hB1c hB2c hB5c k0 v0 v1 v2 v3 v4 v5 v6 u0 u1 u2 u3 u4 u5 u6
  repeat((fail_if_success (with_reducible show Code.wp _ (Code.seq (Code.region 6 _ _) _) _ _ _));go_step)
  go_cut [3]from 6 (fun u3 wx=>∃(lo:Option C)(lq:Value)(D1:Gh),u3=.int .i64 0∧Hid (tidyO x.k.left=some lo)∧PV D1 (oP lo) lq∧Gr none w D wx D1∧Box wx D1 w.heap.size 34 (axc x (.slice a1 n1 m1) (.slice a2 n2 m2) (.slice a3 n3 m3))∧Box wx D1 (w.heap.size+1) 34 (axg x.k.kind x.op lo x.k.right lq (.slice a2 n2 m2) (.slice a3 n3 m3) x.k.role x.k.a x.k.b)∧
   Box wx D1 w2.heap.size 63 #[.bool x.k.left.isSome,.bool x.k.right.isSome,.bool c2,.bool c3,.bool c4,.int .i64 c5,.int .i64 c6])
  case first=>
   have:=hG3.keeps
   obtain⟨ol,hx⟩:∃ol,x.k.left=ol:=⟨_,rfl⟩
   cases ol with
   |none=>
    exact absurd hx HLS0.out
   |some l=>
    have hi:x.k.left.isSome=true:=by rw[hx];rfl
    have hu:W3.cell? ⟨w2.heap.size,0,none⟩=some (.bool x.k.left.isSome):=(Box.held (h:=hB5d) (i:=0) rfl).1
    rw[hi]at hu
    have q0:W3.cell? ⟨w.heap.size,2,none⟩=some (.int .i64 (oK x.k.left)):=(Box.held (h:=hB1d) (i:=2) rfl).1
    have q1:W3.cell? ⟨w.heap.size,3,none⟩=some (.string (str (oN x.k.left))):=(Box.held (h:=hB1d) (i:=3) rfl).1
    have q2:W3.cell? ⟨w.heap.size,4,none⟩=some (.int .i64 (oLo x.k.left)):=(Box.held (h:=hB1d) (i:=4) rfl).1
    have q3:W3.cell? ⟨w.heap.size,5,none⟩=some (.int .i64 (oHi x.k.left)):=(Box.held (h:=hB1d) (i:=5) rfl).1
    have q4:W3.cell? ⟨w.heap.size,6,none⟩=some (.slice a1 n1 m1):=(Box.held (h:=hB1d) (i:=6) rfl).1
    rw[hx]at q0 q1 q2 q3
    simp only[oK,oN,oLo,oHi]at q0 q1 q2 q3
    have hpl:PV D l.parts (.slice a1 n1 m1):=by have:=hl;rw[hx]at this;exact this
    have hls:=HSZ.out.1 l hx
    have HX:=hid hx
    clear hx hi
    go_wp2_with fail
    refine(tidy_c _ D l a1 n1 m1 hls hpl).mono ?_
    intro e w4 h4
    cases hq:tidyC l with
    |none=>
     exact absurd (show tidyO x.k.left=none by rw[HX.out];simp[tidyO,hq]) HLO0.out
    |some y=>
     rw[hq]at h4
     obtain⟨py,D4,rfl,hpy,hg4⟩:=h4
     obtain⟨ay,my,rfl,_,_⟩:=PV.form hpy
     have:=hg4.keeps
     have:=hg4.le
     have hB4:Box w4 D4 (w.heap.size+1) 34 (axc x (.slice a1 n1 m1) (.slice a2 n2 m2) (.slice a3 n3 m3)):=ii
     have hB14:Box w4 D4 w.heap.size 34 (axc x (.slice a1 n1 m1) (.slice a2 n2 m2) (.slice a3 n3 m3)):=ii
     have hB54:Box w4 D4 w2.heap.size 63 #[.bool x.k.left.isSome,.bool x.k.right.isSome,.bool c2,.bool c3,.bool c4,.int .i64 c5,.int .i64 c6]:=ii
     have hG4:Gr none w D w4 D4:=ii
     have:=hB4.off
     have HQ:Hid (tidyO x.k.left=some (some y)):=hid (by rw[HX.out];simp[tidyO,hq])
     clear hq
     go_wp2_with ((with_reducible show wpList _ _ _ ((⟨none,.store 31 _ _,_,_,_,_⟩:Oper)::_) _ _);refine wpList_store_mid rfl 31 _ _ rfl (w.heap.size+1) 2 (#[.int .i64 y.kind,.string (str y.nm),.int .i64 y.lo,.int .i64 y.hi,.slice ay y.parts.length my]) rfl rfl (Box.there hB4 2 5 (by show _≤16;omega)) hz31 (ccs_one _ _ _ _ _ _ _) ?_)
     go_meet
     case rel=>
      have e2:Box (((((w4.setCell ⟨w.heap.size+1,2,none⟩ (.int .i64 y.kind)).setCell ⟨w.heap.size+1,3,none⟩ (.string (str y.nm))).setCell ⟨w.heap.size+1,4,none⟩ (.int .i64 y.lo)).setCell ⟨w.heap.size+1,5,none⟩ (.int .i64 y.hi)).setCell ⟨w.heap.size+1,6,none⟩ (.slice ay y.parts.length my)) D4 (w.heap.size+1) 34 _:=ii
      have e1:Box (((((w4.setCell ⟨w.heap.size+1,2,none⟩ (.int .i64 y.kind)).setCell ⟨w.heap.size+1,3,none⟩ (.string (str y.nm))).setCell ⟨w.heap.size+1,4,none⟩ (.int .i64 y.lo)).setCell ⟨w.heap.size+1,5,none⟩ (.int .i64 y.hi)).setCell ⟨w.heap.size+1,6,none⟩ (.slice ay y.parts.length my)) D4 w.heap.size 34 (axc x (.slice a1 n1 m1) (.slice a2 n2 m2) (.slice a3 n3 m3)):=ii
      have e5:Box (((((w4.setCell ⟨w.heap.size+1,2,none⟩ (.int .i64 y.kind)).setCell ⟨w.heap.size+1,3,none⟩ (.string (str y.nm))).setCell ⟨w.heap.size+1,4,none⟩ (.int .i64 y.lo)).setCell ⟨w.heap.size+1,5,none⟩ (.int .i64 y.hi)).setCell ⟨w.heap.size+1,6,none⟩ (.slice ay y.parts.length my)) D4 w2.heap.size 63 #[.bool x.k.left.isSome,.bool x.k.right.isSome,.bool c2,.bool c3,.bool c4,.int .i64 c5,.int .i64 c6]:=ii
      have eg:Gr none w D (((((w4.setCell ⟨w.heap.size+1,2,none⟩ (.int .i64 y.kind)).setCell ⟨w.heap.size+1,3,none⟩ (.string (str y.nm))).setCell ⟨w.heap.size+1,4,none⟩ (.int .i64 y.lo)).setCell ⟨w.heap.size+1,5,none⟩ (.int .i64 y.hi)).setCell ⟨w.heap.size+1,6,none⟩ (.slice ay y.parts.length my)) D4:=ii
      exact⟨some y,.slice ay y.parts.length my,D4,rfl,HQ,hpy,eg,e1,e2,e5⟩
  case rest=>
   obtain⟨lo,lq,D1,rfl,HLO,hlq,hGc,hB1e,hB2e,hB5e⟩:=hcut
   obtain⟨lqa,lqm,rfl,_,_⟩:=PV.form hlq
   generalize hln:(oP lo).length=lqn at*
   have:=hGc.keeps
   have:=gr_le hGc
   have hr1:PV D1 (oP x.k.right) (.slice a2 n2 m2):=ii
   have:=hB2e.off
   clear hG3 hB1d hB2d hB5d HW1 HW3 hln
   repeat((fail_if_success (with_reducible show Code.wp _ (Code.seq (Code.region 10 _ _) _) _ _ _));go_step)
   go_cut [3]from 6 (fun u3 wx=>∃(ro:Option C)(rq:Value)(D2:Gh),u3=.int .i64 0∧Hid (tidyO x.k.right=some ro)∧PV D2 (oP lo) (.slice lqa lqn lqm)∧PV D2 (oP ro) rq∧Gr none w D wx D2∧Box wx D2 w.heap.size 34 (axc x (.slice a1 n1 m1) (.slice a2 n2 m2) (.slice a3 n3 m3))∧Box wx D2 (w.heap.size+1) 34 (axg x.k.kind x.op lo ro (.slice lqa lqn lqm) rq (.slice a3 n3 m3) x.k.role x.k.a x.k.b))
   case first=>
    obtain⟨ol,hx⟩:∃ol,x.k.right=ol:=⟨_,rfl⟩
    cases ol with
    |none=>
     exact absurd hx HRS0.out
    |some l=>
     have hi:x.k.right.isSome=true:=by rw[hx];rfl
     have hu:wc.cell? ⟨w2.heap.size,1,none⟩=some (.bool x.k.right.isSome):=(Box.held (h:=hB5e) (i:=1) rfl).1
     rw[hi]at hu
     have q0:wc.cell? ⟨w.heap.size,7,none⟩=some (.int .i64 (oK x.k.right)):=(Box.held (h:=hB1e) (i:=7) rfl).1
     have q1:wc.cell? ⟨w.heap.size,8,none⟩=some (.string (str (oN x.k.right))):=(Box.held (h:=hB1e) (i:=8) rfl).1
     have q2:wc.cell? ⟨w.heap.size,9,none⟩=some (.int .i64 (oLo x.k.right)):=(Box.held (h:=hB1e) (i:=9) rfl).1
     have q3:wc.cell? ⟨w.heap.size,10,none⟩=some (.int .i64 (oHi x.k.right)):=(Box.held (h:=hB1e) (i:=10) rfl).1
     have q4:wc.cell? ⟨w.heap.size,11,none⟩=some (.slice a2 n2 m2):=(Box.held (h:=hB1e) (i:=11) rfl).1
     rw[hx]at q0 q1 q2 q3
     simp only[oK,oN,oLo,oHi]at q0 q1 q2 q3
     have hpl:PV D1 l.parts (.slice a2 n2 m2):=by have:=hr1;rw[hx]at this;exact this
     have hls:=HSZ.out.2 l hx
     have HX:=hid hx
     clear hx hi
     go_wp2_with fail
     refine(tidy_c _ D1 l a2 n2 m2 hls hpl).mono ?_
     intro e w4 h4
     cases hq:tidyC l with
     |none=>
      exact absurd (show tidyO x.k.right=none by rw[HX.out];simp[tidyO,hq]) HRO0.out
     |some y=>
      rw[hq]at h4
      obtain⟨py,D4,rfl,hpy,hg4⟩:=h4
      obtain⟨ay,my,rfl,_,_⟩:=PV.form hpy
      have:=hg4.keeps
      have:=hg4.le
      have hB4:Box w4 D4 (w.heap.size+1) 34 (axg x.k.kind x.op lo x.k.right (.slice lqa lqn lqm) (.slice a2 n2 m2) (.slice a3 n3 m3) x.k.role x.k.a x.k.b):=ii
      have hB14:Box w4 D4 w.heap.size 34 (axc x (.slice a1 n1 m1) (.slice a2 n2 m2) (.slice a3 n3 m3)):=ii
      have hB54:Box w4 D4 w2.heap.size 63 #[.bool x.k.left.isSome,.bool x.k.right.isSome,.bool c2,.bool c3,.bool c4,.int .i64 c5,.int .i64 c6]:=ii
      have hG4:Gr none w D w4 D4:=ii
      have:=hB4.off
      have HQ:Hid (tidyO x.k.right=some (some y)):=hid (by rw[HX.out];simp[tidyO,hq])
      clear hq
      go_wp2_with ((with_reducible show wpList _ _ _ ((⟨none,.store 31 _ _,_,_,_,_⟩:Oper)::_) _ _);refine wpList_store_mid rfl 31 _ _ rfl (w.heap.size+1) 7 (#[.int .i64 y.kind,.string (str y.nm),.int .i64 y.lo,.int .i64 y.hi,.slice ay y.parts.length my]) rfl rfl (Box.there hB4 7 5 (by show _≤16;omega)) hz31 (ccs_one _ _ _ _ _ _ _) ?_)
      go_meet
      case rel=>
       have e2:Box (((((w4.setCell ⟨w.heap.size+1,7,none⟩ (.int .i64 y.kind)).setCell ⟨w.heap.size+1,8,none⟩ (.string (str y.nm))).setCell ⟨w.heap.size+1,9,none⟩ (.int .i64 y.lo)).setCell ⟨w.heap.size+1,10,none⟩ (.int .i64 y.hi)).setCell ⟨w.heap.size+1,11,none⟩ (.slice ay y.parts.length my)) D4 (w.heap.size+1) 34 _:=ii
       have e1:Box (((((w4.setCell ⟨w.heap.size+1,7,none⟩ (.int .i64 y.kind)).setCell ⟨w.heap.size+1,8,none⟩ (.string (str y.nm))).setCell ⟨w.heap.size+1,9,none⟩ (.int .i64 y.lo)).setCell ⟨w.heap.size+1,10,none⟩ (.int .i64 y.hi)).setCell ⟨w.heap.size+1,11,none⟩ (.slice ay y.parts.length my)) D4 w.heap.size 34 (axc x (.slice a1 n1 m1) (.slice a2 n2 m2) (.slice a3 n3 m3)):=ii
       have e5:Box (((((w4.setCell ⟨w.heap.size+1,7,none⟩ (.int .i64 y.kind)).setCell ⟨w.heap.size+1,8,none⟩ (.string (str y.nm))).setCell ⟨w.heap.size+1,9,none⟩ (.int .i64 y.lo)).setCell ⟨w.heap.size+1,10,none⟩ (.int .i64 y.hi)).setCell ⟨w.heap.size+1,11,none⟩ (.slice ay y.parts.length my)) D4 w2.heap.size 63 #[.bool x.k.left.isSome,.bool x.k.right.isSome,.bool c2,.bool c3,.bool c4,.int .i64 c5,.int .i64 c6]:=ii
       have eg:Gr none w D (((((w4.setCell ⟨w.heap.size+1,7,none⟩ (.int .i64 y.kind)).setCell ⟨w.heap.size+1,8,none⟩ (.string (str y.nm))).setCell ⟨w.heap.size+1,9,none⟩ (.int .i64 y.lo)).setCell ⟨w.heap.size+1,10,none⟩ (.int .i64 y.hi)).setCell ⟨w.heap.size+1,11,none⟩ (.slice ay y.parts.length my)) D4:=ii
       exact⟨some y,.slice ay y.parts.length my,D4,rfl,HQ,ii,hpy,eg,e1,e2⟩
   case rest=>
    obtain⟨ro,rq,D2,rfl,HRO,hlq2,hrq,hGe,hB1f,hB2f⟩:=hcut
    obtain⟨rqa,rqm,rfl,_,_⟩:=PV.form hrq
    generalize hrn:(oP ro).length=rqn at*
    have:=hGe.keeps
    have:=gr_le hGe
    have:=hB2f.off
    have hs2:SV D2 x.k.roles (.slice a3 n3 m3):=hs.le
    have k0:wc.cell? ⟨w.heap.size,0,none⟩=some (.int .i64 (kn:Int)):=by rw[←HKK.out];exact(hB1f.held (i:=0) rfl).1
    clear hGc hB1e hB2e hB5e hrn hlq hr1
    have h23:kn=2∨kn=3:=by have:=HKK.out;have:=HK0.out;omega
    obtain⟨l,r,hlo,hro,hls,hrs⟩:∃l r,lo=some l∧ro=some r∧l.size≤1000∧r.size≤1000:=by
     have h1:=HLO.out
     have h2:=HRO.out
     have hk:=HKK.out
     have hsz:=HSZ.out
     revert h1 h2 hk hsz
     cases x.k<;>intro h1 h2 hk hsz<;>simp only[K.kind]at hk<;>first|omega|skip
     all_goals
      simp only[K.left,K.right,tidyO,Option.map_eq_some_iff]at h1 h2
      obtain⟨l,hl1,rfl⟩:=h1
      obtain⟨r,hr1,rfl⟩:=h2
      have:=hsz.1 _ rfl
      have:=hsz.2 _ rfl
      have:=(tidyC_of hl1).size
      have:=(tidyC_of hr1).size
      exact⟨l,r,rfl,rfl,by omega,by omega⟩
    subst hlo hro
    have hlp:PV D2 l.parts (.slice lqa lqn lqm):=hlq2
    have hrp:PV D2 r.parts (.slice rqa rqn rqm):=hrq
    have l0:wc.cell? ⟨w.heap.size+1,2,none⟩=some (.int .i64 l.kind):=(hB2f.held (i:=2) rfl).1
    have l1:wc.cell? ⟨w.heap.size+1,3,none⟩=some (.string (str l.nm)):=(hB2f.held (i:=3) rfl).1
    have l2:wc.cell? ⟨w.heap.size+1,4,none⟩=some (.int .i64 l.lo):=(hB2f.held (i:=4) rfl).1
    have l3:wc.cell? ⟨w.heap.size+1,5,none⟩=some (.int .i64 l.hi):=(hB2f.held (i:=5) rfl).1
    have l4:wc.cell? ⟨w.heap.size+1,6,none⟩=some (.slice lqa lqn lqm):=(hB2f.held (i:=6) rfl).1
    have r0:wc.cell? ⟨w.heap.size+1,7,none⟩=some (.int .i64 r.kind):=(hB2f.held (i:=7) rfl).1
    have r1:wc.cell? ⟨w.heap.size+1,8,none⟩=some (.string (str r.nm)):=(hB2f.held (i:=8) rfl).1
    have r2:wc.cell? ⟨w.heap.size+1,9,none⟩=some (.int .i64 r.lo):=(hB2f.held (i:=9) rfl).1
    have r3:wc.cell? ⟨w.heap.size+1,10,none⟩=some (.int .i64 r.hi):=(hB2f.held (i:=10) rfl).1
    have r4:wc.cell? ⟨w.heap.size+1,11,none⟩=some (.slice rqa rqn rqm):=(hB2f.held (i:=11) rfl).1
    have HLR:=hid (And.intro hls hrs)
    obtain⟨cm,hcm⟩:∃cm,cm=cmpC l r:=⟨_,rfl⟩
    have HSW:Hid (swapK x.k (some l) (some r)=decide (0<cm)):=hid (by
     have hk:=HKK.out
     rw[hcm]
     simp only[swapK,hk]
     rcases h23 with rfl|rfl<;>simp)
    have HCM:=hid hcm
    clear hcm hls hrs
    repeat((fail_if_success (with_reducible show Code.wp _ (Code.seq (Code.region 14 _ _) _) _ _ _));go_step)
    go_cut []from 6 (fun wx=>∃b:Bool,Hid (b=decide (0<cm))∧Gr none w D wx D2∧Box wx D2 (w.heap.size+1) 34 (if b then(axg x.k.kind x.op (some r) (some l) (.slice rqa rqn rqm) (.slice lqa lqn lqm) (.slice a3 n3 m3) x.k.role x.k.a x.k.b)else(axg x.k.kind x.op (some l) (some r) (.slice lqa lqn lqm) (.slice rqa rqn rqm) (.slice a3 n3 m3) x.k.role x.k.a x.k.b)))
    case first=>
     obtain rfl:kn=2:=by have:=HKK.out;have:=HK0.out;omega
     go_wp2_with fail
     refine(compare_c _ D2 l r lqa rqa lqn lqm rqn rqm HLR.out.1 HLR.out.2 hlp hrp).mono ?_
     rintro e w5 ⟨rfl,hc5⟩
     rw[←HCM.out]
     have hG5:Gr none w D w5 D2:=ii
     have hB5:Box w5 D2 (w.heap.size+1) 34 (axg x.k.kind x.op (some l) (some r) (.slice lqa lqn lqm) (.slice rqa rqn rqm) (.slice a3 n3 m3) x.k.role x.k.a x.k.b):=ii
     have:=hB5.off
     by_cases hc:0<cm
     ·have HB:Hid (true=decide (0<cm)):=hid (by simp[hc])
      have y0:w5.cell? ⟨w.heap.size+1,2,none⟩=some (.int .i64 l.kind):=(hB5.held (i:=2) rfl).1
      have y1:w5.cell? ⟨w.heap.size+1,3,none⟩=some (.string (str l.nm)):=(hB5.held (i:=3) rfl).1
      have y2:w5.cell? ⟨w.heap.size+1,4,none⟩=some (.int .i64 l.lo):=(hB5.held (i:=4) rfl).1
      have y3:w5.cell? ⟨w.heap.size+1,5,none⟩=some (.int .i64 l.hi):=(hB5.held (i:=5) rfl).1
      have y4:w5.cell? ⟨w.heap.size+1,6,none⟩=some (.slice lqa lqn lqm):=(hB5.held (i:=6) rfl).1
      have q0:w5.cell? ⟨w.heap.size+1,7,none⟩=some (.int .i64 r.kind):=(hB5.held (i:=7) rfl).1
      have q1:w5.cell? ⟨w.heap.size+1,8,none⟩=some (.string (str r.nm)):=(hB5.held (i:=8) rfl).1
      have q2:w5.cell? ⟨w.heap.size+1,9,none⟩=some (.int .i64 r.lo):=(hB5.held (i:=9) rfl).1
      have q3:w5.cell? ⟨w.heap.size+1,10,none⟩=some (.int .i64 r.hi):=(hB5.held (i:=10) rfl).1
      have q4:w5.cell? ⟨w.heap.size+1,11,none⟩=some (.slice rqa rqn rqm):=(hB5.held (i:=11) rfl).1
      obtain⟨W6,hW6⟩:∃W6,W6=w5.setCells (w.heap.size+1) 2 [.int .i64 r.kind,.string (str r.nm),.int .i64 r.lo,.int .i64 r.hi,.slice rqa rqn rqm]:=⟨_,rfl⟩
      have hB5s:Box W6 D2 (w.heap.size+1) 34 (axg x.k.kind x.op (some r) (some r) (.slice rqa rqn rqm) (.slice rqa rqn rqm) (.slice a3 n3 m3) x.k.role x.k.a x.k.b):=by rw[hW6];exact(ii:Box (((((w5.setCell ⟨w.heap.size+1,2,none⟩ (.int .i64 r.kind)).setCell ⟨w.heap.size+1,3,none⟩ (.string (str r.nm))).setCell ⟨w.heap.size+1,4,none⟩ (.int .i64 r.lo)).setCell ⟨w.heap.size+1,5,none⟩ (.int .i64 r.hi)).setCell ⟨w.heap.size+1,6,none⟩ (.slice rqa rqn rqm)) D2 (w.heap.size+1) 34 (axg x.k.kind x.op (some r) (some r) (.slice rqa rqn rqm) (.slice rqa rqn rqm) (.slice a3 n3 m3) x.k.role x.k.a x.k.b))
      have hG5s:Gr none w D W6 D2:=by rw[hW6];exact(ii:Gr none w D (((((w5.setCell ⟨w.heap.size+1,2,none⟩ (.int .i64 r.kind)).setCell ⟨w.heap.size+1,3,none⟩ (.string (str r.nm))).setCell ⟨w.heap.size+1,4,none⟩ (.int .i64 r.lo)).setCell ⟨w.heap.size+1,5,none⟩ (.int .i64 r.hi)).setCell ⟨w.heap.size+1,6,none⟩ (.slice rqa rqn rqm)) D2)
      have HW6:=hid hW6
      clear hW6
      go_wp2_with (first
       |((with_reducible show wpList _ _ _ ((⟨none,.store 31 (.tmp 63) _,_,_,_,_⟩:Oper)::_) _ _);refine wpList_store_mid rfl 31 _ _ rfl (w.heap.size+1) 2 (#[.int .i64 r.kind,.string (str r.nm),.int .i64 r.lo,.int .i64 r.hi,.slice rqa rqn rqm]) rfl rfl (Box.there hB5 2 5 (by show _≤16;omega)) hz31 (ccs_one _ _ _ _ _ _ _) ?_;change wpList _ _ _ _ _ (w5.setCells (w.heap.size+1) 2 [.int .i64 r.kind,.string (str r.nm),.int .i64 r.lo,.int .i64 r.hi,.slice rqa rqn rqm]);rw[←HW6.out])
       |((with_reducible show wpList _ _ _ ((⟨none,.store 31 (.tmp 64) _,_,_,_,_⟩:Oper)::_) _ _);refine wpList_store_mid rfl 31 _ _ rfl (w.heap.size+1) 7 (#[.int .i64 l.kind,.string (str l.nm),.int .i64 l.lo,.int .i64 l.hi,.slice lqa lqn lqm]) rfl rfl (Box.there hB5s 7 5 (by show _≤16;omega)) hz31 (ccs_one _ _ _ _ _ _ _) ?_))
      go_meet
      case rel=>
       have e2:Box (((((W6.setCell ⟨w.heap.size+1,7,none⟩ (.int .i64 l.kind)).setCell ⟨w.heap.size+1,8,none⟩ (.string (str l.nm))).setCell ⟨w.heap.size+1,9,none⟩ (.int .i64 l.lo)).setCell ⟨w.heap.size+1,10,none⟩ (.int .i64 l.hi)).setCell ⟨w.heap.size+1,11,none⟩ (.slice lqa lqn lqm)) D2 (w.heap.size+1) 34 (axg x.k.kind x.op (some r) (some l) (.slice rqa rqn rqm) (.slice lqa lqn lqm) (.slice a3 n3 m3) x.k.role x.k.a x.k.b):=ii
       have eg:Gr none w D (((((W6.setCell ⟨w.heap.size+1,7,none⟩ (.int .i64 l.kind)).setCell ⟨w.heap.size+1,8,none⟩ (.string (str l.nm))).setCell ⟨w.heap.size+1,9,none⟩ (.int .i64 l.lo)).setCell ⟨w.heap.size+1,10,none⟩ (.int .i64 l.hi)).setCell ⟨w.heap.size+1,11,none⟩ (.slice lqa lqn lqm)) D2:=ii
       exact⟨true,HB,eg,e2⟩
     ·have HB:Hid (false=decide (0<cm)):=hid (by simp[hc])
      have hcd:decide ((0:Int)<cm)=false:=by simpa using hc
      go_wp2_with fail
      go_meet
      case rel=>exact⟨false,HB,hG5,hB5⟩
    case rest=>
     obtain⟨b,HB,hGg,hBg⟩:=hcut
     have:=hGg.keeps
     have:=hBg.off
     have HSW2:=HSW
     cases b
     ·simp only[Bool.false_eq_true,if_false]at hBg
      have HSW:Hid (swapK x.k (some l) (some r)=false):=hid (HSW2.out.trans HB.out.symm)
      go_wp2_with (first|((with_reducible show wpList _ _ _ ((⟨_,.load 34 _,_,_,_,_⟩:Oper)::_) _ _);refine wpList_load_row rfl 34 _ rfl (w.heap.size+1) rfl (34) _ (0,0) _ (hBg.heap) underlying34 rfl (hz34) ?_)|((with_reducible show wpList _ _ _ ((⟨_,.store 34 _ _,_,_,_,_⟩:Oper)::_) _ _);refine wpList_storeTo rfl 34 _ _ rfl rfl (w.heap.size+1) ((axg x.k.kind x.op (some l) (some r) (.slice lqa lqn lqm) (.slice rqa rqn rqm) (.slice a3 n3 m3) x.k.role x.k.a x.k.b)) rfl rfl _ ((axg x.k.kind x.op (some l) (some r) (.slice lqa lqn lqm) (.slice rqa rqn rqm) (.slice a3 n3 m3) x.k.role x.k.a x.k.b)) (hBg.heap) (hz34) rfl (axg_one _ _ _ _ _ _ _ _ _ _ _ _ _ _ _ _) ?_))
      have hBz:Box (wc.setRow (w.heap.size+1) (axg x.k.kind x.op (some l) (some r) (.slice lqa lqn lqm) (.slice rqa rqn rqm) (.slice a3 n3 m3) x.k.role x.k.a x.k.b)) D2 (w.heap.size+1) 34 (axg x.k.kind x.op (some l) (some r) (.slice lqa lqn lqm) (.slice rqa rqn rqm) (.slice a3 n3 m3) x.k.role x.k.a x.k.b):=ii
      have hGz:Gr none w D (wc.setRow (w.heap.size+1) (axg x.k.kind x.op (some l) (some r) (.slice lqa lqn lqm) (.slice rqa rqn rqm) (.slice a3 n3 m3) x.k.role x.k.a x.k.b)) D2:=ii
      refine bodyPost_ret (v:=.tuple #[.agg (axg x.k.kind x.op (some l) (some r) (.slice lqa lqn lqm) (.slice rqa rqn rqm) (.slice a3 n3 m3) x.k.role x.k.a x.k.b),.int .i64 0]) ?_ rfl ?_
      ·simp[results,results6,go_sem,Box.cell (h:=hBz)]
      ·obtain⟨y,hy,e1,e2,e3,e4,e5,e6,e7⟩:=tidyK_of HLO.out HRO.out
       rw[HSW.out]at e6 e7
       exact ta_ret (by rw[HRT.out,hy];rfl) e1 e2 e3 e4 e5 e6 e7 hlq2 hrq hs2
     ·simp only[if_true]at hBg
      have HSW:Hid (swapK x.k (some l) (some r)=true):=hid (HSW2.out.trans HB.out.symm)
      go_wp2_with (first|((with_reducible show wpList _ _ _ ((⟨_,.load 34 _,_,_,_,_⟩:Oper)::_) _ _);refine wpList_load_row rfl 34 _ rfl (w.heap.size+1) rfl (34) _ (0,0) _ (hBg.heap) underlying34 rfl (hz34) ?_)|((with_reducible show wpList _ _ _ ((⟨_,.store 34 _ _,_,_,_,_⟩:Oper)::_) _ _);refine wpList_storeTo rfl 34 _ _ rfl rfl (w.heap.size+1) ((axg x.k.kind x.op (some r) (some l) (.slice rqa rqn rqm) (.slice lqa lqn lqm) (.slice a3 n3 m3) x.k.role x.k.a x.k.b)) rfl rfl _ ((axg x.k.kind x.op (some r) (some l) (.slice rqa rqn rqm) (.slice lqa lqn lqm) (.slice a3 n3 m3) x.k.role x.k.a x.k.b)) (hBg.heap) (hz34) rfl (axg_one _ _ _ _ _ _ _ _ _ _ _ _ _ _ _ _) ?_))
      have hBz:Box (wc.setRow (w.heap.size+1) (axg x.k.kind x.op (some r) (some l) (.slice rqa rqn rqm) (.slice lqa lqn lqm) (.slice a3 n3 m3) x.k.role x.k.a x.k.b)) D2 (w.heap.size+1) 34 (axg x.k.kind x.op (some r) (some l) (.slice rqa rqn rqm) (.slice lqa lqn lqm) (.slice a3 n3 m3) x.k.role x.k.a x.k.b):=ii
      have hGz:Gr none w D (wc.setRow (w.heap.size+1) (axg x.k.kind x.op (some r) (some l) (.slice rqa rqn rqm) (.slice lqa lqn lqm) (.slice a3 n3 m3) x.k.role x.k.a x.k.b)) D2:=ii
      refine bodyPost_ret (v:=.tuple #[.agg (axg x.k.kind x.op (some r) (some l) (.slice rqa rqn rqm) (.slice lqa lqn lqm) (.slice a3 n3 m3) x.k.role x.k.a x.k.b),.int .i64 0]) ?_ rfl ?_
      ·simp[results,results6,go_sem,Box.cell (h:=hBz)]
      ·obtain⟨y,hy,e1,e2,e3,e4,e5,e6,e7⟩:=tidyK_of HLO.out HRO.out
       rw[HSW.out]at e6 e7
       exact ta_ret (by rw[HRT.out,hy];rfl) e1 e2 e3 e4 e5 e6 e7 hrq hlq2 hs2
theorem tidyAx6(w:World)(D:Gh)(x:Ax)(lp rp rl:Value)(hv:AV D x lp rp rl)(hw:x.k.wf)(h0:chkK x.k=0)(hls0:x.k.left≠none)(hlo0:tidyO x.k.left≠none)(hrs0:x.k.right≠none)(hro0:tidyO x.k.right≠none)(hk0:x.k.kind=3)[hk:Keeps D w][hT:TB D]:
  Calls prog 6 #[.agg (axc x lp rp rl)] w (TARet w D x.tidy):=by
 obtain⟨R,hR⟩:∃R,R=x.tidy:=⟨_,rfl⟩
 rw[←hR]
 have HR:=hid hR
 clear hR
 have HV:=hid hv
 have HWF:=hid hw
 obtain⟨hl,hr,hs⟩:=hv
 obtain⟨a1,m1,rfl,_,_⟩:=PV.form hl
 obtain⟨a2,m2,rfl,_,_⟩:=PV.form hr
 obtain⟨a3,m3,rfl,_,_⟩:=SlN.form hs
 generalize hn1:(oP x.k.left).length=n1 at*
 generalize hn2:(oP x.k.right).length=n2 at*
 generalize hn3:x.k.roles.length=n3 at*
 obtain⟨kn,c2,c3,c4,c5,c6,hkk,hkn,u0,u1,u2,u3,u4,u5,u6⟩:=usesAt (D:=D) x.k
 have HKK:=hid hkk
 obtain⟨W1,hW1⟩:∃W1,W1=(w.alloc (.cells (axc x (.slice a1 n1 m1) (.slice a2 n2 m2) (.slice a3 n3 m3)) 34)).alloc (.cells axz 34):=⟨_,rfl⟩
 have hB1:Box W1 D w.heap.size 34 (axc x (.slice a1 n1 m1) (.slice a2 n2 m2) (.slice a3 n3 m3)):=hW1▸ii
 have hB2:Box W1 D (w.heap.size+1) 34 axz:=by rw[hW1];exact Box.newAt (by simp)
 have hG1:Gr none w D W1 D:=hW1▸ii
 have HW1:=hid hW1
 have:=hG1.keeps
 clear hW1 hn1 hn2 hn3 hkk hw
 go_enter func6,ntmps6
 repeat((fail_if_success (with_reducible show Code.wp _ (Code.region 1 _ _) _ _ _));go_step)
 rw[←HW1.out]
 go_wp2_with (((with_reducible show wpList _ _ _ ((⟨_,.load 34 _,_,_,_,_⟩:Oper)::_) _ _);refine wpList_load_row rfl 34 _ rfl (w.heap.size) rfl (34) _ (0,0) _ (hB1.heap) underlying34 rfl (hz34) ?_))
 refine(checkAxiom_c W1 D x _ _ _ HV.out HWF.out).mono ?_
 rintro e w2 ⟨rfl,hc2⟩
 have hB1b:Box w2 D w.heap.size 34 (axc x (.slice a1 n1 m1) (.slice a2 n2 m2) (.slice a3 n3 m3)):=ii
 have hB2b:Box w2 D (w.heap.size+1) 34 axz:=ii
 have hG2:Gr none w D w2 D:=ii
 have:=hG2.keeps
 have:=hB2b.off
 clear hB1 hB2 hG1 hc2
 have HLS0:=hid hls0
 clear hls0
 have HLO0:=hid hlo0
 clear hlo0
 have HRS0:=hid hrs0
 clear hrs0
 have HRO0:=hid hro0
 clear hro0
 have HK0:=hid hk0
 clear hk0
 ·have hok:=(chkK_zero x.k).1 h0
  have HRT:Hid (R=(tidyK x.k).map fun k=>⟨x.op,k⟩):=hid (by rw[HR.out,Ax.tidy,if_pos hok])
  have HSZ:=hid (ok_size hok)
  rw[h0]
  clear h0 hok HR
  have k0:w2.cell? ⟨w.heap.size,0,none⟩=some (.int .i64 (kn:Int)):=by rw[←HKK.out];exact(hB1b.held (i:=0) rfl).1
  have v0:=Keeps.out (D:=D) (w:=w2) _ _ _ u0
  have v1:=Keeps.out (D:=D) (w:=w2) _ _ _ u1
  have v2:=Keeps.out (D:=D) (w:=w2) _ _ _ u2
  have v3:=Keeps.out (D:=D) (w:=w2) _ _ _ u3
  have v4:=Keeps.out (D:=D) (w:=w2) _ _ _ u4
  have v5:=Keeps.out (D:=D) (w:=w2) _ _ _ u5
  have v6:=Keeps.out (D:=D) (w:=w2) _ _ _ u6
  have hk10:(kn:Int)<10:=by omega
  have h0s:0<w2.heap.size:=Keeps.lt u0
  obtain⟨W3,hW3⟩:∃W3,W3=(w2.alloc (.cells #[.bool x.k.left.isSome,.bool x.k.right.isSome,.bool c2,.bool c3,.bool c4,.int .i64 c5,.int .i64 c6] 63)).setRow (w.heap.size+1) (axc x (.slice a1 n1 m1) (.slice a2 n2 m2) (.slice a3 n3 m3)):=⟨_,rfl⟩
  have hB1c:Box (w2.alloc (.cells #[.bool x.k.left.isSome,.bool x.k.right.isSome,.bool c2,.bool c3,.bool c4,.int .i64 c5,.int .i64 c6] 63)) D w.heap.size 34 (axc x (.slice a1 n1 m1) (.slice a2 n2 m2) (.slice a3 n3 m3)):=ii
  have hB2c:Box (w2.alloc (.cells #[.bool x.k.left.isSome,.bool x.k.right.isSome,.bool c2,.bool c3,.bool c4,.int .i64 c5,.int .i64 c6] 63)) D (w.heap.size+1) 34 axz:=ii
  have hB5c:Box (w2.alloc (.cells #[.bool x.k.left.isSome,.bool x.k.right.isSome,.bool c2,.bool c3,.bool c4,.int .i64 c5,.int .i64 c6] 63)) D w2.heap.size 63 #[.bool x.k.left.isSome,.bool x.k.right.isSome,.bool c2,.bool c3,.bool c4,.int .i64 c5,.int .i64 c6]:=ii
  have hlb:=hB2b.lt
  have hn12:NeX w.heap.size (some (w.heap.size+1)):=⟨fun e=>by have:=Option.some.inj e;omega⟩
  have hn52:NeX w2.heap.size (some (w.heap.size+1)):=⟨fun e=>by have:=Option.some.inj e;omega⟩
  have hB1d:Box W3 D w.heap.size 34 (axc x (.slice a1 n1 m1) (.slice a2 n2 m2) (.slice a3 n3 m3)):=hW3▸ii
  have hB2d:Box W3 D (w.heap.size+1) 34 (axc x (.slice a1 n1 m1) (.slice a2 n2 m2) (.slice a3 n3 m3)):=hW3▸ii
  have hB5d:Box W3 D w2.heap.size 63 #[.bool x.k.left.isSome,.bool x.k.right.isSome,.bool c2,.bool c3,.bool c4,.int .i64 c5,.int .i64 c6]:=hW3▸ii
  have hG3:Gr none w D W3 D:=hW3▸ii
  have HW3:=hid hW3
  clear hW3
  go_wp2_with (first|((with_reducible show wpList _ _ _ ((⟨_,.load 34 _,_,_,_,_⟩:Oper)::_) _ _);refine wpList_load_row rfl 34 _ rfl (w.heap.size) rfl (34) _ (0,0) _ (hB1c.heap) underlying34 rfl (hz34) ?_)|(((with_reducible show wpList _ _ _ ((⟨_,.store 34 _ _,_,_,_,_⟩:Oper)::_) _ _);refine wpList_storeTo rfl 34 _ _ rfl rfl (w.heap.size+1) ((axc x (.slice a1 n1 m1) (.slice a2 n2 m2) (.slice a3 n3 m3))) rfl rfl _ (axz) (hB2c.heap) (hz34) rfl (axc_one _ _ _ _ _ _ _ _ _ _) ?_);rw[←HW3.out];refine stopL ?_))
  unfold Stop
  clear hB1b hB2b hG2 hB1c hB2c hB5c k0 v0 v1 v2 v3 v4 v5 v6 u0 u1 u2 u3 u4 u5 u6
  repeat((fail_if_success (with_reducible show Code.wp _ (Code.seq (Code.region 6 _ _) _) _ _ _));go_step)
  go_cut [3]from 6 (fun u3 wx=>∃(lo:Option C)(lq:Value)(D1:Gh),u3=.int .i64 0∧Hid (tidyO x.k.left=some lo)∧PV D1 (oP lo) lq∧Gr none w D wx D1∧Box wx D1 w.heap.size 34 (axc x (.slice a1 n1 m1) (.slice a2 n2 m2) (.slice a3 n3 m3))∧Box wx D1 (w.heap.size+1) 34 (axg x.k.kind x.op lo x.k.right lq (.slice a2 n2 m2) (.slice a3 n3 m3) x.k.role x.k.a x.k.b)∧
   Box wx D1 w2.heap.size 63 #[.bool x.k.left.isSome,.bool x.k.right.isSome,.bool c2,.bool c3,.bool c4,.int .i64 c5,.int .i64 c6])
  case first=>
   have:=hG3.keeps
   obtain⟨ol,hx⟩:∃ol,x.k.left=ol:=⟨_,rfl⟩
   cases ol with
   |none=>
    exact absurd hx HLS0.out
   |some l=>
    have hi:x.k.left.isSome=true:=by rw[hx];rfl
    have hu:W3.cell? ⟨w2.heap.size,0,none⟩=some (.bool x.k.left.isSome):=(Box.held (h:=hB5d) (i:=0) rfl).1
    rw[hi]at hu
    have q0:W3.cell? ⟨w.heap.size,2,none⟩=some (.int .i64 (oK x.k.left)):=(Box.held (h:=hB1d) (i:=2) rfl).1
    have q1:W3.cell? ⟨w.heap.size,3,none⟩=some (.string (str (oN x.k.left))):=(Box.held (h:=hB1d) (i:=3) rfl).1
    have q2:W3.cell? ⟨w.heap.size,4,none⟩=some (.int .i64 (oLo x.k.left)):=(Box.held (h:=hB1d) (i:=4) rfl).1
    have q3:W3.cell? ⟨w.heap.size,5,none⟩=some (.int .i64 (oHi x.k.left)):=(Box.held (h:=hB1d) (i:=5) rfl).1
    have q4:W3.cell? ⟨w.heap.size,6,none⟩=some (.slice a1 n1 m1):=(Box.held (h:=hB1d) (i:=6) rfl).1
    rw[hx]at q0 q1 q2 q3
    simp only[oK,oN,oLo,oHi]at q0 q1 q2 q3
    have hpl:PV D l.parts (.slice a1 n1 m1):=by have:=hl;rw[hx]at this;exact this
    have hls:=HSZ.out.1 l hx
    have HX:=hid hx
    clear hx hi
    go_wp2_with fail
    refine(tidy_c _ D l a1 n1 m1 hls hpl).mono ?_
    intro e w4 h4
    cases hq:tidyC l with
    |none=>
     exact absurd (show tidyO x.k.left=none by rw[HX.out];simp[tidyO,hq]) HLO0.out
    |some y=>
     rw[hq]at h4
     obtain⟨py,D4,rfl,hpy,hg4⟩:=h4
     obtain⟨ay,my,rfl,_,_⟩:=PV.form hpy
     have:=hg4.keeps
     have:=hg4.le
     have hB4:Box w4 D4 (w.heap.size+1) 34 (axc x (.slice a1 n1 m1) (.slice a2 n2 m2) (.slice a3 n3 m3)):=ii
     have hB14:Box w4 D4 w.heap.size 34 (axc x (.slice a1 n1 m1) (.slice a2 n2 m2) (.slice a3 n3 m3)):=ii
     have hB54:Box w4 D4 w2.heap.size 63 #[.bool x.k.left.isSome,.bool x.k.right.isSome,.bool c2,.bool c3,.bool c4,.int .i64 c5,.int .i64 c6]:=ii
     have hG4:Gr none w D w4 D4:=ii
     have:=hB4.off
     have HQ:Hid (tidyO x.k.left=some (some y)):=hid (by rw[HX.out];simp[tidyO,hq])
     clear hq
     go_wp2_with ((with_reducible show wpList _ _ _ ((⟨none,.store 31 _ _,_,_,_,_⟩:Oper)::_) _ _);refine wpList_store_mid rfl 31 _ _ rfl (w.heap.size+1) 2 (#[.int .i64 y.kind,.string (str y.nm),.int .i64 y.lo,.int .i64 y.hi,.slice ay y.parts.length my]) rfl rfl (Box.there hB4 2 5 (by show _≤16;omega)) hz31 (ccs_one _ _ _ _ _ _ _) ?_)
     go_meet
     case rel=>
      have e2:Box (((((w4.setCell ⟨w.heap.size+1,2,none⟩ (.int .i64 y.kind)).setCell ⟨w.heap.size+1,3,none⟩ (.string (str y.nm))).setCell ⟨w.heap.size+1,4,none⟩ (.int .i64 y.lo)).setCell ⟨w.heap.size+1,5,none⟩ (.int .i64 y.hi)).setCell ⟨w.heap.size+1,6,none⟩ (.slice ay y.parts.length my)) D4 (w.heap.size+1) 34 _:=ii
      have e1:Box (((((w4.setCell ⟨w.heap.size+1,2,none⟩ (.int .i64 y.kind)).setCell ⟨w.heap.size+1,3,none⟩ (.string (str y.nm))).setCell ⟨w.heap.size+1,4,none⟩ (.int .i64 y.lo)).setCell ⟨w.heap.size+1,5,none⟩ (.int .i64 y.hi)).setCell ⟨w.heap.size+1,6,none⟩ (.slice ay y.parts.length my)) D4 w.heap.size 34 (axc x (.slice a1 n1 m1) (.slice a2 n2 m2) (.slice a3 n3 m3)):=ii
      have e5:Box (((((w4.setCell ⟨w.heap.size+1,2,none⟩ (.int .i64 y.kind)).setCell ⟨w.heap.size+1,3,none⟩ (.string (str y.nm))).setCell ⟨w.heap.size+1,4,none⟩ (.int .i64 y.lo)).setCell ⟨w.heap.size+1,5,none⟩ (.int .i64 y.hi)).setCell ⟨w.heap.size+1,6,none⟩ (.slice ay y.parts.length my)) D4 w2.heap.size 63 #[.bool x.k.left.isSome,.bool x.k.right.isSome,.bool c2,.bool c3,.bool c4,.int .i64 c5,.int .i64 c6]:=ii
      have eg:Gr none w D (((((w4.setCell ⟨w.heap.size+1,2,none⟩ (.int .i64 y.kind)).setCell ⟨w.heap.size+1,3,none⟩ (.string (str y.nm))).setCell ⟨w.heap.size+1,4,none⟩ (.int .i64 y.lo)).setCell ⟨w.heap.size+1,5,none⟩ (.int .i64 y.hi)).setCell ⟨w.heap.size+1,6,none⟩ (.slice ay y.parts.length my)) D4:=ii
      exact⟨some y,.slice ay y.parts.length my,D4,rfl,HQ,hpy,eg,e1,e2,e5⟩
  case rest=>
   obtain⟨lo,lq,D1,rfl,HLO,hlq,hGc,hB1e,hB2e,hB5e⟩:=hcut
   obtain⟨lqa,lqm,rfl,_,_⟩:=PV.form hlq
   generalize hln:(oP lo).length=lqn at*
   have:=hGc.keeps
   have:=gr_le hGc
   have hr1:PV D1 (oP x.k.right) (.slice a2 n2 m2):=ii
   have:=hB2e.off
   clear hG3 hB1d hB2d hB5d HW1 HW3 hln
   repeat((fail_if_success (with_reducible show Code.wp _ (Code.seq (Code.region 10 _ _) _) _ _ _));go_step)
   go_cut [3]from 6 (fun u3 wx=>∃(ro:Option C)(rq:Value)(D2:Gh),u3=.int .i64 0∧Hid (tidyO x.k.right=some ro)∧PV D2 (oP lo) (.slice lqa lqn lqm)∧PV D2 (oP ro) rq∧Gr none w D wx D2∧Box wx D2 w.heap.size 34 (axc x (.slice a1 n1 m1) (.slice a2 n2 m2) (.slice a3 n3 m3))∧Box wx D2 (w.heap.size+1) 34 (axg x.k.kind x.op lo ro (.slice lqa lqn lqm) rq (.slice a3 n3 m3) x.k.role x.k.a x.k.b))
   case first=>
    obtain⟨ol,hx⟩:∃ol,x.k.right=ol:=⟨_,rfl⟩
    cases ol with
    |none=>
     exact absurd hx HRS0.out
    |some l=>
     have hi:x.k.right.isSome=true:=by rw[hx];rfl
     have hu:wc.cell? ⟨w2.heap.size,1,none⟩=some (.bool x.k.right.isSome):=(Box.held (h:=hB5e) (i:=1) rfl).1
     rw[hi]at hu
     have q0:wc.cell? ⟨w.heap.size,7,none⟩=some (.int .i64 (oK x.k.right)):=(Box.held (h:=hB1e) (i:=7) rfl).1
     have q1:wc.cell? ⟨w.heap.size,8,none⟩=some (.string (str (oN x.k.right))):=(Box.held (h:=hB1e) (i:=8) rfl).1
     have q2:wc.cell? ⟨w.heap.size,9,none⟩=some (.int .i64 (oLo x.k.right)):=(Box.held (h:=hB1e) (i:=9) rfl).1
     have q3:wc.cell? ⟨w.heap.size,10,none⟩=some (.int .i64 (oHi x.k.right)):=(Box.held (h:=hB1e) (i:=10) rfl).1
     have q4:wc.cell? ⟨w.heap.size,11,none⟩=some (.slice a2 n2 m2):=(Box.held (h:=hB1e) (i:=11) rfl).1
     rw[hx]at q0 q1 q2 q3
     simp only[oK,oN,oLo,oHi]at q0 q1 q2 q3
     have hpl:PV D1 l.parts (.slice a2 n2 m2):=by have:=hr1;rw[hx]at this;exact this
     have hls:=HSZ.out.2 l hx
     have HX:=hid hx
     clear hx hi
     go_wp2_with fail
     refine(tidy_c _ D1 l a2 n2 m2 hls hpl).mono ?_
     intro e w4 h4
     cases hq:tidyC l with
     |none=>
      exact absurd (show tidyO x.k.right=none by rw[HX.out];simp[tidyO,hq]) HRO0.out
     |some y=>
      rw[hq]at h4
      obtain⟨py,D4,rfl,hpy,hg4⟩:=h4
      obtain⟨ay,my,rfl,_,_⟩:=PV.form hpy
      have:=hg4.keeps
      have:=hg4.le
      have hB4:Box w4 D4 (w.heap.size+1) 34 (axg x.k.kind x.op lo x.k.right (.slice lqa lqn lqm) (.slice a2 n2 m2) (.slice a3 n3 m3) x.k.role x.k.a x.k.b):=ii
      have hB14:Box w4 D4 w.heap.size 34 (axc x (.slice a1 n1 m1) (.slice a2 n2 m2) (.slice a3 n3 m3)):=ii
      have hB54:Box w4 D4 w2.heap.size 63 #[.bool x.k.left.isSome,.bool x.k.right.isSome,.bool c2,.bool c3,.bool c4,.int .i64 c5,.int .i64 c6]:=ii
      have hG4:Gr none w D w4 D4:=ii
      have:=hB4.off
      have HQ:Hid (tidyO x.k.right=some (some y)):=hid (by rw[HX.out];simp[tidyO,hq])
      clear hq
      go_wp2_with ((with_reducible show wpList _ _ _ ((⟨none,.store 31 _ _,_,_,_,_⟩:Oper)::_) _ _);refine wpList_store_mid rfl 31 _ _ rfl (w.heap.size+1) 7 (#[.int .i64 y.kind,.string (str y.nm),.int .i64 y.lo,.int .i64 y.hi,.slice ay y.parts.length my]) rfl rfl (Box.there hB4 7 5 (by show _≤16;omega)) hz31 (ccs_one _ _ _ _ _ _ _) ?_)
      go_meet
      case rel=>
       have e2:Box (((((w4.setCell ⟨w.heap.size+1,7,none⟩ (.int .i64 y.kind)).setCell ⟨w.heap.size+1,8,none⟩ (.string (str y.nm))).setCell ⟨w.heap.size+1,9,none⟩ (.int .i64 y.lo)).setCell ⟨w.heap.size+1,10,none⟩ (.int .i64 y.hi)).setCell ⟨w.heap.size+1,11,none⟩ (.slice ay y.parts.length my)) D4 (w.heap.size+1) 34 _:=ii
       have e1:Box (((((w4.setCell ⟨w.heap.size+1,7,none⟩ (.int .i64 y.kind)).setCell ⟨w.heap.size+1,8,none⟩ (.string (str y.nm))).setCell ⟨w.heap.size+1,9,none⟩ (.int .i64 y.lo)).setCell ⟨w.heap.size+1,10,none⟩ (.int .i64 y.hi)).setCell ⟨w.heap.size+1,11,none⟩ (.slice ay y.parts.length my)) D4 w.heap.size 34 (axc x (.slice a1 n1 m1) (.slice a2 n2 m2) (.slice a3 n3 m3)):=ii
       have e5:Box (((((w4.setCell ⟨w.heap.size+1,7,none⟩ (.int .i64 y.kind)).setCell ⟨w.heap.size+1,8,none⟩ (.string (str y.nm))).setCell ⟨w.heap.size+1,9,none⟩ (.int .i64 y.lo)).setCell ⟨w.heap.size+1,10,none⟩ (.int .i64 y.hi)).setCell ⟨w.heap.size+1,11,none⟩ (.slice ay y.parts.length my)) D4 w2.heap.size 63 #[.bool x.k.left.isSome,.bool x.k.right.isSome,.bool c2,.bool c3,.bool c4,.int .i64 c5,.int .i64 c6]:=ii
       have eg:Gr none w D (((((w4.setCell ⟨w.heap.size+1,7,none⟩ (.int .i64 y.kind)).setCell ⟨w.heap.size+1,8,none⟩ (.string (str y.nm))).setCell ⟨w.heap.size+1,9,none⟩ (.int .i64 y.lo)).setCell ⟨w.heap.size+1,10,none⟩ (.int .i64 y.hi)).setCell ⟨w.heap.size+1,11,none⟩ (.slice ay y.parts.length my)) D4:=ii
       exact⟨some y,.slice ay y.parts.length my,D4,rfl,HQ,ii,hpy,eg,e1,e2⟩
   case rest=>
    obtain⟨ro,rq,D2,rfl,HRO,hlq2,hrq,hGe,hB1f,hB2f⟩:=hcut
    obtain⟨rqa,rqm,rfl,_,_⟩:=PV.form hrq
    generalize hrn:(oP ro).length=rqn at*
    have:=hGe.keeps
    have:=gr_le hGe
    have:=hB2f.off
    have hs2:SV D2 x.k.roles (.slice a3 n3 m3):=hs.le
    have k0:wc.cell? ⟨w.heap.size,0,none⟩=some (.int .i64 (kn:Int)):=by rw[←HKK.out];exact(hB1f.held (i:=0) rfl).1
    clear hGc hB1e hB2e hB5e hrn hlq hr1
    have h23:kn=2∨kn=3:=by have:=HKK.out;have:=HK0.out;omega
    obtain⟨l,r,hlo,hro,hls,hrs⟩:∃l r,lo=some l∧ro=some r∧l.size≤1000∧r.size≤1000:=by
     have h1:=HLO.out
     have h2:=HRO.out
     have hk:=HKK.out
     have hsz:=HSZ.out
     revert h1 h2 hk hsz
     cases x.k<;>intro h1 h2 hk hsz<;>simp only[K.kind]at hk<;>first|omega|skip
     all_goals
      simp only[K.left,K.right,tidyO,Option.map_eq_some_iff]at h1 h2
      obtain⟨l,hl1,rfl⟩:=h1
      obtain⟨r,hr1,rfl⟩:=h2
      have:=hsz.1 _ rfl
      have:=hsz.2 _ rfl
      have:=(tidyC_of hl1).size
      have:=(tidyC_of hr1).size
      exact⟨l,r,rfl,rfl,by omega,by omega⟩
    subst hlo hro
    have hlp:PV D2 l.parts (.slice lqa lqn lqm):=hlq2
    have hrp:PV D2 r.parts (.slice rqa rqn rqm):=hrq
    have l0:wc.cell? ⟨w.heap.size+1,2,none⟩=some (.int .i64 l.kind):=(hB2f.held (i:=2) rfl).1
    have l1:wc.cell? ⟨w.heap.size+1,3,none⟩=some (.string (str l.nm)):=(hB2f.held (i:=3) rfl).1
    have l2:wc.cell? ⟨w.heap.size+1,4,none⟩=some (.int .i64 l.lo):=(hB2f.held (i:=4) rfl).1
    have l3:wc.cell? ⟨w.heap.size+1,5,none⟩=some (.int .i64 l.hi):=(hB2f.held (i:=5) rfl).1
    have l4:wc.cell? ⟨w.heap.size+1,6,none⟩=some (.slice lqa lqn lqm):=(hB2f.held (i:=6) rfl).1
    have r0:wc.cell? ⟨w.heap.size+1,7,none⟩=some (.int .i64 r.kind):=(hB2f.held (i:=7) rfl).1
    have r1:wc.cell? ⟨w.heap.size+1,8,none⟩=some (.string (str r.nm)):=(hB2f.held (i:=8) rfl).1
    have r2:wc.cell? ⟨w.heap.size+1,9,none⟩=some (.int .i64 r.lo):=(hB2f.held (i:=9) rfl).1
    have r3:wc.cell? ⟨w.heap.size+1,10,none⟩=some (.int .i64 r.hi):=(hB2f.held (i:=10) rfl).1
    have r4:wc.cell? ⟨w.heap.size+1,11,none⟩=some (.slice rqa rqn rqm):=(hB2f.held (i:=11) rfl).1
    have HLR:=hid (And.intro hls hrs)
    obtain⟨cm,hcm⟩:∃cm,cm=cmpC l r:=⟨_,rfl⟩
    have HSW:Hid (swapK x.k (some l) (some r)=decide (0<cm)):=hid (by
     have hk:=HKK.out
     rw[hcm]
     simp only[swapK,hk]
     rcases h23 with rfl|rfl<;>simp)
    have HCM:=hid hcm
    clear hcm hls hrs
    repeat((fail_if_success (with_reducible show Code.wp _ (Code.seq (Code.region 14 _ _) _) _ _ _));go_step)
    go_cut []from 6 (fun wx=>∃b:Bool,Hid (b=decide (0<cm))∧Gr none w D wx D2∧Box wx D2 (w.heap.size+1) 34 (if b then(axg x.k.kind x.op (some r) (some l) (.slice rqa rqn rqm) (.slice lqa lqn lqm) (.slice a3 n3 m3) x.k.role x.k.a x.k.b)else(axg x.k.kind x.op (some l) (some r) (.slice lqa lqn lqm) (.slice rqa rqn rqm) (.slice a3 n3 m3) x.k.role x.k.a x.k.b)))
    case first=>
     obtain rfl:kn=3:=by have:=HKK.out;have:=HK0.out;omega
     go_wp2_with fail
     refine(compare_c _ D2 l r lqa rqa lqn lqm rqn rqm HLR.out.1 HLR.out.2 hlp hrp).mono ?_
     rintro e w5 ⟨rfl,hc5⟩
     rw[←HCM.out]
     have hG5:Gr none w D w5 D2:=ii
     have hB5:Box w5 D2 (w.heap.size+1) 34 (axg x.k.kind x.op (some l) (some r) (.slice lqa lqn lqm) (.slice rqa rqn rqm) (.slice a3 n3 m3) x.k.role x.k.a x.k.b):=ii
     have:=hB5.off
     by_cases hc:0<cm
     ·have HB:Hid (true=decide (0<cm)):=hid (by simp[hc])
      have y0:w5.cell? ⟨w.heap.size+1,2,none⟩=some (.int .i64 l.kind):=(hB5.held (i:=2) rfl).1
      have y1:w5.cell? ⟨w.heap.size+1,3,none⟩=some (.string (str l.nm)):=(hB5.held (i:=3) rfl).1
      have y2:w5.cell? ⟨w.heap.size+1,4,none⟩=some (.int .i64 l.lo):=(hB5.held (i:=4) rfl).1
      have y3:w5.cell? ⟨w.heap.size+1,5,none⟩=some (.int .i64 l.hi):=(hB5.held (i:=5) rfl).1
      have y4:w5.cell? ⟨w.heap.size+1,6,none⟩=some (.slice lqa lqn lqm):=(hB5.held (i:=6) rfl).1
      have q0:w5.cell? ⟨w.heap.size+1,7,none⟩=some (.int .i64 r.kind):=(hB5.held (i:=7) rfl).1
      have q1:w5.cell? ⟨w.heap.size+1,8,none⟩=some (.string (str r.nm)):=(hB5.held (i:=8) rfl).1
      have q2:w5.cell? ⟨w.heap.size+1,9,none⟩=some (.int .i64 r.lo):=(hB5.held (i:=9) rfl).1
      have q3:w5.cell? ⟨w.heap.size+1,10,none⟩=some (.int .i64 r.hi):=(hB5.held (i:=10) rfl).1
      have q4:w5.cell? ⟨w.heap.size+1,11,none⟩=some (.slice rqa rqn rqm):=(hB5.held (i:=11) rfl).1
      obtain⟨W6,hW6⟩:∃W6,W6=w5.setCells (w.heap.size+1) 2 [.int .i64 r.kind,.string (str r.nm),.int .i64 r.lo,.int .i64 r.hi,.slice rqa rqn rqm]:=⟨_,rfl⟩
      have hB5s:Box W6 D2 (w.heap.size+1) 34 (axg x.k.kind x.op (some r) (some r) (.slice rqa rqn rqm) (.slice rqa rqn rqm) (.slice a3 n3 m3) x.k.role x.k.a x.k.b):=by rw[hW6];exact(ii:Box (((((w5.setCell ⟨w.heap.size+1,2,none⟩ (.int .i64 r.kind)).setCell ⟨w.heap.size+1,3,none⟩ (.string (str r.nm))).setCell ⟨w.heap.size+1,4,none⟩ (.int .i64 r.lo)).setCell ⟨w.heap.size+1,5,none⟩ (.int .i64 r.hi)).setCell ⟨w.heap.size+1,6,none⟩ (.slice rqa rqn rqm)) D2 (w.heap.size+1) 34 (axg x.k.kind x.op (some r) (some r) (.slice rqa rqn rqm) (.slice rqa rqn rqm) (.slice a3 n3 m3) x.k.role x.k.a x.k.b))
      have hG5s:Gr none w D W6 D2:=by rw[hW6];exact(ii:Gr none w D (((((w5.setCell ⟨w.heap.size+1,2,none⟩ (.int .i64 r.kind)).setCell ⟨w.heap.size+1,3,none⟩ (.string (str r.nm))).setCell ⟨w.heap.size+1,4,none⟩ (.int .i64 r.lo)).setCell ⟨w.heap.size+1,5,none⟩ (.int .i64 r.hi)).setCell ⟨w.heap.size+1,6,none⟩ (.slice rqa rqn rqm)) D2)
      have HW6:=hid hW6
      clear hW6
      go_wp2_with (first
       |((with_reducible show wpList _ _ _ ((⟨none,.store 31 (.tmp 63) _,_,_,_,_⟩:Oper)::_) _ _);refine wpList_store_mid rfl 31 _ _ rfl (w.heap.size+1) 2 (#[.int .i64 r.kind,.string (str r.nm),.int .i64 r.lo,.int .i64 r.hi,.slice rqa rqn rqm]) rfl rfl (Box.there hB5 2 5 (by show _≤16;omega)) hz31 (ccs_one _ _ _ _ _ _ _) ?_;change wpList _ _ _ _ _ (w5.setCells (w.heap.size+1) 2 [.int .i64 r.kind,.string (str r.nm),.int .i64 r.lo,.int .i64 r.hi,.slice rqa rqn rqm]);rw[←HW6.out])
       |((with_reducible show wpList _ _ _ ((⟨none,.store 31 (.tmp 64) _,_,_,_,_⟩:Oper)::_) _ _);refine wpList_store_mid rfl 31 _ _ rfl (w.heap.size+1) 7 (#[.int .i64 l.kind,.string (str l.nm),.int .i64 l.lo,.int .i64 l.hi,.slice lqa lqn lqm]) rfl rfl (Box.there hB5s 7 5 (by show _≤16;omega)) hz31 (ccs_one _ _ _ _ _ _ _) ?_))
      go_meet
      case rel=>
       have e2:Box (((((W6.setCell ⟨w.heap.size+1,7,none⟩ (.int .i64 l.kind)).setCell ⟨w.heap.size+1,8,none⟩ (.string (str l.nm))).setCell ⟨w.heap.size+1,9,none⟩ (.int .i64 l.lo)).setCell ⟨w.heap.size+1,10,none⟩ (.int .i64 l.hi)).setCell ⟨w.heap.size+1,11,none⟩ (.slice lqa lqn lqm)) D2 (w.heap.size+1) 34 (axg x.k.kind x.op (some r) (some l) (.slice rqa rqn rqm) (.slice lqa lqn lqm) (.slice a3 n3 m3) x.k.role x.k.a x.k.b):=ii
       have eg:Gr none w D (((((W6.setCell ⟨w.heap.size+1,7,none⟩ (.int .i64 l.kind)).setCell ⟨w.heap.size+1,8,none⟩ (.string (str l.nm))).setCell ⟨w.heap.size+1,9,none⟩ (.int .i64 l.lo)).setCell ⟨w.heap.size+1,10,none⟩ (.int .i64 l.hi)).setCell ⟨w.heap.size+1,11,none⟩ (.slice lqa lqn lqm)) D2:=ii
       exact⟨true,HB,eg,e2⟩
     ·have HB:Hid (false=decide (0<cm)):=hid (by simp[hc])
      have hcd:decide ((0:Int)<cm)=false:=by simpa using hc
      go_wp2_with fail
      go_meet
      case rel=>exact⟨false,HB,hG5,hB5⟩
    case rest=>
     obtain⟨b,HB,hGg,hBg⟩:=hcut
     have:=hGg.keeps
     have:=hBg.off
     have HSW2:=HSW
     cases b
     ·simp only[Bool.false_eq_true,if_false]at hBg
      have HSW:Hid (swapK x.k (some l) (some r)=false):=hid (HSW2.out.trans HB.out.symm)
      go_wp2_with (first|((with_reducible show wpList _ _ _ ((⟨_,.load 34 _,_,_,_,_⟩:Oper)::_) _ _);refine wpList_load_row rfl 34 _ rfl (w.heap.size+1) rfl (34) _ (0,0) _ (hBg.heap) underlying34 rfl (hz34) ?_)|((with_reducible show wpList _ _ _ ((⟨_,.store 34 _ _,_,_,_,_⟩:Oper)::_) _ _);refine wpList_storeTo rfl 34 _ _ rfl rfl (w.heap.size+1) ((axg x.k.kind x.op (some l) (some r) (.slice lqa lqn lqm) (.slice rqa rqn rqm) (.slice a3 n3 m3) x.k.role x.k.a x.k.b)) rfl rfl _ ((axg x.k.kind x.op (some l) (some r) (.slice lqa lqn lqm) (.slice rqa rqn rqm) (.slice a3 n3 m3) x.k.role x.k.a x.k.b)) (hBg.heap) (hz34) rfl (axg_one _ _ _ _ _ _ _ _ _ _ _ _ _ _ _ _) ?_))
      have hBz:Box (wc.setRow (w.heap.size+1) (axg x.k.kind x.op (some l) (some r) (.slice lqa lqn lqm) (.slice rqa rqn rqm) (.slice a3 n3 m3) x.k.role x.k.a x.k.b)) D2 (w.heap.size+1) 34 (axg x.k.kind x.op (some l) (some r) (.slice lqa lqn lqm) (.slice rqa rqn rqm) (.slice a3 n3 m3) x.k.role x.k.a x.k.b):=ii
      have hGz:Gr none w D (wc.setRow (w.heap.size+1) (axg x.k.kind x.op (some l) (some r) (.slice lqa lqn lqm) (.slice rqa rqn rqm) (.slice a3 n3 m3) x.k.role x.k.a x.k.b)) D2:=ii
      refine bodyPost_ret (v:=.tuple #[.agg (axg x.k.kind x.op (some l) (some r) (.slice lqa lqn lqm) (.slice rqa rqn rqm) (.slice a3 n3 m3) x.k.role x.k.a x.k.b),.int .i64 0]) ?_ rfl ?_
      ·simp[results,results6,go_sem,Box.cell (h:=hBz)]
      ·obtain⟨y,hy,e1,e2,e3,e4,e5,e6,e7⟩:=tidyK_of HLO.out HRO.out
       rw[HSW.out]at e6 e7
       exact ta_ret (by rw[HRT.out,hy];rfl) e1 e2 e3 e4 e5 e6 e7 hlq2 hrq hs2
     ·simp only[if_true]at hBg
      have HSW:Hid (swapK x.k (some l) (some r)=true):=hid (HSW2.out.trans HB.out.symm)
      go_wp2_with (first|((with_reducible show wpList _ _ _ ((⟨_,.load 34 _,_,_,_,_⟩:Oper)::_) _ _);refine wpList_load_row rfl 34 _ rfl (w.heap.size+1) rfl (34) _ (0,0) _ (hBg.heap) underlying34 rfl (hz34) ?_)|((with_reducible show wpList _ _ _ ((⟨_,.store 34 _ _,_,_,_,_⟩:Oper)::_) _ _);refine wpList_storeTo rfl 34 _ _ rfl rfl (w.heap.size+1) ((axg x.k.kind x.op (some r) (some l) (.slice rqa rqn rqm) (.slice lqa lqn lqm) (.slice a3 n3 m3) x.k.role x.k.a x.k.b)) rfl rfl _ ((axg x.k.kind x.op (some r) (some l) (.slice rqa rqn rqm) (.slice lqa lqn lqm) (.slice a3 n3 m3) x.k.role x.k.a x.k.b)) (hBg.heap) (hz34) rfl (axg_one _ _ _ _ _ _ _ _ _ _ _ _ _ _ _ _) ?_))
      have hBz:Box (wc.setRow (w.heap.size+1) (axg x.k.kind x.op (some r) (some l) (.slice rqa rqn rqm) (.slice lqa lqn lqm) (.slice a3 n3 m3) x.k.role x.k.a x.k.b)) D2 (w.heap.size+1) 34 (axg x.k.kind x.op (some r) (some l) (.slice rqa rqn rqm) (.slice lqa lqn lqm) (.slice a3 n3 m3) x.k.role x.k.a x.k.b):=ii
      have hGz:Gr none w D (wc.setRow (w.heap.size+1) (axg x.k.kind x.op (some r) (some l) (.slice rqa rqn rqm) (.slice lqa lqn lqm) (.slice a3 n3 m3) x.k.role x.k.a x.k.b)) D2:=ii
      refine bodyPost_ret (v:=.tuple #[.agg (axg x.k.kind x.op (some r) (some l) (.slice rqa rqn rqm) (.slice lqa lqn lqm) (.slice a3 n3 m3) x.k.role x.k.a x.k.b),.int .i64 0]) ?_ rfl ?_
      ·simp[results,results6,go_sem,Box.cell (h:=hBz)]
      ·obtain⟨y,hy,e1,e2,e3,e4,e5,e6,e7⟩:=tidyK_of HLO.out HRO.out
       rw[HSW.out]at e6 e7
       exact ta_ret (by rw[HRT.out,hy];rfl) e1 e2 e3 e4 e5 e6 e7 hrq hlq2 hs2
theorem tidyAx_c(w:World)(D:Gh)(x:Ax)(lp rp rl:Value)(hv:AV D x lp rp rl)(hw:x.k.wf)[hk:Keeps D w][hT:TB D]:
  Calls prog 6 #[.agg (axc x lp rp rl)] w (TARet w D x.tidy):=by
 by_cases h0:chkK x.k=0
 ·by_cases hl:x.k.left=none
  ·refine tidyAx1 w D x lp rp rl hv hw h0 hl ?_
   revert hl;cases x.k<;>simp[K.left,K.kind]
  ·by_cases hle:tidyO x.k.left=none
   ·exact tidyAx2 w D x lp rp rl hv hw h0 hle
   ·by_cases hre:tidyO x.k.right=none
    ·exact tidyAx3 w D x lp rp rl hv hw h0 hl hle hre
    ·have hr:x.k.right≠none:=by revert hl;cases x.k<;>simp[K.left,K.right]
     by_cases h2:x.k.kind=2
     ·exact tidyAx5 w D x lp rp rl hv hw h0 hl hle hr hre h2
     ·by_cases h3:x.k.kind=3
      ·exact tidyAx6 w D x lp rp rl hv hw h0 hl hle hr hre h3
      ·exact tidyAx4 w D x lp rp rl hv hw h0 hl hle hr hre ⟨h2,h3⟩
 ·exact tidyAx0 w D x lp rp rl hv hw h0
end Go.Proofs.YticgonfhjcaohaaGreatDoor
