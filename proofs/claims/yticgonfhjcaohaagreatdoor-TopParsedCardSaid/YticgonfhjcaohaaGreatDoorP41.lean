/- TopParsed, part 41. -/
import Derived.Test.YticgonfhjcaohaaGreatDoorP38
set_option maxRecDepth 100000
set_option maxHeartbeats 32000000
namespace Go.Proofs.YticgonfhjcaohaaGreatDoor
open Go.RowKit Go.VT _root_.Go.Proofs.Tryz
theorem two_c(w:World)(D:Gh)[hk:Keeps D w](m1 m2 g:Nat)(op:Bool)(wd:Bs)(k:C→C→K)(l c:C)(rl:Value)(a1 a2:Option Addr)(n1 k1 n2 k2:Nat)(hg:(g=64∧wd=w_sub∧k=.sub)∨(g=65∧wd=w_same∧k=.equiv)∨(g=66∧wd=w_disjoint∧k=.disj))(hrl:∃a n m,rl=.slice a n m)(hlen:(textK (k l c)).length≤140737488355328)
  (h1:∀w',Cll none w w'→Calls prog 136 #[.agg #[.map (some m1),.map (some m2)],cv l (.slice a1 n1 k1)] w' fun e w''=>e=.returned (.string (str (textC l)))∧Cll none w' w'')
  (h2:∀w',Cll none w w'→Calls prog 136 #[.agg #[.map (some m1),.map (some m2)],cv c (.slice a2 n2 k2)] w' fun e w''=>e=.returned (.string (str (textC c)))∧Cll none w' w''):
  Calls prog g #[.agg #[.map (some m1),.map (some m2)],.agg (axc ⟨op,k l c⟩ (.slice a1 n1 k1) (.slice a2 n2 k2) rl)] w fun e w'=>e=.returned (.string (str (textK (k l c))))∧Cll none w w':=by
 obtain⟨a3,n3,k3,rfl⟩:=hrl
 have hj:Lib.join [textC l,wd,textC c] [32]=textK (k l c):=by rcases hg with⟨_,rfl,rfl⟩|⟨_,rfl,rfl⟩|⟨_,rfl,rfl⟩<;>simp[join_cons,textK]
 have H1:=hid h1
 have H2:=hid h2
 have HL:=hid hlen
 clear hlen h1 h2
 have hz2:(w.alloc (.cells #[.map (some m1),.map (some m2)] 73)).heap.size=w.heap.size+1:=by simp
 have hax:∃kk:Int,axc ⟨op,k l c⟩ (.slice a1 n1 k1) (.slice a2 n2 k2) (.slice a3 n3 k3)=#[.int .i64 kk,.bool op,.int .i64 l.kind,.string (str l.nm),.int .i64 l.lo,.int .i64 l.hi,.slice a1 n1 k1,.int .i64 c.kind,.string (str c.nm),.int .i64 c.lo,.int .i64 c.hi,.slice a2 n2 k2,.slice a3 n3 k3,.string (str []),.string (str []),.string (str [])]:=by
  rcases hg with⟨_,_,rfl⟩|⟨_,_,rfl⟩|⟨_,_,rfl⟩<;>exact⟨_,rfl⟩
 obtain⟨kk,hax⟩:=hax
 rw[hax]
 clear hax
 obtain⟨cs,hcs⟩:∃cs:Array Value,cs=#[.int .i64 kk,.bool op,.int .i64 l.kind,.string (str l.nm),.int .i64 l.lo,.int .i64 l.hi,.slice a1 n1 k1,.int .i64 c.kind,.string (str c.nm),.int .i64 c.lo,.int .i64 c.hi,.slice a2 n2 k2,.slice a3 n3 k3,.string (str []),.string (str []),.string (str [])]:=⟨_,rfl⟩
 rw[←hcs]
 obtain⟨W,hW⟩:∃W,W=(w.alloc (.cells #[.map (some m1),.map (some m2)] 73)).alloc (.cells cs 34):=⟨_,rfl⟩
 have hB1:Box W D w.heap.size 73 #[.map (some m1),.map (some m2)]:=by rw[hW];exact ii
 have hB2:Box W D (w.heap.size+1) 34 cs:=by rw[hW];exact Box.newAt hz2
 have hG:Bel none w W:=by rw[hW];exact ii
 have SH:∀W':World,Cll none W W'→(W'.cell? ⟨w.heap.size,0,none⟩=some (.map (some m1))∧W'.cell? ⟨w.heap.size,1,none⟩=some (.map (some m2))∧(W'.cell? ⟨w.heap.size+1,2,none⟩=some (.int .i64 l.kind)∧W'.cell? ⟨w.heap.size+1,3,none⟩=some (.string (str l.nm))∧W'.cell? ⟨w.heap.size+1,4,none⟩=some (.int .i64 l.lo)∧W'.cell? ⟨w.heap.size+1,5,none⟩=some (.int .i64 l.hi)∧W'.cell? ⟨w.heap.size+1,6,none⟩=some (.slice a1 n1 k1))
   ∧W'.cell? ⟨w.heap.size+1,7,none⟩=some (.int .i64 c.kind)∧W'.cell? ⟨w.heap.size+1,8,none⟩=some (.string (str c.nm))∧W'.cell? ⟨w.heap.size+1,9,none⟩=some (.int .i64 c.lo)∧W'.cell? ⟨w.heap.size+1,10,none⟩=some (.int .i64 c.hi)∧W'.cell? ⟨w.heap.size+1,11,none⟩=some (.slice a2 n2 k2)):=fun W' hc=>by
  have b1:Box W' D w.heap.size 73 #[.map (some m1),.map (some m2)]:=Box.call W W' D _ _ _ none
  have b2:Box W' D (w.heap.size+1) 34 cs:=Box.call W W' D _ _ _ none
  rw[hcs]at b2
  exact⟨(b1.held (i:=0) rfl).1,(b1.held (i:=1) rfl).1,⟨(b2.held (i:=2) rfl).1,(b2.held (i:=3) rfl).1,(b2.held (i:=4) rfl).1,(b2.held (i:=5) rfl).1,(b2.held (i:=6) rfl).1⟩,(b2.held (i:=7) rfl).1,(b2.held (i:=8) rfl).1,(b2.held (i:=9) rfl).1,(b2.held (i:=10) rfl).1,(b2.held (i:=11) rfl).1⟩
 have HSH:=hid SH
 clear SH hB1 hB2 hz2
 subst hcs
 have HG:=hid hg
 clear hg
 rcases HG.out with⟨rfl,rfl,rfl⟩|⟨rfl,rfl,rfl⟩|⟨rfl,rfl,rfl⟩
 all_goals
  clear HG
  first|go_enter func64,ntmps64|go_enter func65,ntmps65|go_enter func66,ntmps66
  repeat((fail_if_success (with_reducible show Code.wp _ (Code.region 1 _ _) _ _ _));go_step)
  rw[←hW]
  clear hW
  go_region_held3 (fun W'=>(W'.cell? ⟨w.heap.size,0,none⟩=some (.map (some m1))∧W'.cell? ⟨w.heap.size,1,none⟩=some (.map (some m2))∧(W'.cell? ⟨w.heap.size+1,2,none⟩=some (.int .i64 l.kind)∧W'.cell? ⟨w.heap.size+1,3,none⟩=some (.string (str l.nm))∧W'.cell? ⟨w.heap.size+1,4,none⟩=some (.int .i64 l.lo)∧W'.cell? ⟨w.heap.size+1,5,none⟩=some (.int .i64 l.hi)∧W'.cell? ⟨w.heap.size+1,6,none⟩=some (.slice a1 n1 k1))
   ∧W'.cell? ⟨w.heap.size+1,7,none⟩=some (.int .i64 c.kind)∧W'.cell? ⟨w.heap.size+1,8,none⟩=some (.string (str c.nm))∧W'.cell? ⟨w.heap.size+1,9,none⟩=some (.int .i64 c.lo)∧W'.cell? ⟨w.heap.size+1,10,none⟩=some (.int .i64 c.hi)∧W'.cell? ⟨w.heap.size+1,11,none⟩=some (.slice a2 n2 k2)))
   (first|(refine HSH.out _ ?_;exact Bel.c;done)|go_keep)
   (first|(go_at_call 136;first|((with_reducible show Calls _ 136 #[_,Value.agg #[Value.int IntKind.i64 l.kind,_,_,_,_]] _ _);refine(H1.out _ Bel.c).mono ?_;rintro e w1 ⟨rfl,hc1⟩)|((with_reducible show Calls _ 136 #[_,Value.agg #[Value.int IntKind.i64 c.kind,_,_,_,_]] _ _);refine(H2.out _ Bel.c).mono ?_;rintro e w2 ⟨rfl,hc2⟩))|(go_at_call 73;refine(words_new _ _ [textC l,_,textC c] (by simp) (by rw[hj];exact HL.out)).mono ?_;rintro e w3 ⟨rfl,hc3⟩))
  all_goals
   go_wp2_with fail
   go_ret
   exact⟨rfl,Bel.c⟩
end Go.Proofs.YticgonfhjcaohaaGreatDoor
namespace Go.Proofs.YticgonfhjcaohaaGreatDoor
open Go.RowKit Go.VT _root_.Go.Proofs.Tryz
theorem axiom25_c(w:World)(D:Gh)[hk:Keeps D w](m1 m2 f:Nat)[hM:MI w m2 mapA](x:Ax)(lp rp rl:Value)(hlp:∃a n m,lp=.slice a n m)(hrp:∃a n m,rp=.slice a n m)(hrl:∃a n m,rl=.slice a n m)
  (hf:lookI mapA x.k.kind=some (.func (Fn.func f) #[] #[])) (en:∀args w,(callFunc f args).run prog w=.ok (.enter f args) w) (hlen:(textA x).length≤140737488355328)
  (hc:∀w',Cll none w w'→Calls prog f #[.agg #[.map (some m1),.map (some m2)],.agg (axc x lp rp rl)] w' fun e w''=>e=.returned (.string (str (textK x.k)))∧Cll none w' w''):
  Calls prog 25 #[.agg #[.map (some m1),.map (some m2)],.agg (axc x lp rp rl)] w fun e w'=>e=.returned (.string (str (textA x)))∧Cll none w w':=by
 obtain⟨a1,n1,k1,rfl⟩:=hlp
 obtain⟨a2,n2,k2,rfl⟩:=hrp
 obtain⟨a3,n3,k3,rfl⟩:=hrl
 have hpr:∀s:Bs,Lib.join [s,textK x.k] [32]=s++[32]++textK x.k:=fun s=>by simp[join_cons]
 have HP:=hid hpr
 have HL:=hid hlen
 have HT:Hid (textA x=preA x++textK x.k):=hid rfl
 obtain⟨R,hR⟩:∃R,R=textA x:=⟨_,rfl⟩
 rw[←hR]at HL HT⊢
 obtain⟨tk,htk⟩:∃t,t=textK x.k:=⟨_,rfl⟩
 rw[←htk]at HP HT hc
 have H:=hid hc
 have hz2:(w.alloc (.cells #[.map (some m1),.map (some m2)] 73)).heap.size=w.heap.size+1:=by simp
 obtain⟨W,hW⟩:∃W,W=(w.alloc (.cells #[.map (some m1),.map (some m2)] 73)).alloc (.cells (axc x (.slice a1 n1 k1) (.slice a2 n2 k2) (.slice a3 n3 k3)) 34):=⟨_,rfl⟩
 have hB1:Box W D w.heap.size 73 #[.map (some m1),.map (some m2)]:=by rw[hW];exact ii
 have hB2:Box W D (w.heap.size+1) 34 (axc x (.slice a1 n1 k1) (.slice a2 n2 k2) (.slice a3 n3 k3)):=by rw[hW];exact Box.newAt hz2
 have hG:Gr none w D W D:=by rw[hW];exact ii
 have:=hG.keeps
 have:=hG.toBel
 have hMW:MI W m2 mapA:=by rw[hW];exact ii
 have hl:(Instr.lookup 71 (.map (some m2)) (.int .i64 x.k.kind) false).run prog W=.ok (.func (Fn.func f) #[] #[]) W:=run_lookup_int underlying71 underlying3 hMW x.k.kind hf
 have HW:=hid hW
 have b0:=Box.cell (h:=hB1) 0
 have b1:=Box.cell (h:=hB1) 1
 have c0:=Box.cell (h:=hB2) 0
 have hkk:(x.k.roley=true∧(x.k.kind=5∨x.k.kind=6∨x.k.kind=7))∨(x.k.roley=false∧(x.k.kind==5)=false∧(x.k.kind==6)=false∧(x.k.kind==7)=false):=by cases x.k<;>simp[K.roley,K.kind]
 have hpa:preA x=(if x.k.roley then(if x.op then[]else w_private++[32])else if x.op then w_open++[32]else[]):=rfl
 obtain⟨kk,hkd⟩:∃k,k=x.k.kind:=⟨_,rfl⟩
 have HKD:=hid hkd
 rw[←hkd]at hkk
 have HKK:=hid hkk
 have HPA:=hid hpa
 clear hR htk hc hlen hpr hz2 hW hf hkd hkk hpa
 go_enter func25,ntmps25
 repeat((fail_if_success (with_reducible show Code.wp _ (Code.region 1 _ _) _ _ _));go_step)
 rw[←HW.out]
 go_wp2_with ((with_reducible show wpList _ _ _ ((⟨_,.load 34 _,_,_,_,_⟩:Oper)::_) _ _);refine wpList_load_row rfl 34 _ rfl (w.heap.size+1) rfl (34) _ (0,0) _ (hB2.heap) underlying34 rfl (hz34) ?_)
 refine(H.out W Bel.c).mono ?_
 rintro e w1 ⟨rfl,hc1⟩
 have hB3:Box w1 D (w.heap.size+1) 34 (axc x (.slice a1 n1 k1) (.slice a2 n2 k2) (.slice a3 n3 k3)):=ii
 have d0:=Box.cell (h:=hB3) 0
 have d1:w1.cell? ⟨w.heap.size+1,1,none⟩=some (.bool x.op):=Box.cell (h:=hB3) 1
 have d0':w1.cell? ⟨w.heap.size+1,0,none⟩=some (.int .i64 kk):=by rw[HKD.out];exact d0
 have hG1:Gr none w D w1 D:=ii
 clear d0 b0 b1 c0 hB1 hB2 hG hl hMW hB3
 have hwords:Hid (∀s:Bs,R=s++[32]++tk→Calls prog 73 #[.slice (some ⟨w1.heap.size,0,none⟩) 2 2] (w1.alloc (.cells #[.string (str s),.string (str tk)] 9)) fun e w'=>e=.returned (.string (str R))∧Cll none w1 w'):=hid fun s hs=>by
  have:=words_new w1 9 [s,tk] (by simp) (by rw[HP.out,←hs];exact HL.out)
  rw[HP.out,←hs]at this
  exact this
 rcases HKK.out with⟨hr,hk5⟩|⟨hr,k5,k6,k7⟩
 ·have hpa2:=HPA.out
  rw[hr,if_pos rfl]at hpa2
  cases hop:x.op
  ·rw[hop]at d1 hpa2
   have hRR:R=w_private++[32]++tk:=by rw[HT.out,hpa2];rfl
   have HRR:=hid hRR
   clear hpa2 hRR hop hr
   rcases hk5 with rfl|rfl|rfl
   all_goals
    go_wp2_with fail
    refine(hwords.out w_private HRR.out).mono ?_
    rintro e w2 ⟨rfl,hc2⟩
    go_wp2_with fail
    go_ret
    exact⟨rfl,⟨hG1.bl.trans hc2.out⟩⟩
  ·rw[hop]at d1 hpa2
   have HRR:Hid (R=tk):=hid (by rw[HT.out,hpa2];rfl)
   clear hpa2 hop hr
   rcases hk5 with rfl|rfl|rfl
   all_goals
    go_wp2_with fail
    go_ret
    exact⟨by rw[HRR.out];rfl,⟨hG1.bl⟩⟩
 ·have hpa2:=HPA.out
  rw[hr,if_neg (by simp)]at hpa2
  cases hop:x.op
  ·rw[hop]at d1 hpa2
   have HRR:Hid (R=tk):=hid (by rw[HT.out,hpa2];rfl)
   clear hpa2 hop hr
   go_wp2_with fail
   go_ret
   exact⟨by rw[HRR.out];rfl,⟨hG1.bl⟩⟩
  ·rw[hop]at d1 hpa2
   have hRR:R=w_open++[32]++tk:=by rw[HT.out,hpa2];rfl
   have HRR:=hid hRR
   clear hpa2 hRR hop hr
   go_wp2_with fail
   refine(hwords.out w_open HRR.out).mono ?_
   rintro e w2 ⟨rfl,hc2⟩
   go_wp2_with fail
   go_ret
   exact⟨rfl,⟨hG1.bl.trans hc2.out⟩⟩
end Go.Proofs.YticgonfhjcaohaaGreatDoor
