/- TopParsed, part 30. -/
import Derived.Test.YticgonfhjcaohaaGreatDoorP25
set_option maxRecDepth 100000
set_option maxHeartbeats 32000000
namespace Go.Proofs.YticgonfhjcaohaaGreatDoor
open Go.RowKit Go.VT _root_.Go.Proofs.Tryz
theorem assert56(a c:Int)(w:World):Sem.run prog (Instr.typeAssert (.iface 56 (.agg #[.int .i64 a,.int .i64 c])) 20 56 false) w=.ok (.agg #[.int .i64 a,.int .i64 c]) w:=by kernel_rfl
theorem catch_p(g1 g2:Nat)(a c:Int)(older:List PanicEntry)(w:World)(x y z:Value)(h0:w.cell? ⟨g1,0,none⟩=some x)(h1:w.cell? ⟨g1,1,none⟩=some y)(h2:w.cell? ⟨g2,0,none⟩=some z)
  (f0:w.frozen? ⟨g1,0,none⟩=false) (f1:w.frozen? ⟨g1,1,none⟩=false) (f2:w.frozen? ⟨g2,0,none⟩=false) (_hne:g1≠g2):
  CallsD prog 115 #[.pointer (some ⟨g1,0,none⟩),.pointer (some ⟨g2,0,none⟩)] (.panicking ({v:=.iface 56 (.agg #[.int .i64 a,.int .i64 c]),recovered:=false}::older)) w fun e u' w'=>
   e=.returned (.tuple #[])∧u'=.panicking ({v:=.iface 56 (.agg #[.int .i64 a,.int .i64 c]),recovered:=true}::older)∧w'=((w.setCell ⟨g1,0,none⟩ (.int .i64 a)).setCell ⟨g1,1,none⟩ (.int .i64 c)).setCell ⟨g2,0,none⟩ (.bool true):=by
 refine callsD_of_wpS func115 rfl fun c₀ cs hu=>?_
 apply wpS_seq
 apply wpS_region
 simp[wpOpsS,go_sem,recoverD,hu,ntmps115,Exit.thenS]
 apply wpS_seq
 apply wpS_region
 simp[wpOpsS,go_sem,Exit.thenS]
 refine wpS_cond (t:=true) (by simp[Act.eval,Array.replicate]) ?_
 simp only[if_true]
 apply wpS_region
 have hta:=assert56 a c
 simp[wpOpsS,go_sem,h0,h1,h2,f0,f1,f2,hta,bodyPostS,results,results115]
theorem catch_i(g1 g2:Nat)(w:World):
  CallsD prog 115 #[.pointer (some ⟨g1,0,none⟩),.pointer (some ⟨g2,0,none⟩)] .returning w fun e u' w'=>e=.returned (.tuple #[])∧u'=.returning∧w'=w:=by
 refine callsD_of_wpS func115 rfl fun c₀ cs hu=>?_
 apply wpS_seq
 apply wpS_region
 simp[wpOpsS,go_sem,recoverD,hu,ntmps115,Exit.thenS]
 apply wpS_seq
 apply wpS_region
 simp[wpOpsS,go_sem,Exit.thenS]
 refine wpS_cond (t:=false) (by simp[Act.eval,Array.replicate]) ?_
 simp only[Bool.false_eq_true,if_false]
 refine wpS_of_wp (wp_skip ?_)
 cases c₀
 simp_all [bodyPostS,results,results115]
def K2(w:World)(D:Gh)(w':World)(D':Gh)(g1 g2:Nat):Prop:=w.heap.size≤w'.heap.size∧∀k,k<w.heap.size→k≠g1→k≠g2→w'.heap[k]? =w.heap[k]? ∧∀o,D' k o=D k o
theorem K2.box{w w':World}{D D':Gh}{g1 g2 g:Nat}{t:TypeId}{cs:Array Value}(h:K2 w D w' D' g1 g2)(hB:Box w D g t cs)(h1:g≠g1)(h2:g≠g2):Box w' D' g t cs:=
 ⟨((h.2 g hB.lt h1 h2).1).trans hB.heap,⟨fun o=>((h.2 g hB.lt h1 h2).2 o).trans (hB.off.out o)⟩⟩
theorem K2.gro{w w':World}{D D':Gh}{g1 g2:Nat}(h:Gr (some g1) w D w' D'):K2 w D w' D' g1 g2:=⟨h.bl.size,fun k hk h1 _=>⟨h.bl.block k hk (fun e=>h1 (Option.some.inj e)),h.old k hk⟩⟩
theorem K2.trans{a b c:World}{A B C':Gh}{g1 g2:Nat}(h:K2 a A b B g1 g2)(k:K2 b B c C' g1 g2):K2 a A c C' g1 g2:=
 ⟨Nat.le_trans h.1 k.1,fun i hi h1 h2=>⟨(k.2 i (Nat.lt_of_lt_of_le hi h.1) h1 h2).1.trans (h.2 i hi h1 h2).1,fun o=>((k.2 i (Nat.lt_of_lt_of_le hi h.1) h1 h2).2 o).trans ((h.2 i hi h1 h2).2 o)⟩⟩
theorem K2.row{w:World}{D:Gh}{g1 g2:Nat}(cs:Array Value):K2 w D (w.setRow g2 cs) D g1 g2:=⟨by simp,fun k _ _ h2=>⟨setRow_other w g2 k cs h2,fun _=>rfl⟩⟩
def pItem(N:Nat)(ts:List Tk):Option (Ax×List Tk):=(pAxiom N ts).bind fun(x,r)=>(wantT [46] r).bind fun r=>some (x,r)
def ISpec(a:World)(A:Gh)(w:World)(D:Gh)(p:PC)(k b2:Nat)(R:Option (Ax×List Tk))(e:Ending)(w':World):Prop:=
 ∃D' k',Gr (some p.g) a A w' D'∧K2 w D w' D' p.g b2∧PS w' D' p k'∧k≤k'∧match R with
  |some x=>e=.returned (.tuple #[])∧x.2=p.ts k'∧k<k'∧∃lp rp rl,AV D' x.1 lp rp rl∧Box w' D' b2 34 (axc x.1 lp rp rl)
  |none=>Fault e∧∃cs,cs.size=16∧Box w' D' b2 34 cs
theorem item1_c(N:Nat)(a w:World)(A D:Gh)(p:PC)(k b1 b2:Nat)(hN:2*p.toks.length+2≤N)[hP:PS w D p k][hT:TS D p][hM:PM w p][hG:Gr (some p.g) a A w D][h1:Box w D b1 51 #[p.ptr]][h2:Box w D b2 34 axz](hb2:a.heap.size≤b2)(hne1:p.g≠b1)(hne2:p.g≠b2)(hne:b1≠b2):
  Calls prog 45 #[.pointer (some ⟨b1,0,none⟩),.pointer (some ⟨b2,0,none⟩)] w (ISpec a A w D p k b2 (pItem N (p.ts k))):=by
 have:=hG.keeps
 obtain⟨R,hR⟩:∃R,R=pItem N (p.ts k):=⟨_,rfl⟩
 rw[←hR]
 obtain⟨R0,hR0⟩:∃R0,R0=pAxiom N (p.ts k):=⟨_,rfl⟩
 have HR:Hid (R=R0.bind fun(x,r)=>(wantT [46] r).bind fun r=>some (x,r)):=hid (by rw[hR,hR0];rfl)
 have HR0:=hid hR0
 clear hR hR0
 have c1:=Box.cell (h:=h1) 0
 have hs1:=Box.lt (h:=h1)
 have hs2:=Box.lt (h:=h2)
 have hn1:NeX b1 (some p.g):=⟨fun e=>hne1 (Option.some.inj e).symm⟩
 have hn2:NeX b2 (some p.g):=⟨fun e=>hne2 (Option.some.inj e).symm⟩
 have hn3:NeX b1 (some b2):=⟨fun e=>hne (Option.some.inj e)⟩
 have hn4:NeX p.g (some b2):=⟨fun e=>hne2 (Option.some.inj e)⟩
 have:New a b2:=⟨hb2⟩
 go_enter func45,ntmps45
 go_wp2_with fail
 refine((axiom_c N w D p k hN).mono (fun e w' q=>(show ASpec w D p k R0 e w' by rw[HR0.out];exact q))).mono ?_
 clear HR0
 intro e w1 h1'
 rcases R0 with _|⟨x,r⟩
 ·obtain⟨⟨_,_,rfl⟩,D1,k1,hg1,hk1,hP1⟩:=h1'
  go_wp2
  refine⟨rfl,D1,k1,ii,K2.gro (ii:Gr (some p.g) w D w1 D1),hP1,hk1,?_⟩
  rw[show R=none from HR.out]
  exact⟨⟨_,_,rfl⟩,_,rfl,(ii:Box w1 D1 b2 34 axz)⟩
 ·obtain⟨lp,rp,rl,D1,k1,rfl,hav,hg1,hP1,rfl,hk1⟩:=h1'
  obtain⟨n1,hn1⟩:∃n,n=(oP x.k.left).length:=⟨_,rfl⟩
  obtain⟨n2,hn2⟩:∃n,n=(oP x.k.right).length:=⟨_,rfl⟩
  obtain⟨n3,hn3⟩:∃n,n=x.k.roles.length:=⟨_,rfl⟩
  obtain⟨a1,m1,rfl,_,_⟩:=PV.form hav.l
  obtain⟨a2,m2,rfl,_,_⟩:=PV.form hav.r
  obtain⟨a3,m3,rfl,_,_⟩:=SlN.form hav.s
  rw[←hn1,←hn2,←hn3]at hav
  rw[←hn1,←hn2,←hn3]
  clear hn1 hn2 hn3
  have:=hg1.keeps
  have hleg:=hg1.le
  have hB1:Box w1 D1 b2 34 axz:=ii
  have hBb:Box w1 D1 b1 51 #[p.ptr]:=ii
  have:=hB1.off
  have:=hP1.box.off
  have hk2:K2 w D w1 D1 p.g b2:=K2.gro (ii:Gr (some p.g) w D w1 D1)
  obtain⟨W,hW⟩:∃W,W=w1.setRow b2 (axc x (.slice a1 n1 m1) (.slice a2 n2 m2) (.slice a3 n3 m3)):=⟨_,rfl⟩
  have hBW:Box W D1 b2 34 (axc x (.slice a1 n1 m1) (.slice a2 n2 m2) (.slice a3 n3 m3)):=hW▸ii
  have hPW:PS W D1 p k1:=hW▸ii
  have hGW:Gr (some p.g) a A W D1:=hW▸ii
  have hKW:K2 w D W D1 p.g b2:=hW▸hk2.trans (K2.row _)
  have hb1:Box W D1 b1 51 #[p.ptr]:=hW▸ii
  have cb:=Box.cell (h:=hb1) 0
  have HW:=hid hW
  clear hW
  go_wp2_with (first|(((with_reducible show wpList _ _ _ ((⟨_,.store 34 _ _,_,_,_,_⟩:Oper)::_) _ _);refine wpList_storeTo rfl 34 _ _ rfl rfl (b2) (axc x (.slice a1 n1 m1) (.slice a2 n2 m2) (.slice a3 n3 m3)) rfl rfl _ (axz) (hB1.heap) (hz34) rfl (axc_one _ _ _ _ _ _ _ _ _ _) ?_);rw[←HW.out])|fail)
  clear HW
  have:=hGW.keeps
  by_cases hw:hd (p.ts k1)=[46]
  ·have HR2:Hid (R=some (x,p.ts (k1+1))):=hid (by rw[HR.out];simp[wantT,hw,p.tail_ts])
   refine(want_ok _ D1 p k1 [46] hw (by simp)).mono ?_
   rintro e w3 ⟨rfl,hc3,hP3⟩
   go_wp2
   go_end0
   refine⟨D1,k1+1,ii,hKW.trans (K2.gro (ii:Gr (some p.g) W D1 w3 D1)),hP3,by omega,?_⟩
   rw[HR2.out]
   exact⟨rfl,rfl,by omega,_,_,_,hav,(ii:Box w3 D1 b2 34 (axc x (.slice a1 n1 m1) (.slice a2 n2 m2) (.slice a3 n3 m3)))⟩
  ·have HR2:Hid (R=none):=hid (by rw[HR.out];simp[wantT,hw])
   refine(want_bad _ D1 p k1 [46] hw).mono ?_
   rintro e w3 ⟨⟨_,_,rfl⟩,hc3⟩
   go_wp2
   refine⟨rfl,D1,k1,ii,hKW.trans (K2.gro (ii:Gr (some p.g) W D1 w3 D1)),ii,by omega,?_⟩
   rw[HR2.out]
   exact⟨⟨_,_,rfl⟩,_,rfl,(ii:Box w3 D1 b2 34 (axc x (.slice a1 n1 m1) (.slice a2 n2 m2) (.slice a3 n3 m3)))⟩
theorem K2.setNew{w w':World}{D D':Gh}{g1 g2 b o:Nat}{u:Value}(h:K2 w D w' D' g1 g2)(hb:w.heap.size≤b):K2 w D (w'.setCell ⟨b,o,none⟩ u) D' g1 g2:=
 ⟨by simpa[World.setCell]using h.1,fun k hk h1 h2=>⟨(Below.heap_setCell w' _ u k (show k≠b by omega)).trans (h.2 k hk h1 h2).1,(h.2 k hk h1 h2).2⟩⟩
def TSpec(a:World)(A:Gh)(w:World)(D:Gh)(p:PC)(k b2:Nat)(R:Option (Ax×List Tk))(e:Ending)(w':World):Prop:=
 ∃D' k',Gr (some p.g) a A w' D'∧K2 w D w' D' p.g b2∧PS w' D' p k'∧k≤k'∧match R with
  |some x=>e=.returned (.tuple #[.agg #[.int .i64 0,.int .i64 0],.bool false])∧x.2=p.ts k'∧k<k'∧∃lp rp rl,AV D' x.1 lp rp rl∧Box w' D' b2 34 (axc x.1 lp rp rl)
  |none=>(∃f c:Int,e=.returned (.tuple #[.agg #[.int .i64 f,.int .i64 c],.bool true]))∧∃cs,cs.size=16∧Box w' D' b2 34 cs
theorem try_c(N:Nat)(a w:World)(A D:Gh)(p:PC)(k b1 b2:Nat)(hN:2*p.toks.length+2≤N)[hP:PS w D p k][hT:TS D p][hM:PM w p][hG:Gr (some p.g) a A w D][h1:Box w D b1 51 #[p.ptr]][h2:Box w D b2 34 axz](hb2:a.heap.size≤b2)(hne1:p.g≠b1)(hne2:p.g≠b2)(hne:b1≠b2):
  Calls prog 44 #[.func (Fn.func 45) #[] #[.pointer (some ⟨b1,0,none⟩),.pointer (some ⟨b2,0,none⟩)]] w (TSpec a A w D p k b2 (pItem N (p.ts k))):=by
 have:=hG.keeps
 generalize hR:pItem N (p.ts k)=R
 have HR:=hid hR
 clear hR
 have hs1:=Box.lt (h:=h1)
 have hs2:=Box.lt (h:=h2)
 have hs3:=Box.lt (h:=hP.box)
 have:New a w.heap.size:=⟨hG.bl.size⟩
 have:New a (w.heap.size+1):=⟨Nat.le_trans hG.bl.size (by omega)⟩
 have hmf:∀(fn:Fn)(first cap:Array Value)(w:World),(Instr.makeFunc fn first cap).run prog w=.ok (.func fn first cap) w:=fun _ _ _ _=>rfl
 go_enter_defers func44,ntmps44
 go_wp2_with fail
 have hB1:Box ((w.alloc (.cells #[.int .i64 0,.int .i64 0] 56)).alloc (.cells #[.bool false] 4)) D w.heap.size 56 #[.int .i64 0,.int .i64 0]:=ii
 have hB2:Box ((w.alloc (.cells #[.int .i64 0,.int .i64 0] 56)).alloc (.cells #[.bool false] 4)) D (w.heap.size+1) 4 #[.bool false]:=by
  have:=Box.new (w.alloc (.cells #[.int .i64 0,.int .i64 0] 56)) D 4 #[.bool false]
  simpa using this
 have hc:=item1_c N a ((w.alloc (.cells #[.int .i64 0,.int .i64 0] 56)).alloc (.cells #[.bool false] 4)) A D p k b1 b2 hN hb2 hne1 hne2 hne
 rw[HR.out]at hc
 have hk0:K2 w D ((w.alloc (.cells #[.int .i64 0,.int .i64 0] 56)).alloc (.cells #[.bool false] 4)) D p.g b2:=K2.gro (ii:Gr (some p.g) w D _ D)
 generalize(w.alloc (.cells #[.int .i64 0,.int .i64 0] 56)).alloc (.cells #[.bool false] 4)=W0 at*
 refine hc.mono ?_
 clear hc
 rintro e w3 ⟨D3,k3,hG3,hK3,hP3,hk3,hm⟩
 have hC1:=hK3.box hB1 (by omega) (by omega)
 have hC2:=hK3.box hB2 (by omega) (by omega)
 have hK4:=hk0.trans hK3
 clear hk0 hK3 hB1 hB2 h1 h2 hP hM
 have e0:=hC1.held (i:=0) rfl
 have e1:=hC1.held (i:=1) rfl
 have e2:=hC2.held (i:=0) rfl
 have:=hC1.off
 have:=hC2.off
 have:=hG3.keeps
 have:NeX w.heap.size (some (w.heap.size+1)):=ne_gt (by omega)
 have:NeX (w.heap.size+1) (some w.heap.size):=ne_lt (by omega)
 rcases R with _|x
 ·obtain⟨⟨f,c,rfl⟩,cs,hcs,hb⟩:=hm
  go_wp2
  refine leaves_cons (f:=115) (args:=#[.pointer (some ⟨w.heap.size,0,none⟩),.pointer (some ⟨w.heap.size+1,0,none⟩)]) (by simp) (by simp[go_sem]) ?_
  refine(catch_p w.heap.size (w.heap.size+1) f c [] w3 _ _ _ e0.1 e1.1 e2.1 e0.2 e1.2 e2.2 (by omega)).mono ?_
  rintro e u' w'' ⟨rfl,rfl,rfl⟩
  have hD1:Box (((w3.setCell ⟨w.heap.size,0,none⟩ (.int .i64 f)).setCell ⟨w.heap.size,1,none⟩ (.int .i64 c)).setCell ⟨w.heap.size+1,0,none⟩ (.bool true)) D3 w.heap.size 56 #[.int .i64 f,.int .i64 c]:=ii
  have hD2:Box (((w3.setCell ⟨w.heap.size,0,none⟩ (.int .i64 f)).setCell ⟨w.heap.size,1,none⟩ (.int .i64 c)).setCell ⟨w.heap.size+1,0,none⟩ (.bool true)) D3 (w.heap.size+1) 4 #[.bool true]:=ii
  have:=ne_gt hs2
  have:=ne_gt (show b2<w.heap.size+1 by omega)
  have:=ne_lt hs3
  have:=ne_lt (show p.g<w.heap.size+1 by omega)
  have hT:TSpec a A w D p k b2 none (.returned (.tuple #[.agg #[.int .i64 f,.int .i64 c],.bool true])) (((w3.setCell ⟨w.heap.size,0,none⟩ (.int .i64 f)).setCell ⟨w.heap.size,1,none⟩ (.int .i64 c)).setCell ⟨w.heap.size+1,0,none⟩ (.bool true)):=
   ⟨D3,k3,ii,((hK4.setNew (by omega)).setNew (by omega)).setNew (by omega),ii,hk3,⟨⟨f,c,rfl⟩,cs,hcs,ii⟩⟩
  have i0:=Box.cell (h:=hD1) 0
  have i1:=Box.cell (h:=hD1) 1
  have i2:=Box.cell (h:=hD2) 0
  generalize((w3.setCell ⟨w.heap.size,0,none⟩ (.int .i64 f)).setCell ⟨w.heap.size,1,none⟩ (.int .i64 c)).setCell ⟨w.heap.size+1,0,none⟩ (.bool true)=W9 at*
  simp[Leaves,settle,results,results44,go_sem,i0,i1,i2]
  exact hT
 ·obtain⟨rfl,hr,hkk,lp,rp,rl,hav,hb⟩:=hm
  go_wp2
  refine leaves_cons (f:=115) (args:=#[.pointer (some ⟨w.heap.size,0,none⟩),.pointer (some ⟨w.heap.size+1,0,none⟩)]) (by simp) (by simp[go_sem]) ?_
  refine(catch_i w.heap.size (w.heap.size+1) (((w3.setCell ⟨w.heap.size,0,none⟩ (.int .i64 0)).setCell ⟨w.heap.size,1,none⟩ (.int .i64 0)).setCell ⟨w.heap.size+1,0,none⟩ (.bool false))).mono ?_
  rintro e u' w'' ⟨rfl,rfl,rfl⟩
  have hD1:Box (((w3.setCell ⟨w.heap.size,0,none⟩ (.int .i64 0)).setCell ⟨w.heap.size,1,none⟩ (.int .i64 0)).setCell ⟨w.heap.size+1,0,none⟩ (.bool false)) D3 w.heap.size 56 #[.int .i64 0,.int .i64 0]:=ii
  have hD2:Box (((w3.setCell ⟨w.heap.size,0,none⟩ (.int .i64 0)).setCell ⟨w.heap.size,1,none⟩ (.int .i64 0)).setCell ⟨w.heap.size+1,0,none⟩ (.bool false)) D3 (w.heap.size+1) 4 #[.bool false]:=ii
  have:=ne_gt hs2
  have:=ne_gt (show b2<w.heap.size+1 by omega)
  have:=ne_lt hs3
  have:=ne_lt (show p.g<w.heap.size+1 by omega)
  have hT:TSpec a A w D p k b2 (some x) (.returned (.tuple #[.agg #[.int .i64 0,.int .i64 0],.bool false])) (((w3.setCell ⟨w.heap.size,0,none⟩ (.int .i64 0)).setCell ⟨w.heap.size,1,none⟩ (.int .i64 0)).setCell ⟨w.heap.size+1,0,none⟩ (.bool false)):=
   ⟨D3,k3,ii,((hK4.setNew (by omega)).setNew (by omega)).setNew (by omega),ii,hk3,⟨rfl,hr,hkk,lp,rp,rl,hav,ii⟩⟩
  have i0:=Box.cell (h:=hD1) 0
  have i1:=Box.cell (h:=hD1) 1
  have i2:=Box.cell (h:=hD2) 0
  generalize((w3.setCell ⟨w.heap.size,0,none⟩ (.int .i64 0)).setCell ⟨w.heap.size,1,none⟩ (.int .i64 0)).setCell ⟨w.heap.size+1,0,none⟩ (.bool false)=W9 at*
  simp[Leaves,settle,results,results44,go_sem,i0,i1,i2]
  exact hT
end Go.Proofs.YticgonfhjcaohaaGreatDoor
