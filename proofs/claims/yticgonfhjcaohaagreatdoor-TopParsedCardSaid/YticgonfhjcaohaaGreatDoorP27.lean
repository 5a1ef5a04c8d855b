/- TopParsed, part 27. -/
import Derived.Test.YticgonfhjcaohaaGreatDoorP19
import Derived.Test.YticgonfhjcaohaaGreatDoorP24
set_option maxRecDepth 100000
set_option maxHeartbeats 32000000
namespace Go.Proofs.YticgonfhjcaohaaGreatDoor
open Go.RowKit Go.VT _root_.Go.Proofs.Tryz
abbrev axg(kd:Int)(op:Bool)(lo ro:Option C)(lp rp rl:Value)(s a b:Bs):Array Value:=#[.int .i64 kd,.bool op,.int .i64 (oK lo),.string (str (oN lo)),.int .i64 (oLo lo),.int .i64 (oHi lo),lp,.int .i64 (oK ro),.string (str (oN ro)),.int .i64 (oLo ro),.int .i64 (oHi ro),rp,rl,.string (str s),.string (str a),.string (str b)]
theorem axg_one(kd:Int)(op:Bool)(lo ro:Option C)(a b c:Option Addr)(n m k i j l:Nat)(s t u:Bs):(axg kd op lo ro (.slice a n i) (.slice b m j) (.slice c k l) s t u).all (·.oneCell')=true:=by kernel_rfl
theorem axz_one:(axz).all (·.oneCell')=true:=by kernel_rfl
theorem Box.there{w:World}{D:Gh}{g:Nat}{t:TypeId}{cs:Array Value}(h:Box w D g t cs)(o n:Nat)(hn:o+n≤cs.size):w.there g o n:=fun j hj=>by
 have:o+j<cs.size:=by omega
 exact⟨by rw[Box.cell (h:=h),Array.getElem?_eq_getElem this];rfl,Box.frozen (h:=h) _⟩
def tidyO:Option C→Option (Option C)|none=>some none|some c=>(tidyC c).map some
theorem usesAt{D:Gh}[hT:TB D](k:K):∃(kn:Nat)(c2 c3 c4:Bool)(c5 c6:Int),k.kind=(kn:Int)∧kn<10∧D 0 (kn*7)=some (.bool k.left.isSome)∧D 0 (kn*7+1)=some (.bool k.right.isSome)∧D 0 (kn*7+2)=some (.bool c2)∧D 0 (kn*7+3)=some (.bool c3)∧D 0 (kn*7+4)=some (.bool c4)∧D 0 (kn*7+5)=some (.int .i64 c5)∧D 0 (kn*7+6)=some (.int .i64 c6):=by
 cases k
 ·exact⟨1,_,_,_,_,_,rfl,by omega,hT.uses 7 _ rfl,hT.uses 8 _ rfl,hT.uses 9 _ rfl,hT.uses 10 _ rfl,hT.uses 11 _ rfl,hT.uses 12 _ rfl,hT.uses 13 _ rfl⟩
 ·exact⟨2,_,_,_,_,_,rfl,by omega,hT.uses 14 _ rfl,hT.uses 15 _ rfl,hT.uses 16 _ rfl,hT.uses 17 _ rfl,hT.uses 18 _ rfl,hT.uses 19 _ rfl,hT.uses 20 _ rfl⟩
 ·exact⟨3,_,_,_,_,_,rfl,by omega,hT.uses 21 _ rfl,hT.uses 22 _ rfl,hT.uses 23 _ rfl,hT.uses 24 _ rfl,hT.uses 25 _ rfl,hT.uses 26 _ rfl,hT.uses 27 _ rfl⟩
 ·exact⟨4,_,_,_,_,_,rfl,by omega,hT.uses 28 _ rfl,hT.uses 29 _ rfl,hT.uses 30 _ rfl,hT.uses 31 _ rfl,hT.uses 32 _ rfl,hT.uses 33 _ rfl,hT.uses 34 _ rfl⟩
 ·exact⟨5,_,_,_,_,_,rfl,by omega,hT.uses 35 _ rfl,hT.uses 36 _ rfl,hT.uses 37 _ rfl,hT.uses 38 _ rfl,hT.uses 39 _ rfl,hT.uses 40 _ rfl,hT.uses 41 _ rfl⟩
 ·exact⟨6,_,_,_,_,_,rfl,by omega,hT.uses 42 _ rfl,hT.uses 43 _ rfl,hT.uses 44 _ rfl,hT.uses 45 _ rfl,hT.uses 46 _ rfl,hT.uses 47 _ rfl,hT.uses 48 _ rfl⟩
 ·exact⟨7,_,_,_,_,_,rfl,by omega,hT.uses 49 _ rfl,hT.uses 50 _ rfl,hT.uses 51 _ rfl,hT.uses 52 _ rfl,hT.uses 53 _ rfl,hT.uses 54 _ rfl,hT.uses 55 _ rfl⟩
 ·exact⟨8,_,_,_,_,_,rfl,by omega,hT.uses 56 _ rfl,hT.uses 57 _ rfl,hT.uses 58 _ rfl,hT.uses 59 _ rfl,hT.uses 60 _ rfl,hT.uses 61 _ rfl,hT.uses 62 _ rfl⟩
 ·exact⟨9,_,_,_,_,_,rfl,by omega,hT.uses 63 _ rfl,hT.uses 64 _ rfl,hT.uses 65 _ rfl,hT.uses 66 _ rfl,hT.uses 67 _ rfl,hT.uses 68 _ rfl,hT.uses 69 _ rfl⟩
theorem ok_size{k:K}(h:okK k=true):(∀c,k.left=some c→c.size≤1000)∧(∀c,k.right=some c→c.size≤1000):=by
 have ok:∀c,okP c=true→c.size≤1000:=fun c h=>by
  simp only[okP,Bool.and_eq_true,decide_eq_true_eq]at h;omega
 cases k<;>simp only[okK,Bool.and_eq_true]at h<;>refine⟨fun c hc=>?_,fun c hc=>?_⟩<;>simp only[K.left,K.right,Option.some.injEq,reduceCtorEq]at hc<;>subst hc<;>exact ok _ (by first|exact h.1.1|exact h.1.1.1|exact h.1|exact h.2|exact h.1.2|exact h.1.1.2)
def swapK(k:K)(lo ro:Option C):Bool:=(k.kind==2||k.kind==3)&&(match lo,ro with|some l,some r=>decide (0<cmpC l r)|_,_=>false)
theorem tidyK_of{k:K}{lo ro:Option C}(hl:tidyO k.left=some lo)(hr:tidyO k.right=some ro):∃y,tidyK k=some y∧y.kind=k.kind∧y.roles=k.roles∧y.role=k.role∧y.a=k.a∧y.b=k.b∧y.left=(if swapK k lo ro then ro else lo)∧y.right=(if swapK k lo ro then lo else ro):=by
 cases k with
 |sub l r=>
  simp only[K.left,K.right,tidyO,Option.map_eq_some_iff]at hl hr
  obtain⟨x,hx,rfl⟩:=hl
  obtain⟨z,hz,rfl⟩:=hr
  exact⟨.sub x z,by simp[tidyK,hx,hz],rfl,rfl,rfl,rfl,rfl,by simp[swapK,K.kind,K.left],by simp[swapK,K.kind,K.right]⟩
 |equiv l r=>
  simp only[K.left,K.right,tidyO,Option.map_eq_some_iff]at hl hr
  obtain⟨x,hx,rfl⟩:=hl
  obtain⟨z,hz,rfl⟩:=hr
  by_cases h:0<cmpC x z
  ·exact⟨.equiv z x,by simp[tidyK,hx,hz,h],rfl,rfl,rfl,rfl,rfl,by simp[swapK,K.kind,K.left,h],by simp[swapK,K.kind,K.right,h]⟩
  ·exact⟨.equiv x z,by simp[tidyK,hx,hz,h],rfl,rfl,rfl,rfl,rfl,by simp[swapK,K.kind,K.left,h],by simp[swapK,K.kind,K.right,h]⟩
 |disj l r=>
  simp only[K.left,K.right,tidyO,Option.map_eq_some_iff]at hl hr
  obtain⟨x,hx,rfl⟩:=hl
  obtain⟨z,hz,rfl⟩:=hr
  by_cases h:0<cmpC x z
  ·exact⟨.disj z x,by simp[tidyK,hx,hz,h],rfl,rfl,rfl,rfl,rfl,by simp[swapK,K.kind,K.left,h],by simp[swapK,K.kind,K.right,h]⟩
  ·exact⟨.disj x z,by simp[tidyK,hx,hz,h],rfl,rfl,rfl,rfl,rfl,by simp[swapK,K.kind,K.left,h],by simp[swapK,K.kind,K.right,h]⟩
 |dom s r=>
  simp only[K.left,K.right,tidyO,Option.map_eq_some_iff,Option.some.injEq]at hl hr
  obtain⟨z,hz,rfl⟩:=hr
  subst hl
  exact⟨.dom s z,by simp[tidyK,hz],rfl,rfl,rfl,rfl,rfl,by simp[swapK,K.kind,K.left],by simp[swapK,K.kind,K.right]⟩
 |typ s r=>
  simp only[K.left,K.right,tidyO,Option.map_eq_some_iff,Option.some.injEq]at hl hr
  obtain⟨z,hz,rfl⟩:=hr
  subst hl
  exact⟨.typ s z,by simp[tidyK,hz],rfl,rfl,rfl,rfl,rfl,by simp[swapK,K.kind,K.left],by simp[swapK,K.kind,K.right]⟩
 |rsub q s=>
  simp only[K.left,K.right,tidyO,Option.some.injEq]at hl hr
  subst hl hr
  exact⟨.rsub q s,rfl,rfl,rfl,rfl,rfl,rfl,by simp[K.left],by simp[K.right]⟩
 |chain q s=>
  simp only[K.left,K.right,tidyO,Option.some.injEq]at hl hr
  subst hl hr
  exact⟨.chain q s,rfl,rfl,rfl,rfl,rfl,rfl,by simp[K.left],by simp[K.right]⟩
 |refl s=>
  simp only[K.left,K.right,tidyO,Option.some.injEq]at hl hr
  subst hl hr
  exact⟨.refl s,rfl,rfl,rfl,rfl,rfl,rfl,by simp[K.left],by simp[K.right]⟩
 |link q s t=>
  simp only[K.left,K.right,tidyO,Option.some.injEq]at hl hr
  subst hl hr
  exact⟨.link q s t,rfl,rfl,rfl,rfl,rfl,rfl,by simp[K.left],by simp[K.right]⟩
theorem tidyK_noL{k:K}(h:tidyO k.left=none):tidyK k=none:=by
 cases k<;>simp only[K.left,tidyO,reduceCtorEq,Option.map_eq_none_iff]at h<;>simp[tidyK,h]
theorem tidyK_noR{k:K}(h:tidyO k.right=none):tidyK k=none:=by
 cases k<;>simp only[K.right,tidyO,reduceCtorEq,Option.map_eq_none_iff]at h<;>simp only[tidyK,h,Option.map_none]
 all_goals
  rename_i l r
  cases tidyC l<;>simp
def TARet(w:World)(D:Gh)(R:Option Ax)(e:Ending)(w':World):Prop:=match R with
 |some y=>∃lp rp rl D',e=.returned (.tuple #[.agg (axc y lp rp rl),.int .i64 0])∧AV D' y lp rp rl∧Gro none w D w' D'
 |none=>∃k:Int,k≠0∧e=.returned (.tuple #[.agg axz,.int .i64 k])∧Cll none w w'
theorem ta_ret{w W:World}{D D':Gh}{R:Option Ax}{x:Ax}{y:K}{lo ro:Option C}{lp rp rl:Value}(hR:R=some ⟨x.op,y⟩)(h1:y.kind=x.k.kind)(h2:y.roles=x.k.roles)(h3:y.role=x.k.role)(h4:y.a=x.k.a)(h5:y.b=x.k.b)(h6:y.left=lo)(h7:y.right=ro)
  (hl:PV D' (oP lo) lp) (hr:PV D' (oP ro) rp) (hs:SV D' x.k.roles rl) [hg:Gr none w D W D']:TARet w D R (.returned (.tuple #[.agg (axg x.k.kind x.op lo ro lp rp rl x.k.role x.k.a x.k.b),.int .i64 0])) W:=by
 rw[hR]
 subst h6 h7
 refine⟨lp,rp,rl,D',?_,⟨hl,hr,by show SV D' y.roles rl;rw[h2];exact hs⟩,Gr.g⟩
 rw[←h1,←h3,←h4,←h5]
theorem tidyAx0(w:World)(D:Gh)(x:Ax)(lp rp rl:Value)(hv:AV D x lp rp rl)(hw:x.k.wf)(h0:chkK x.k≠0)[hk:Keeps D w][hT:TB D]:
  Calls prog 6 #[.agg (axc x lp rp rl)] w (TARet w D x.tidy):=by
 obtain⟨R,hR⟩:∃R,R=x.tidy:=⟨_,rfl⟩
 rw[←hR]
 have HR:=hid hR
 clear hR
 have HV:=hid hv
 have HWF:=hid hw
 obtain⟨hl,hr,hs⟩:=hv
 obtain⟨a1,m1,rfl,_,_⟩:=PV.form hl
 obtain⟨a2,m2,rfl,_,_⟩:=PV.form hr
 obtain⟨a3,m3,rfl,_,_⟩:=SlN.form hs
 generalize hn1:(oP x.k.left).length=n1 at*
 generalize hn2:(oP x.k.right).length=n2 at*
 generalize hn3:x.k.roles.length=n3 at*
 obtain⟨kn,c2,c3,c4,c5,c6,hkk,hkn,u0,u1,u2,u3,u4,u5,u6⟩:=usesAt (D:=D) x.k
 have HKK:=hid hkk
 obtain⟨W1,hW1⟩:∃W1,W1=(w.alloc (.cells (axc x (.slice a1 n1 m1) (.slice a2 n2 m2) (.slice a3 n3 m3)) 34)).alloc (.cells axz 34):=⟨_,rfl⟩
 have hB1:Box W1 D w.heap.size 34 (axc x (.slice a1 n1 m1) (.slice a2 n2 m2) (.slice a3 n3 m3)):=hW1▸ii
 have hB2:Box W1 D (w.heap.size+1) 34 axz:=by rw[hW1];exact Box.newAt (by simp)
 have hG1:Gr none w D W1 D:=hW1▸ii
 have HW1:=hid hW1
 have:=hG1.keeps
 clear hW1 hn1 hn2 hn3 hkk hw
 go_enter func6,ntmps6
 repeat((fail_if_success (with_reducible show Code.wp _ (Code.region 1 _ _) _ _ _));go_step)
 rw[←HW1.out]
 go_wp2_with (((with_reducible show wpList _ _ _ ((⟨_,.load 34 _,_,_,_,_⟩:Oper)::_) _ _);refine wpList_load_row rfl 34 _ rfl (w.heap.size) rfl (34) _ (0,0) _ (hB1.heap) underlying34 rfl (hz34) ?_))
 refine(checkAxiom_c W1 D x _ _ _ HV.out HWF.out).mono ?_
 rintro e w2 ⟨rfl,hc2⟩
 have hB1b:Box w2 D w.heap.size 34 (axc x (.slice a1 n1 m1) (.slice a2 n2 m2) (.slice a3 n3 m3)):=ii
 have hB2b:Box w2 D (w.heap.size+1) 34 axz:=ii
 have hG2:Gr none w D w2 D:=ii
 have:=hG2.keeps
 have:=hB2b.off
 clear hB1 hB2 hG1 hc2
 ·have HN:Hid (R=none):=hid (by
   rw[HR.out,Ax.tidy,if_neg (fun h=>h0 ((chkK_zero x.k).2 h))])
  have hb:(chkK x.k==0)=false:=by simpa using h0
  generalize chkK x.k=ck at*
  clear HR u0 u1 u2 u3 u4 u5 u6
  go_wp2_with (((with_reducible show wpList _ _ _ ((⟨_,.store 34 _ _,_,_,_,_⟩:Oper)::_) _ _);refine wpList_storeTo rfl 34 _ _ rfl rfl (w.heap.size+1) (axz) rfl rfl _ (axz) (hB2b.heap) (hz34) rfl (axz_one) ?_))
  have hB3:Box (w2.setRow (w.heap.size+1) axz) D (w.heap.size+1) 34 axz:=ii
  have:=hG2.toBel
  refine bodyPost_ret (v:=.tuple #[.agg axz,.int .i64 ck]) ?_ rfl ?_
  ·simp[results,results6,go_sem,Box.cell (h:=hB3)]
  ·rw[HN.out]
   exact⟨ck,h0,rfl,Bel.c⟩
theorem tidyAx1(w:World)(D:Gh)(x:Ax)(lp rp rl:Value)(hv:AV D x lp rp rl)(hw:x.k.wf)(h0:chkK x.k=0)(hln0:x.k.left=none)(hk0:x.k.kind≠2∧x.k.kind≠3)[hk:Keeps D w][hT:TB D]:
  Calls prog 6 #[.agg (axc x lp rp rl)] w (TARet w D x.tidy):=by
 obtain⟨R,hR⟩:∃R,R=x.tidy:=⟨_,rfl⟩
 rw[←hR]
 have HR:=hid hR
 clear hR
 have HV:=hid hv
 have HWF:=hid hw
 obtain⟨hl,hr,hs⟩:=hv
 obtain⟨a1,m1,rfl,_,_⟩:=PV.form hl
 obtain⟨a2,m2,rfl,_,_⟩:=PV.form hr
 obtain⟨a3,m3,rfl,_,_⟩:=SlN.form hs
 generalize hn1:(oP x.k.left).length=n1 at*
 generalize hn2:(oP x.k.right).length=n2 at*
 generalize hn3:x.k.roles.length=n3 at*
 obtain⟨kn,c2,c3,c4,c5,c6,hkk,hkn,u0,u1,u2,u3,u4,u5,u6⟩:=usesAt (D:=D) x.k
 have HKK:=hid hkk
 obtain⟨W1,hW1⟩:∃W1,W1=(w.alloc (.cells (axc x (.slice a1 n1 m1) (.slice a2 n2 m2) (.slice a3 n3 m3)) 34)).alloc (.cells axz 34):=⟨_,rfl⟩
 have hB1:Box W1 D w.heap.size 34 (axc x (.slice a1 n1 m1) (.slice a2 n2 m2) (.slice a3 n3 m3)):=hW1▸ii
 have hB2:Box W1 D (w.heap.size+1) 34 axz:=by rw[hW1];exact Box.newAt (by simp)
 have hG1:Gr none w D W1 D:=hW1▸ii
 have HW1:=hid hW1
 have:=hG1.keeps
 clear hW1 hn1 hn2 hn3 hkk hw
 go_enter func6,ntmps6
 repeat((fail_if_success (with_reducible show Code.wp _ (Code.region 1 _ _) _ _ _));go_step)
 rw[←HW1.out]
 go_wp2_with (((with_reducible show wpList _ _ _ ((⟨_,.load 34 _,_,_,_,_⟩:Oper)::_) _ _);refine wpList_load_row rfl 34 _ rfl (w.heap.size) rfl (34) _ (0,0) _ (hB1.heap) underlying34 rfl (hz34) ?_))
 refine(checkAxiom_c W1 D x _ _ _ HV.out HWF.out).mono ?_
 rintro e w2 ⟨rfl,hc2⟩
 have hB1b:Box w2 D w.heap.size 34 (axc x (.slice a1 n1 m1) (.slice a2 n2 m2) (.slice a3 n3 m3)):=ii
 have hB2b:Box w2 D (w.heap.size+1) 34 axz:=ii
 have hG2:Gr none w D w2 D:=ii
 have:=hG2.keeps
 have:=hB2b.off
 clear hB1 hB2 hG1 hc2
 have HLN0:=hid hln0
 clear hln0
 have HK0:=hid hk0
 clear hk0
 ·have hok:=(chkK_zero x.k).1 h0
  have HRT:Hid (R=(tidyK x.k).map fun k=>⟨x.op,k⟩):=hid (by rw[HR.out,Ax.tidy,if_pos hok])
  have HSZ:=hid (ok_size hok)
  rw[h0]
  clear h0 hok HR
  have k0:w2.cell? ⟨w.heap.size,0,none⟩=some (.int .i64 (kn:Int)):=by rw[←HKK.out];exact(hB1b.held (i:=0) rfl).1
  have v0:=Keeps.out (D:=D) (w:=w2) _ _ _ u0
  have v1:=Keeps.out (D:=D) (w:=w2) _ _ _ u1
  have v2:=Keeps.out (D:=D) (w:=w2) _ _ _ u2
  have v3:=Keeps.out (D:=D) (w:=w2) _ _ _ u3
  have v4:=Keeps.out (D:=D) (w:=w2) _ _ _ u4
  have v5:=Keeps.out (D:=D) (w:=w2) _ _ _ u5
  have v6:=Keeps.out (D:=D) (w:=w2) _ _ _ u6
  have hk10:(kn:Int)<10:=by omega
  have h0s:0<w2.heap.size:=Keeps.lt u0
  obtain⟨W3,hW3⟩:∃W3,W3=(w2.alloc (.cells #[.bool x.k.left.isSome,.bool x.k.right.isSome,.bool c2,.bool c3,.bool c4,.int .i64 c5,.int .i64 c6] 63)).setRow (w.heap.size+1) (axc x (.slice a1 n1 m1) (.slice a2 n2 m2) (.slice a3 n3 m3)):=⟨_,rfl⟩
  have hB1c:Box (w2.alloc (.cells #[.bool x.k.left.isSome,.bool x.k.right.isSome,.bool c2,.bool c3,.bool c4,.int .i64 c5,.int .i64 c6] 63)) D w.heap.size 34 (axc x (.slice a1 n1 m1) (.slice a2 n2 m2) (.slice a3 n3 m3)):=ii
  have hB2c:Box (w2.alloc (.cells #[.bool x.k.left.isSome,.bool x.k.right.isSome,.bool c2,.bool c3,.bool c4,.int .i64 c5,.int .i64 c6] 63)) D (w.heap.size+1) 34 axz:=ii
  have hB5c:Box (w2.alloc (.cells #[.bool x.k.left.isSome,.bool x.k.right.isSome,.bool c2,.bool c3,.bool c4,.int .i64 c5,.int .i64 c6] 63)) D w2.heap.size 63 #[.bool x.k.left.isSome,.bool x.k.right.isSome,.bool c2,.bool c3,.bool c4,.int .i64 c5,.int .i64 c6]:=ii
  have hlb:=hB2b.lt
  have hn12:NeX w.heap.size (some (w.heap.size+1)):=⟨fun e=>by have:=Option.some.inj e;omega⟩
  have hn52:NeX w2.heap.size (some (w.heap.size+1)):=⟨fun e=>by have:=Option.some.inj e;omega⟩
  have hB1d:Box W3 D w.heap.size 34 (axc x (.slice a1 n1 m1) (.slice a2 n2 m2) (.slice a3 n3 m3)):=hW3▸ii
  have hB2d:Box W3 D (w.heap.size+1) 34 (axc x (.slice a1 n1 m1) (.slice a2 n2 m2) (.slice a3 n3 m3)):=hW3▸ii
  have hB5d:Box W3 D w2.heap.size 63 #[.bool x.k.left.isSome,.bool x.k.right.isSome,.bool c2,.bool c3,.bool c4,.int .i64 c5,.int .i64 c6]:=hW3▸ii
  have hG3:Gr none w D W3 D:=hW3▸ii
  have HW3:=hid hW3
  clear hW3
  go_wp2_with (first|((with_reducible show wpList _ _ _ ((⟨_,.load 34 _,_,_,_,_⟩:Oper)::_) _ _);refine wpList_load_row rfl 34 _ rfl (w.heap.size) rfl (34) _ (0,0) _ (hB1c.heap) underlying34 rfl (hz34) ?_)|(((with_reducible show wpList _ _ _ ((⟨_,.store 34 _ _,_,_,_,_⟩:Oper)::_) _ _);refine wpList_storeTo rfl 34 _ _ rfl rfl (w.heap.size+1) ((axc x (.slice a1 n1 m1) (.slice a2 n2 m2) (.slice a3 n3 m3))) rfl rfl _ (axz) (hB2c.heap) (hz34) rfl (axc_one _ _ _ _ _ _ _ _ _ _) ?_);rw[←HW3.out];refine stopL ?_))
  unfold Stop
  clear hB1b hB2b hG2 hB1c hB2c hB5c k0 v0 v1 v2 v3 v4 v5 v6 u0 u1 u2 u3 u4 u5 u6
  repeat((fail_if_success (with_reducible show Code.wp _ (Code.seq (Code.region 6 _ _) _) _ _ _));go_step)
  go_cut [3]from 6 (fun u3 wx=>∃(lo:Option C)(lq:Value)(D1:Gh),u3=.int .i64 0∧Hid (tidyO x.k.left=some lo)∧PV D1 (oP lo) lq∧Gr none w D wx D1∧Box wx D1 w.heap.size 34 (axc x (.slice a1 n1 m1) (.slice a2 n2 m2) (.slice a3 n3 m3))∧Box wx D1 (w.heap.size+1) 34 (axg x.k.kind x.op lo x.k.right lq (.slice a2 n2 m2) (.slice a3 n3 m3) x.k.role x.k.a x.k.b)∧
   Box wx D1 w2.heap.size 63 #[.bool x.k.left.isSome,.bool x.k.right.isSome,.bool c2,.bool c3,.bool c4,.int .i64 c5,.int .i64 c6])
  case first=>
   have:=hG3.keeps
   obtain⟨ol,hx⟩:∃ol,x.k.left=ol:=⟨_,rfl⟩
   cases ol with
   |none=>
    have hi:x.k.left.isSome=false:=by rw[hx];rfl
    have hu:W3.cell? ⟨w2.heap.size,0,none⟩=some (.bool x.k.left.isSome):=(Box.held (h:=hB5d) (i:=0) rfl).1
    rw[hi]at hu
    have HX:=hid hx
    clear hx hi
    go_wp2_with fail
    go_meet
    case rel=>exact⟨none,.slice a1 n1 m1,D,rfl,hid (by rw[HX.out];rfl),by have:=hl;rw[HX.out]at this;exact this,hG3,hB1d,by have:=hB2d;unfold axc at this;rw[HX.out]at this;exact this,hB5d⟩
   |some l=>
    have hln0:=HLN0.out;rw[hln0]at hx;cases hx
  case rest=>
   obtain⟨lo,lq,D1,rfl,HLO,hlq,hGc,hB1e,hB2e,hB5e⟩:=hcut
   obtain⟨lqa,lqm,rfl,_,_⟩:=PV.form hlq
   generalize hln:(oP lo).length=lqn at*
   have:=hGc.keeps
   have:=gr_le hGc
   have hr1:PV D1 (oP x.k.right) (.slice a2 n2 m2):=ii
   have:=hB2e.off
   clear hG3 hB1d hB2d hB5d HW1 HW3 hln
   repeat((fail_if_success (with_reducible show Code.wp _ (Code.seq (Code.region 10 _ _) _) _ _ _));go_step)
   go_cut [3]from 6 (fun u3 wx=>∃(ro:Option C)(rq:Value)(D2:Gh),u3=.int .i64 0∧Hid (tidyO x.k.right=some ro)∧PV D2 (oP lo) (.slice lqa lqn lqm)∧PV D2 (oP ro) rq∧Gr none w D wx D2∧Box wx D2 w.heap.size 34 (axc x (.slice a1 n1 m1) (.slice a2 n2 m2) (.slice a3 n3 m3))∧Box wx D2 (w.heap.size+1) 34 (axg x.k.kind x.op lo ro (.slice lqa lqn lqm) rq (.slice a3 n3 m3) x.k.role x.k.a x.k.b))
   case first=>
    obtain⟨ol,hx⟩:∃ol,x.k.right=ol:=⟨_,rfl⟩
    cases ol with
    |none=>
     have hi:x.k.right.isSome=false:=by rw[hx];rfl
     have hu:wc.cell? ⟨w2.heap.size,1,none⟩=some (.bool x.k.right.isSome):=(Box.held (h:=hB5e) (i:=1) rfl).1
     rw[hi]at hu
     have HX:=hid hx
     clear hx hi
     go_wp2_with fail
     go_meet
     case rel=>exact⟨none,.slice a2 n2 m2,D1,rfl,hid (by rw[HX.out];rfl),hlq,by have:=hr1;rw[HX.out]at this;exact this,hGc,hB1e,by have:=hB2e;rw[HX.out]at this;exact this⟩
    |some l=>
     have hi:x.k.right.isSome=true:=by rw[hx];rfl
     have hu:wc.cell? ⟨w2.heap.size,1,none⟩=some (.bool x.k.right.isSome):=(Box.held (h:=hB5e) (i:=1) rfl).1
     rw[hi]at hu
     have q0:wc.cell? ⟨w.heap.size,7,none⟩=some (.int .i64 (oK x.k.right)):=(Box.held (h:=hB1e) (i:=7) rfl).1
     have q1:wc.cell? ⟨w.heap.size,8,none⟩=some (.string (str (oN x.k.right))):=(Box.held (h:=hB1e) (i:=8) rfl).1
     have q2:wc.cell? ⟨w.heap.size,9,none⟩=some (.int .i64 (oLo x.k.right)):=(Box.held (h:=hB1e) (i:=9) rfl).1
     have q3:wc.cell? ⟨w.heap.size,10,none⟩=some (.int .i64 (oHi x.k.right)):=(Box.held (h:=hB1e) (i:=10) rfl).1
     have q4:wc.cell? ⟨w.heap.size,11,none⟩=some (.slice a2 n2 m2):=(Box.held (h:=hB1e) (i:=11) rfl).1
     rw[hx]at q0 q1 q2 q3
     simp only[oK,oN,oLo,oHi]at q0 q1 q2 q3
     have hpl:PV D1 l.parts (.slice a2 n2 m2):=by have:=hr1;rw[hx]at this;exact this
     have hls:=HSZ.out.2 l hx
     have HX:=hid hx
     clear hx hi
     go_wp2_with fail
     refine(tidy_c _ D1 l a2 n2 m2 hls hpl).mono ?_
     intro e w4 h4
     cases hq:tidyC l with
     |none=>
      rw[hq]at h4
      obtain⟨rfl,hc4⟩:=h4
      have HN:Hid (R=none):=hid (by rw[HRT.out,tidyK_noR (by rw[HX.out];simp[tidyO,hq])];rfl)
      have hB4:Box w4 D1 (w.heap.size+1) 34 (axg x.k.kind x.op lo x.k.right (.slice lqa lqn lqm) (.slice a2 n2 m2) (.slice a3 n3 m3) x.k.role x.k.a x.k.b):=ii
      have hG4:Gr none w D w4 D1:=ii
      have:=hB4.off
      have hB4s:Box (w4.setCells (w.heap.size+1) 7 [.int .i64 0,.string ⟨#[]⟩,.int .i64 0,.int .i64 0,.slice none 0 0]) D1 (w.heap.size+1) 34 _:=(ii:Box (((((w4.setCell ⟨w.heap.size+1,7,none⟩ (.int .i64 0)).setCell ⟨w.heap.size+1,8,none⟩ (.string ⟨#[]⟩)).setCell ⟨w.heap.size+1,9,none⟩ (.int .i64 0)).setCell ⟨w.heap.size+1,10,none⟩ (.int .i64 0)).setCell ⟨w.heap.size+1,11,none⟩ (.slice none 0 0)) D1 (w.heap.size+1) 34 _)
      have hG4s:Gr none w D (w4.setCells (w.heap.size+1) 7 [.int .i64 0,.string ⟨#[]⟩,.int .i64 0,.int .i64 0,.slice none 0 0]) D1:=(ii:Gr none w D (((((w4.setCell ⟨w.heap.size+1,7,none⟩ (.int .i64 0)).setCell ⟨w.heap.size+1,8,none⟩ (.string ⟨#[]⟩)).setCell ⟨w.heap.size+1,9,none⟩ (.int .i64 0)).setCell ⟨w.heap.size+1,10,none⟩ (.int .i64 0)).setCell ⟨w.heap.size+1,11,none⟩ (.slice none 0 0)) D1)
      clear hq
      go_wp2_with (first
       |((with_reducible show wpList _ _ _ ((⟨_,.store 34 _ _,_,_,_,_⟩:Oper)::_) _ _);refine wpList_storeTo rfl 34 _ _ rfl rfl (w.heap.size+1) (axz) rfl rfl _ (_) (hB4s.heap) (hz34) rfl (axz_one) ?_)
       |((with_reducible show wpList _ _ _ ((⟨none,.store 31 _ _,_,_,_,_⟩:Oper)::_) _ _);refine wpList_store_mid rfl 31 _ _ rfl (w.heap.size+1) 7 (#[.int .i64 0,.string ⟨#[]⟩,.int .i64 0,.int .i64 0,.slice none 0 0]) rfl rfl (Box.there hB4 7 5 (by show _≤16;omega)) hz31 (ccs_one _ _ _ _ _ _ _) ?_))
      have hB5:Box ((w4.setCells (w.heap.size+1) 7 [.int .i64 0,.string ⟨#[]⟩,.int .i64 0,.int .i64 0,.slice none 0 0]).setRow (w.heap.size+1) axz) D1 (w.heap.size+1) 34 axz:=ii
      have:=hB4s.off
      have hG5:Gr none w D ((w4.setCells (w.heap.size+1) 7 [.int .i64 0,.string ⟨#[]⟩,.int .i64 0,.int .i64 0,.slice none 0 0]).setRow (w.heap.size+1) axz) D1:=ii
      have:=hG5.toBel
      refine bodyPost_ret (v:=.tuple #[.agg axz,.int .i64 2]) ?_ rfl ?_
      ·simp[results,results6,go_sem,Box.cell (h:=hB5)]
      ·rw[HN.out]
       exact⟨2,by decide,rfl,Bel.c⟩
     |some y=>
      rw[hq]at h4
      obtain⟨py,D4,rfl,hpy,hg4⟩:=h4
      obtain⟨ay,my,rfl,_,_⟩:=PV.form hpy
      have:=hg4.keeps
      have:=hg4.le
      have hB4:Box w4 D4 (w.heap.size+1) 34 (axg x.k.kind x.op lo x.k.right (.slice lqa lqn lqm) (.slice a2 n2 m2) (.slice a3 n3 m3) x.k.role x.k.a x.k.b):=ii
      have hB14:Box w4 D4 w.heap.size 34 (axc x (.slice a1 n1 m1) (.slice a2 n2 m2) (.slice a3 n3 m3)):=ii
      have hB54:Box w4 D4 w2.heap.size 63 #[.bool x.k.left.isSome,.bool x.k.right.isSome,.bool c2,.bool c3,.bool c4,.int .i64 c5,.int .i64 c6]:=ii
      have hG4:Gr none w D w4 D4:=ii
      have:=hB4.off
      have HQ:Hid (tidyO x.k.right=some (some y)):=hid (by rw[HX.out];simp[tidyO,hq])
      clear hq
      go_wp2_with ((with_reducible show wpList _ _ _ ((⟨none,.store 31 _ _,_,_,_,_⟩:Oper)::_) _ _);refine wpList_store_mid rfl 31 _ _ rfl (w.heap.size+1) 7 (#[.int .i64 y.kind,.string (str y.nm),.int .i64 y.lo,.int .i64 y.hi,.slice ay y.parts.length my]) rfl rfl (Box.there hB4 7 5 (by show _≤16;omega)) hz31 (ccs_one _ _ _ _ _ _ _) ?_)
      go_meet
      case rel=>
       have e2:Box (((((w4.setCell ⟨w.heap.size+1,7,none⟩ (.int .i64 y.kind)).setCell ⟨w.heap.size+1,8,none⟩ (.string (str y.nm))).setCell ⟨w.heap.size+1,9,none⟩ (.int .i64 y.lo)).setCell ⟨w.heap.size+1,10,none⟩ (.int .i64 y.hi)).setCell ⟨w.heap.size+1,11,none⟩ (.slice ay y.parts.length my)) D4 (w.heap.size+1) 34 _:=ii
       have e1:Box (((((w4.setCell ⟨w.heap.size+1,7,none⟩ (.int .i64 y.kind)).setCell ⟨w.heap.size+1,8,none⟩ (.string (str y.nm))).setCell ⟨w.heap.size+1,9,none⟩ (.int .i64 y.lo)).setCell ⟨w.heap.size+1,10,none⟩ (.int .i64 y.hi)).setCell ⟨w.heap.size+1,11,none⟩ (.slice ay y.parts.length my)) D4 w.heap.size 34 (axc x (.slice a1 n1 m1) (.slice a2 n2 m2) (.slice a3 n3 m3)):=ii
       have e5:Box (((((w4.setCell ⟨w.heap.size+1,7,none⟩ (.int .i64 y.kind)).setCell ⟨w.heap.size+1,8,none⟩ (.string (str y.nm))).setCell ⟨w.heap.size+1,9,none⟩ (.int .i64 y.lo)).setCell ⟨w.heap.size+1,10,none⟩ (.int .i64 y.hi)).setCell ⟨w.heap.size+1,11,none⟩ (.slice ay y.parts.length my)) D4 w2.heap.size 63 #[.bool x.k.left.isSome,.bool x.k.right.isSome,.bool c2,.bool c3,.bool c4,.int .i64 c5,.int .i64 c6]:=ii
       have eg:Gr none w D (((((w4.setCell ⟨w.heap.size+1,7,none⟩ (.int .i64 y.kind)).setCell ⟨w.heap.size+1,8,none⟩ (.string (str y.nm))).setCell ⟨w.heap.size+1,9,none⟩ (.int .i64 y.lo)).setCell ⟨w.heap.size+1,10,none⟩ (.int .i64 y.hi)).setCell ⟨w.heap.size+1,11,none⟩ (.slice ay y.parts.length my)) D4:=ii
       exact⟨some y,.slice ay y.parts.length my,D4,rfl,HQ,ii,hpy,eg,e1,e2⟩
   case rest=>
    obtain⟨ro,rq,D2,rfl,HRO,hlq2,hrq,hGe,hB1f,hB2f⟩:=hcut
    obtain⟨rqa,rqm,rfl,_,_⟩:=PV.form hrq
    generalize hrn:(oP ro).length=rqn at*
    have:=hGe.keeps
    have:=gr_le hGe
    have:=hB2f.off
    have hs2:SV D2 x.k.roles (.slice a3 n3 m3):=hs.le
    have k0:wc.cell? ⟨w.heap.size,0,none⟩=some (.int .i64 (kn:Int)):=by rw[←HKK.out];exact(hB1f.held (i:=0) rfl).1
    clear hGc hB1e hB2e hB5e hrn hlq hr1
    have h23:¬(kn=2∨kn=3):=by have:=HKK.out;have:=HK0.out;omega
    have e2:((kn:Int)==2)=false:=beq_eq_false_iff_ne.2 (by omega)
    have e3:((kn:Int)==3)=false:=beq_eq_false_iff_ne.2 (by omega)
    have HSW:Hid (swapK x.k lo ro=false):=hid (by
     have hk:=HKK.out
     simp[swapK,hk,e2,e3])
    clear h23
    go_wp2_with (first|((with_reducible show wpList _ _ _ ((⟨_,.load 34 _,_,_,_,_⟩:Oper)::_) _ _);refine wpList_load_row rfl 34 _ rfl (w.heap.size+1) rfl (34) _ (0,0) _ (hB2f.heap) underlying34 rfl (hz34) ?_)|((with_reducible show wpList _ _ _ ((⟨_,.store 34 _ _,_,_,_,_⟩:Oper)::_) _ _);refine wpList_storeTo rfl 34 _ _ rfl rfl (w.heap.size+1) ((axg x.k.kind x.op lo ro (.slice lqa lqn lqm) (.slice rqa rqn rqm) (.slice a3 n3 m3) x.k.role x.k.a x.k.b)) rfl rfl _ ((axg x.k.kind x.op lo ro (.slice lqa lqn lqm) (.slice rqa rqn rqm) (.slice a3 n3 m3) x.k.role x.k.a x.k.b)) (hB2f.heap) (hz34) rfl (axg_one _ _ _ _ _ _ _ _ _ _ _ _ _ _ _ _) ?_))
    have hBz:Box (wc.setRow (w.heap.size+1) (axg x.k.kind x.op lo ro (.slice lqa lqn lqm) (.slice rqa rqn rqm) (.slice a3 n3 m3) x.k.role x.k.a x.k.b)) D2 (w.heap.size+1) 34 (axg x.k.kind x.op lo ro (.slice lqa lqn lqm) (.slice rqa rqn rqm) (.slice a3 n3 m3) x.k.role x.k.a x.k.b):=ii
    have hGz:Gr none w D (wc.setRow (w.heap.size+1) (axg x.k.kind x.op lo ro (.slice lqa lqn lqm) (.slice rqa rqn rqm) (.slice a3 n3 m3) x.k.role x.k.a x.k.b)) D2:=ii
    refine bodyPost_ret (v:=.tuple #[.agg (axg x.k.kind x.op lo ro (.slice lqa lqn lqm) (.slice rqa rqn rqm) (.slice a3 n3 m3) x.k.role x.k.a x.k.b),.int .i64 0]) ?_ rfl ?_
    ·simp[results,results6,go_sem,Box.cell (h:=hBz)]
    ·obtain⟨y,hy,e1,e2,e3,e4,e5,e6,e7⟩:=tidyK_of HLO.out HRO.out
     rw[HSW.out]at e6 e7
     exact ta_ret (by rw[HRT.out,hy];rfl) e1 e2 e3 e4 e5 e6 e7 hlq2 hrq hs2
theorem tidyAx2(w:World)(D:Gh)(x:Ax)(lp rp rl:Value)(hv:AV D x lp rp rl)(hw:x.k.wf)(h0:chkK x.k=0)(hle0:tidyO x.k.left=none)[hk:Keeps D w][hT:TB D]:
  Calls prog 6 #[.agg (axc x lp rp rl)] w (TARet w D x.tidy):=by
 obtain⟨R,hR⟩:∃R,R=x.tidy:=⟨_,rfl⟩
 rw[←hR]
 have HR:=hid hR
 clear hR
 have HV:=hid hv
 have HWF:=hid hw
 obtain⟨hl,hr,hs⟩:=hv
 obtain⟨a1,m1,rfl,_,_⟩:=PV.form hl
 obtain⟨a2,m2,rfl,_,_⟩:=PV.form hr
 obtain⟨a3,m3,rfl,_,_⟩:=SlN.form hs
 generalize hn1:(oP x.k.left).length=n1 at*
 generalize hn2:(oP x.k.right).length=n2 at*
 generalize hn3:x.k.roles.length=n3 at*
 obtain⟨kn,c2,c3,c4,c5,c6,hkk,hkn,u0,u1,u2,u3,u4,u5,u6⟩:=usesAt (D:=D) x.k
 have HKK:=hid hkk
 obtain⟨W1,hW1⟩:∃W1,W1=(w.alloc (.cells (axc x (.slice a1 n1 m1) (.slice a2 n2 m2) (.slice a3 n3 m3)) 34)).alloc (.cells axz 34):=⟨_,rfl⟩
 have hB1:Box W1 D w.heap.size 34 (axc x (.slice a1 n1 m1) (.slice a2 n2 m2) (.slice a3 n3 m3)):=hW1▸ii
 have hB2:Box W1 D (w.heap.size+1) 34 axz:=by rw[hW1];exact Box.newAt (by simp)
 have hG1:Gr none w D W1 D:=hW1▸ii
 have HW1:=hid hW1
 have:=hG1.keeps
 clear hW1 hn1 hn2 hn3 hkk hw
 go_enter func6,ntmps6
 repeat((fail_if_success (with_reducible show Code.wp _ (Code.region 1 _ _) _ _ _));go_step)
 rw[←HW1.out]
 go_wp2_with (((with_reducible show wpList _ _ _ ((⟨_,.load 34 _,_,_,_,_⟩:Oper)::_) _ _);refine wpList_load_row rfl 34 _ rfl (w.heap.size) rfl (34) _ (0,0) _ (hB1.heap) underlying34 rfl (hz34) ?_))
 refine(checkAxiom_c W1 D x _ _ _ HV.out HWF.out).mono ?_
 rintro e w2 ⟨rfl,hc2⟩
 have hB1b:Box w2 D w.heap.size 34 (axc x (.slice a1 n1 m1) (.slice a2 n2 m2) (.slice a3 n3 m3)):=ii
 have hB2b:Box w2 D (w.heap.size+1) 34 axz:=ii
 have hG2:Gr none w D w2 D:=ii
 have:=hG2.keeps
 have:=hB2b.off
 clear hB1 hB2 hG1 hc2
 have HLE0:=hid hle0
 clear hle0
 ·have hok:=(chkK_zero x.k).1 h0
  have HRT:Hid (R=(tidyK x.k).map fun k=>⟨x.op,k⟩):=hid (by rw[HR.out,Ax.tidy,if_pos hok])
  have HSZ:=hid (ok_size hok)
  rw[h0]
  clear h0 hok HR
  have k0:w2.cell? ⟨w.heap.size,0,none⟩=some (.int .i64 (kn:Int)):=by rw[←HKK.out];exact(hB1b.held (i:=0) rfl).1
  have v0:=Keeps.out (D:=D) (w:=w2) _ _ _ u0
  have v1:=Keeps.out (D:=D) (w:=w2) _ _ _ u1
  have v2:=Keeps.out (D:=D) (w:=w2) _ _ _ u2
  have v3:=Keeps.out (D:=D) (w:=w2) _ _ _ u3
  have v4:=Keeps.out (D:=D) (w:=w2) _ _ _ u4
  have v5:=Keeps.out (D:=D) (w:=w2) _ _ _ u5
  have v6:=Keeps.out (D:=D) (w:=w2) _ _ _ u6
  have hk10:(kn:Int)<10:=by omega
  have h0s:0<w2.heap.size:=Keeps.lt u0
  obtain⟨W3,hW3⟩:∃W3,W3=(w2.alloc (.cells #[.bool x.k.left.isSome,.bool x.k.right.isSome,.bool c2,.bool c3,.bool c4,.int .i64 c5,.int .i64 c6] 63)).setRow (w.heap.size+1) (axc x (.slice a1 n1 m1) (.slice a2 n2 m2) (.slice a3 n3 m3)):=⟨_,rfl⟩
  have hB1c:Box (w2.alloc (.cells #[.bool x.k.left.isSome,.bool x.k.right.isSome,.bool c2,.bool c3,.bool c4,.int .i64 c5,.int .i64 c6] 63)) D w.heap.size 34 (axc x (.slice a1 n1 m1) (.slice a2 n2 m2) (.slice a3 n3 m3)):=ii
  have hB2c:Box (w2.alloc (.cells #[.bool x.k.left.isSome,.bool x.k.right.isSome,.bool c2,.bool c3,.bool c4,.int .i64 c5,.int .i64 c6] 63)) D (w.heap.size+1) 34 axz:=ii
  have hB5c:Box (w2.alloc (.cells #[.bool x.k.left.isSome,.bool x.k.right.isSome,.bool c2,.bool c3,.bool c4,.int .i64 c5,.int .i64 c6] 63)) D w2.heap.size 63 #[.bool x.k.left.isSome,.bool x.k.right.isSome,.bool c2,.bool c3,.bool c4,.int .i64 c5,.int .i64 c6]:=ii
  have hlb:=hB2b.lt
  have hn12:NeX w.heap.size (some (w.heap.size+1)):=⟨fun e=>by have:=Option.some.inj e;omega⟩
  have hn52:NeX w2.heap.size (some (w.heap.size+1)):=⟨fun e=>by have:=Option.some.inj e;omega⟩
  have hB1d:Box W3 D w.heap.size 34 (axc x (.slice a1 n1 m1) (.slice a2 n2 m2) (.slice a3 n3 m3)):=hW3▸ii
  have hB2d:Box W3 D (w.heap.size+1) 34 (axc x (.slice a1 n1 m1) (.slice a2 n2 m2) (.slice a3 n3 m3)):=hW3▸ii
  have hB5d:Box W3 D w2.heap.size 63 #[.bool x.k.left.isSome,.bool x.k.right.isSome,.bool c2,.bool c3,.bool c4,.int .i64 c5,.int .i64 c6]:=hW3▸ii
  have hG3:Gr none w D W3 D:=hW3▸ii
  have HW3:=hid hW3
  clear hW3
  go_wp2_with (first|((with_reducible show wpList _ _ _ ((⟨_,.load 34 _,_,_,_,_⟩:Oper)::_) _ _);refine wpList_load_row rfl 34 _ rfl (w.heap.size) rfl (34) _ (0,0) _ (hB1c.heap) underlying34 rfl (hz34) ?_)|(((with_reducible show wpList _ _ _ ((⟨_,.store 34 _ _,_,_,_,_⟩:Oper)::_) _ _);refine wpList_storeTo rfl 34 _ _ rfl rfl (w.heap.size+1) ((axc x (.slice a1 n1 m1) (.slice a2 n2 m2) (.slice a3 n3 m3))) rfl rfl _ (axz) (hB2c.heap) (hz34) rfl (axc_one _ _ _ _ _ _ _ _ _ _) ?_);rw[←HW3.out];refine stopL ?_))
  unfold Stop
  clear hB1b hB2b hG2 hB1c hB2c hB5c k0 v0 v1 v2 v3 v4 v5 v6 u0 u1 u2 u3 u4 u5 u6
  repeat((fail_if_success (with_reducible show Code.wp _ (Code.seq (Code.region 6 _ _) _) _ _ _));go_step)
  go_cut [3]from 6 (fun u3 wx=>∃(lo:Option C)(lq:Value)(D1:Gh),u3=.int .i64 0∧Hid (tidyO x.k.left=some lo)∧PV D1 (oP lo) lq∧Gr none w D wx D1∧Box wx D1 w.heap.size 34 (axc x (.slice a1 n1 m1) (.slice a2 n2 m2) (.slice a3 n3 m3))∧Box wx D1 (w.heap.size+1) 34 (axg x.k.kind x.op lo x.k.right lq (.slice a2 n2 m2) (.slice a3 n3 m3) x.k.role x.k.a x.k.b)∧
   Box wx D1 w2.heap.size 63 #[.bool x.k.left.isSome,.bool x.k.right.isSome,.bool c2,.bool c3,.bool c4,.int .i64 c5,.int .i64 c6])
  case first=>
   have:=hG3.keeps
   obtain⟨ol,hx⟩:∃ol,x.k.left=ol:=⟨_,rfl⟩
   cases ol with
   |none=>
    have hle0:=HLE0.out;rw[hx]at hle0;simp[tidyO]at hle0
   |some l=>
    have hi:x.k.left.isSome=true:=by rw[hx];rfl
    have hu:W3.cell? ⟨w2.heap.size,0,none⟩=some (.bool x.k.left.isSome):=(Box.held (h:=hB5d) (i:=0) rfl).1
    rw[hi]at hu
    have q0:W3.cell? ⟨w.heap.size,2,none⟩=some (.int .i64 (oK x.k.left)):=(Box.held (h:=hB1d) (i:=2) rfl).1
    have q1:W3.cell? ⟨w.heap.size,3,none⟩=some (.string (str (oN x.k.left))):=(Box.held (h:=hB1d) (i:=3) rfl).1
    have q2:W3.cell? ⟨w.heap.size,4,none⟩=some (.int .i64 (oLo x.k.left)):=(Box.held (h:=hB1d) (i:=4) rfl).1
    have q3:W3.cell? ⟨w.heap.size,5,none⟩=some (.int .i64 (oHi x.k.left)):=(Box.held (h:=hB1d) (i:=5) rfl).1
    have q4:W3.cell? ⟨w.heap.size,6,none⟩=some (.slice a1 n1 m1):=(Box.held (h:=hB1d) (i:=6) rfl).1
    rw[hx]at q0 q1 q2 q3
    simp only[oK,oN,oLo,oHi]at q0 q1 q2 q3
    have hpl:PV D l.parts (.slice a1 n1 m1):=by have:=hl;rw[hx]at this;exact this
    have hls:=HSZ.out.1 l hx
    have HX:=hid hx
    clear hx hi
    go_wp2_with fail
    refine(tidy_c _ D l a1 n1 m1 hls hpl).mono ?_
    intro e w4 h4
    cases hq:tidyC l with
    |none=>
     rw[hq]at h4
     obtain⟨rfl,hc4⟩:=h4
     have HN:Hid (R=none):=hid (by rw[HRT.out,tidyK_noL (by rw[HX.out];simp[tidyO,hq])];rfl)
     have hB4:Box w4 D (w.heap.size+1) 34 (axc x (.slice a1 n1 m1) (.slice a2 n2 m2) (.slice a3 n3 m3)):=ii
     have hG4:Gr none w D w4 D:=ii
     have:=hB4.off
     have hB4s:Box (w4.setCells (w.heap.size+1) 2 [.int .i64 0,.string ⟨#[]⟩,.int .i64 0,.int .i64 0,.slice none 0 0]) D (w.heap.size+1) 34 _:=(ii:Box (((((w4.setCell ⟨w.heap.size+1,2,none⟩ (.int .i64 0)).setCell ⟨w.heap.size+1,3,none⟩ (.string ⟨#[]⟩)).setCell ⟨w.heap.size+1,4,none⟩ (.int .i64 0)).setCell ⟨w.heap.size+1,5,none⟩ (.int .i64 0)).setCell ⟨w.heap.size+1,6,none⟩ (.slice none 0 0)) D (w.heap.size+1) 34 _)
     have hG4s:Gr none w D (w4.setCells (w.heap.size+1) 2 [.int .i64 0,.string ⟨#[]⟩,.int .i64 0,.int .i64 0,.slice none 0 0]) D:=(ii:Gr none w D (((((w4.setCell ⟨w.heap.size+1,2,none⟩ (.int .i64 0)).setCell ⟨w.heap.size+1,3,none⟩ (.string ⟨#[]⟩)).setCell ⟨w.heap.size+1,4,none⟩ (.int .i64 0)).setCell ⟨w.heap.size+1,5,none⟩ (.int .i64 0)).setCell ⟨w.heap.size+1,6,none⟩ (.slice none 0 0)) D)
     clear hq
     go_wp2_with (first
      |((with_reducible show wpList _ _ _ ((⟨_,.store 34 _ _,_,_,_,_⟩:Oper)::_) _ _);refine wpList_storeTo rfl 34 _ _ rfl rfl (w.heap.size+1) (axz) rfl rfl _ (_) (hB4s.heap) (hz34) rfl (axz_one) ?_)
      |((with_reducible show wpList _ _ _ ((⟨none,.store 31 _ _,_,_,_,_⟩:Oper)::_) _ _);refine wpList_store_mid rfl 31 _ _ rfl (w.heap.size+1) 2 (#[.int .i64 0,.string ⟨#[]⟩,.int .i64 0,.int .i64 0,.slice none 0 0]) rfl rfl (Box.there hB4 2 5 (by show _≤16;omega)) hz31 (ccs_one _ _ _ _ _ _ _) ?_))
     have hB5:Box ((w4.setCells (w.heap.size+1) 2 [.int .i64 0,.string ⟨#[]⟩,.int .i64 0,.int .i64 0,.slice none 0 0]).setRow (w.heap.size+1) axz) D (w.heap.size+1) 34 axz:=ii
     have:=hB4s.off
     have hG5:Gr none w D ((w4.setCells (w.heap.size+1) 2 [.int .i64 0,.string ⟨#[]⟩,.int .i64 0,.int .i64 0,.slice none 0 0]).setRow (w.heap.size+1) axz) D:=ii
     have:=hG5.toBel
     refine bodyPost_ret (v:=.tuple #[.agg axz,.int .i64 2]) ?_ rfl ?_
     ·simp[results,results6,go_sem,Box.cell (h:=hB5)]
     ·rw[HN.out]
      exact⟨2,by decide,rfl,Bel.c⟩
    |some y=>
     have hle0:=HLE0.out;rw[HX.out]at hle0;simp[tidyO,hq]at hle0
  case rest=>
   obtain⟨lo,lq,D1,rfl,HLO,hlq,hGc,hB1e,hB2e,hB5e⟩:=hcut;have:=HLO.out;rw[HLE0.out]at this;cases this
theorem tidyAx3(w:World)(D:Gh)(x:Ax)(lp rp rl:Value)(hv:AV D x lp rp rl)(hw:x.k.wf)(h0:chkK x.k=0)(hls0:x.k.left≠none)(hlo0:tidyO x.k.left≠none)(hre0:tidyO x.k.right=none)[hk:Keeps D w][hT:TB D]:
  Calls prog 6 #[.agg (axc x lp rp rl)] w (TARet w D x.tidy):=by
 obtain⟨R,hR⟩:∃R,R=x.tidy:=⟨_,rfl⟩
 rw[←hR]
 have HR:=hid hR
 clear hR
 have HV:=hid hv
 have HWF:=hid hw
 obtain⟨hl,hr,hs⟩:=hv
 obtain⟨a1,m1,rfl,_,_⟩:=PV.form hl
 obtain⟨a2,m2,rfl,_,_⟩:=PV.form hr
 obtain⟨a3,m3,rfl,_,_⟩:=SlN.form hs
 generalize hn1:(oP x.k.left).length=n1 at*
 generalize hn2:(oP x.k.right).length=n2 at*
 generalize hn3:x.k.roles.length=n3 at*
 obtain⟨kn,c2,c3,c4,c5,c6,hkk,hkn,u0,u1,u2,u3,u4,u5,u6⟩:=usesAt (D:=D) x.k
 have HKK:=hid hkk
 obtain⟨W1,hW1⟩:∃W1,W1=(w.alloc (.cells (axc x (.slice a1 n1 m1) (.slice a2 n2 m2) (.slice a3 n3 m3)) 34)).alloc (.cells axz 34):=⟨_,rfl⟩
 have hB1:Box W1 D w.heap.size 34 (axc x (.slice a1 n1 m1) (.slice a2 n2 m2) (.slice a3 n3 m3)):=hW1▸ii
 have hB2:Box W1 D (w.heap.size+1) 34 axz:=by rw[hW1];exact Box.newAt (by simp)
 have hG1:Gr none w D W1 D:=hW1▸ii
 have HW1:=hid hW1
 have:=hG1.keeps
 clear hW1 hn1 hn2 hn3 hkk hw
 go_enter func6,ntmps6
 repeat((fail_if_success (with_reducible show Code.wp _ (Code.region 1 _ _) _ _ _));go_step)
 rw[←HW1.out]
 go_wp2_with (((with_reducible show wpList _ _ _ ((⟨_,.load 34 _,_,_,_,_⟩:Oper)::_) _ _);refine wpList_load_row rfl 34 _ rfl (w.heap.size) rfl (34) _ (0,0) _ (hB1.heap) underlying34 rfl (hz34) ?_))
 refine(checkAxiom_c W1 D x _ _ _ HV.out HWF.out).mono ?_
 rintro e w2 ⟨rfl,hc2⟩
 have hB1b:Box w2 D w.heap.size 34 (axc x (.slice a1 n1 m1) (.slice a2 n2 m2) (.slice a3 n3 m3)):=ii
 have hB2b:Box w2 D (w.heap.size+1) 34 axz:=ii
 have hG2:Gr none w D w2 D:=ii
 have:=hG2.keeps
 have:=hB2b.off
 clear hB1 hB2 hG1 hc2
 have HLS0:=hid hls0
 clear hls0
 have HLO0:=hid hlo0
 clear hlo0
 have HRE0:=hid hre0
 clear hre0
 ·have hok:=(chkK_zero x.k).1 h0
  have HRT:Hid (R=(tidyK x.k).map fun k=>⟨x.op,k⟩):=hid (by rw[HR.out,Ax.tidy,if_pos hok])
  have HSZ:=hid (ok_size hok)
  rw[h0]
  clear h0 hok HR
  have k0:w2.cell? ⟨w.heap.size,0,none⟩=some (.int .i64 (kn:Int)):=by rw[←HKK.out];exact(hB1b.held (i:=0) rfl).1
  have v0:=Keeps.out (D:=D) (w:=w2) _ _ _ u0
  have v1:=Keeps.out (D:=D) (w:=w2) _ _ _ u1
  have v2:=Keeps.out (D:=D) (w:=w2) _ _ _ u2
  have v3:=Keeps.out (D:=D) (w:=w2) _ _ _ u3
  have v4:=Keeps.out (D:=D) (w:=w2) _ _ _ u4
  have v5:=Keeps.out (D:=D) (w:=w2) _ _ _ u5
  have v6:=Keeps.out (D:=D) (w:=w2) _ _ _ u6
  have hk10:(kn:Int)<10:=by omega
  have h0s:0<w2.heap.size:=Keeps.lt u0
  obtain⟨W3,hW3⟩:∃W3,W3=(w2.alloc (.cells #[.bool x.k.left.isSome,.bool x.k.right.isSome,.bool c2,.bool c3,.bool c4,.int .i64 c5,.int .i64 c6] 63)).setRow (w.heap.size+1) (axc x (.slice a1 n1 m1) (.slice a2 n2 m2) (.slice a3 n3 m3)):=⟨_,rfl⟩
  have hB1c:Box (w2.alloc (.cells #[.bool x.k.left.isSome,.bool x.k.right.isSome,.bool c2,.bool c3,.bool c4,.int .i64 c5,.int .i64 c6] 63)) D w.heap.size 34 (axc x (.slice a1 n1 m1) (.slice a2 n2 m2) (.slice a3 n3 m3)):=ii
  have hB2c:Box (w2.alloc (.cells #[.bool x.k.left.isSome,.bool x.k.right.isSome,.bool c2,.bool c3,.bool c4,.int .i64 c5,.int .i64 c6] 63)) D (w.heap.size+1) 34 axz:=ii
  have hB5c:Box (w2.alloc (.cells #[.bool x.k.left.isSome,.bool x.k.right.isSome,.bool c2,.bool c3,.bool c4,.int .i64 c5,.int .i64 c6] 63)) D w2.heap.size 63 #[.bool x.k.left.isSome,.bool x.k.right.isSome,.bool c2,.bool c3,.bool c4,.int .i64 c5,.int .i64 c6]:=ii
  have hlb:=hB2b.lt
  have hn12:NeX w.heap.size (some (w.heap.size+1)):=⟨fun e=>by have:=Option.some.inj e;omega⟩
  have hn52:NeX w2.heap.size (some (w.heap.size+1)):=⟨fun e=>by have:=Option.some.inj e;omega⟩
  have hB1d:Box W3 D w.heap.size 34 (axc x (.slice a1 n1 m1) (.slice a2 n2 m2) (.slice a3 n3 m3)):=hW3▸ii
  have hB2d:Box W3 D (w.heap.size+1) 34 (axc x (.slice a1 n1 m1) (.slice a2 n2 m2) (.slice a3 n3 m3)):=hW3▸ii
  have hB5d:Box W3 D w2.heap.size 63 #[.bool x.k.left.isSome,.bool x.k.right.isSome,.bool c2,.bool c3,.bool c4,.int .i64 c5,.int .i64 c6]:=hW3▸ii
  have hG3:Gr none w D W3 D:=hW3▸ii
  have HW3:=hid hW3
  clear hW3
  go_wp2_with (first|((with_reducible show wpList _ _ _ ((⟨_,.load 34 _,_,_,_,_⟩:Oper)::_) _ _);refine wpList_load_row rfl 34 _ rfl (w.heap.size) rfl (34) _ (0,0) _ (hB1c.heap) underlying34 rfl (hz34) ?_)|(((with_reducible show wpList _ _ _ ((⟨_,.store 34 _ _,_,_,_,_⟩:Oper)::_) _ _);refine wpList_storeTo rfl 34 _ _ rfl rfl (w.heap.size+1) ((axc x (.slice a1 n1 m1) (.slice a2 n2 m2) (.slice a3 n3 m3))) rfl rfl _ (axz) (hB2c.heap) (hz34) rfl (axc_one _ _ _ _ _ _ _ _ _ _) ?_);rw[←HW3.out];refine stopL ?_))
  unfold Stop
  clear hB1b hB2b hG2 hB1c hB2c hB5c k0 v0 v1 v2 v3 v4 v5 v6 u0 u1 u2 u3 u4 u5 u6
  repeat((fail_if_success (with_reducible show Code.wp _ (Code.seq (Code.region 6 _ _) _) _ _ _));go_step)
  go_cut [3]from 6 (fun u3 wx=>∃(lo:Option C)(lq:Value)(D1:Gh),u3=.int .i64 0∧Hid (tidyO x.k.left=some lo)∧PV D1 (oP lo) lq∧Gr none w D wx D1∧Box wx D1 w.heap.size 34 (axc x (.slice a1 n1 m1) (.slice a2 n2 m2) (.slice a3 n3 m3))∧Box wx D1 (w.heap.size+1) 34 (axg x.k.kind x.op lo x.k.right lq (.slice a2 n2 m2) (.slice a3 n3 m3) x.k.role x.k.a x.k.b)∧
   Box wx D1 w2.heap.size 63 #[.bool x.k.left.isSome,.bool x.k.right.isSome,.bool c2,.bool c3,.bool c4,.int .i64 c5,.int .i64 c6])
  case first=>
   have:=hG3.keeps
   obtain⟨ol,hx⟩:∃ol,x.k.left=ol:=⟨_,rfl⟩
   cases ol with
   |none=>
    exact absurd hx HLS0.out
   |some l=>
    have hi:x.k.left.isSome=true:=by rw[hx];rfl
    have hu:W3.cell? ⟨w2.heap.size,0,none⟩=some (.bool x.k.left.isSome):=(Box.held (h:=hB5d) (i:=0) rfl).1
    rw[hi]at hu
    have q0:W3.cell? ⟨w.heap.size,2,none⟩=some (.int .i64 (oK x.k.left)):=(Box.held (h:=hB1d) (i:=2) rfl).1
    have q1:W3.cell? ⟨w.heap.size,3,none⟩=some (.string (str (oN x.k.left))):=(Box.held (h:=hB1d) (i:=3) rfl).1
    have q2:W3.cell? ⟨w.heap.size,4,none⟩=some (.int .i64 (oLo x.k.left)):=(Box.held (h:=hB1d) (i:=4) rfl).1
    have q3:W3.cell? ⟨w.heap.size,5,none⟩=some (.int .i64 (oHi x.k.left)):=(Box.held (h:=hB1d) (i:=5) rfl).1
    have q4:W3.cell? ⟨w.heap.size,6,none⟩=some (.slice a1 n1 m1):=(Box.held (h:=hB1d) (i:=6) rfl).1
    rw[hx]at q0 q1 q2 q3
    simp only[oK,oN,oLo,oHi]at q0 q1 q2 q3
    have hpl:PV D l.parts (.slice a1 n1 m1):=by have:=hl;rw[hx]at this;exact this
    have hls:=HSZ.out.1 l hx
    have HX:=hid hx
    clear hx hi
    go_wp2_with fail
    refine(tidy_c _ D l a1 n1 m1 hls hpl).mono ?_
    intro e w4 h4
    cases hq:tidyC l with
    |none=>
     exact absurd (show tidyO x.k.left=none by rw[HX.out];simp[tidyO,hq]) HLO0.out
    |some y=>
     rw[hq]at h4
     obtain⟨py,D4,rfl,hpy,hg4⟩:=h4
     obtain⟨ay,my,rfl,_,_⟩:=PV.form hpy
     have:=hg4.keeps
     have:=hg4.le
     have hB4:Box w4 D4 (w.heap.size+1) 34 (axc x (.slice a1 n1 m1) (.slice a2 n2 m2) (.slice a3 n3 m3)):=ii
     have hB14:Box w4 D4 w.heap.size 34 (axc x (.slice a1 n1 m1) (.slice a2 n2 m2) (.slice a3 n3 m3)):=ii
     have hB54:Box w4 D4 w2.heap.size 63 #[.bool x.k.left.isSome,.bool x.k.right.isSome,.bool c2,.bool c3,.bool c4,.int .i64 c5,.int .i64 c6]:=ii
     have hG4:Gr none w D w4 D4:=ii
     have:=hB4.off
     have HQ:Hid (tidyO x.k.left=some (some y)):=hid (by rw[HX.out];simp[tidyO,hq])
     clear hq
     go_wp2_with ((with_reducible show wpList _ _ _ ((⟨none,.store 31 _ _,_,_,_,_⟩:Oper)::_) _ _);refine wpList_store_mid rfl 31 _ _ rfl (w.heap.size+1) 2 (#[.int .i64 y.kind,.string (str y.nm),.int .i64 y.lo,.int .i64 y.hi,.slice ay y.parts.length my]) rfl rfl (Box.there hB4 2 5 (by show _≤16;omega)) hz31 (ccs_one _ _ _ _ _ _ _) ?_)
     go_meet
     case rel=>
      have e2:Box (((((w4.setCell ⟨w.heap.size+1,2,none⟩ (.int .i64 y.kind)).setCell ⟨w.heap.size+1,3,none⟩ (.string (str y.nm))).setCell ⟨w.heap.size+1,4,none⟩ (.int .i64 y.lo)).setCell ⟨w.heap.size+1,5,none⟩ (.int .i64 y.hi)).setCell ⟨w.heap.size+1,6,none⟩ (.slice ay y.parts.length my)) D4 (w.heap.size+1) 34 _:=ii
      have e1:Box (((((w4.setCell ⟨w.heap.size+1,2,none⟩ (.int .i64 y.kind)).setCell ⟨w.heap.size+1,3,none⟩ (.string (str y.nm))).setCell ⟨w.heap.size+1,4,none⟩ (.int .i64 y.lo)).setCell ⟨w.heap.size+1,5,none⟩ (.int .i64 y.hi)).setCell ⟨w.heap.size+1,6,none⟩ (.slice ay y.parts.length my)) D4 w.heap.size 34 (axc x (.slice a1 n1 m1) (.slice a2 n2 m2) (.slice a3 n3 m3)):=ii
      have e5:Box (((((w4.setCell ⟨w.heap.size+1,2,none⟩ (.int .i64 y.kind)).setCell ⟨w.heap.size+1,3,none⟩ (.string (str y.nm))).setCell ⟨w.heap.size+1,4,none⟩ (.int .i64 y.lo)).setCell ⟨w.heap.size+1,5,none⟩ (.int .i64 y.hi)).setCell ⟨w.heap.size+1,6,none⟩ (.slice ay y.parts.length my)) D4 w2.heap.size 63 #[.bool x.k.left.isSome,.bool x.k.right.isSome,.bool c2,.bool c3,.bool c4,.int .i64 c5,.int .i64 c6]:=ii
      have eg:Gr none w D (((((w4.setCell ⟨w.heap.size+1,2,none⟩ (.int .i64 y.kind)).setCell ⟨w.heap.size+1,3,none⟩ (.string (str y.nm))).setCell ⟨w.heap.size+1,4,none⟩ (.int .i64 y.lo)).setCell ⟨w.heap.size+1,5,none⟩ (.int .i64 y.hi)).setCell ⟨w.heap.size+1,6,none⟩ (.slice ay y.parts.length my)) D4:=ii
      exact⟨some y,.slice ay y.parts.length my,D4,rfl,HQ,hpy,eg,e1,e2,e5⟩
  case rest=>
   obtain⟨lo,lq,D1,rfl,HLO,hlq,hGc,hB1e,hB2e,hB5e⟩:=hcut
   obtain⟨lqa,lqm,rfl,_,_⟩:=PV.form hlq
   generalize hln:(oP lo).length=lqn at*
   have:=hGc.keeps
   have:=gr_le hGc
   have hr1:PV D1 (oP x.k.right) (.slice a2 n2 m2):=ii
   have:=hB2e.off
   clear hG3 hB1d hB2d hB5d HW1 HW3 hln
   repeat((fail_if_success (with_reducible show Code.wp _ (Code.seq (Code.region 10 _ _) _) _ _ _));go_step)
   go_cut [3]from 6 (fun u3 wx=>∃(ro:Option C)(rq:Value)(D2:Gh),u3=.int .i64 0∧Hid (tidyO x.k.right=some ro)∧PV D2 (oP lo) (.slice lqa lqn lqm)∧PV D2 (oP ro) rq∧Gr none w D wx D2∧Box wx D2 w.heap.size 34 (axc x (.slice a1 n1 m1) (.slice a2 n2 m2) (.slice a3 n3 m3))∧Box wx D2 (w.heap.size+1) 34 (axg x.k.kind x.op lo ro (.slice lqa lqn lqm) rq (.slice a3 n3 m3) x.k.role x.k.a x.k.b))
   case first=>
    obtain⟨ol,hx⟩:∃ol,x.k.right=ol:=⟨_,rfl⟩
    cases ol with
    |none=>
     have hre0:=HRE0.out;rw[hx]at hre0;simp[tidyO]at hre0
    |some l=>
     have hi:x.k.right.isSome=true:=by rw[hx];rfl
     have hu:wc.cell? ⟨w2.heap.size,1,none⟩=some (.bool x.k.right.isSome):=(Box.held (h:=hB5e) (i:=1) rfl).1
     rw[hi]at hu
     have q0:wc.cell? ⟨w.heap.size,7,none⟩=some (.int .i64 (oK x.k.right)):=(Box.held (h:=hB1e) (i:=7) rfl).1
     have q1:wc.cell? ⟨w.heap.size,8,none⟩=some (.string (str (oN x.k.right))):=(Box.held (h:=hB1e) (i:=8) rfl).1
     have q2:wc.cell? ⟨w.heap.size,9,none⟩=some (.int .i64 (oLo x.k.right)):=(Box.held (h:=hB1e) (i:=9) rfl).1
     have q3:wc.cell? ⟨w.heap.size,10,none⟩=some (.int .i64 (oHi x.k.right)):=(Box.held (h:=hB1e) (i:=10) rfl).1
     have q4:wc.cell? ⟨w.heap.size,11,none⟩=some (.slice a2 n2 m2):=(Box.held (h:=hB1e) (i:=11) rfl).1
     rw[hx]at q0 q1 q2 q3
     simp only[oK,oN,oLo,oHi]at q0 q1 q2 q3
     have hpl:PV D1 l.parts (.slice a2 n2 m2):=by have:=hr1;rw[hx]at this;exact this
     have hls:=HSZ.out.2 l hx
     have HX:=hid hx
     clear hx hi
     go_wp2_with fail
     refine(tidy_c _ D1 l a2 n2 m2 hls hpl).mono ?_
     intro e w4 h4
     cases hq:tidyC l with
     |none=>
      rw[hq]at h4
      obtain⟨rfl,hc4⟩:=h4
      have HN:Hid (R=none):=hid (by rw[HRT.out,tidyK_noR (by rw[HX.out];simp[tidyO,hq])];rfl)
      have hB4:Box w4 D1 (w.heap.size+1) 34 (axg x.k.kind x.op lo x.k.right (.slice lqa lqn lqm) (.slice a2 n2 m2) (.slice a3 n3 m3) x.k.role x.k.a x.k.b):=ii
      have hG4:Gr none w D w4 D1:=ii
      have:=hB4.off
      have hB4s:Box (w4.setCells (w.heap.size+1) 7 [.int .i64 0,.string ⟨#[]⟩,.int .i64 0,.int .i64 0,.slice none 0 0]) D1 (w.heap.size+1) 34 _:=(ii:Box (((((w4.setCell ⟨w.heap.size+1,7,none⟩ (.int .i64 0)).setCell ⟨w.heap.size+1,8,none⟩ (.string ⟨#[]⟩)).setCell ⟨w.heap.size+1,9,none⟩ (.int .i64 0)).setCell ⟨w.heap.size+1,10,none⟩ (.int .i64 0)).setCell ⟨w.heap.size+1,11,none⟩ (.slice none 0 0)) D1 (w.heap.size+1) 34 _)
      have hG4s:Gr none w D (w4.setCells (w.heap.size+1) 7 [.int .i64 0,.string ⟨#[]⟩,.int .i64 0,.int .i64 0,.slice none 0 0]) D1:=(ii:Gr none w D (((((w4.setCell ⟨w.heap.size+1,7,none⟩ (.int .i64 0)).setCell ⟨w.heap.size+1,8,none⟩ (.string ⟨#[]⟩)).setCell ⟨w.heap.size+1,9,none⟩ (.int .i64 0)).setCell ⟨w.heap.size+1,10,none⟩ (.int .i64 0)).setCell ⟨w.heap.size+1,11,none⟩ (.slice none 0 0)) D1)
      clear hq
      go_wp2_with (first
       |((with_reducible show wpList _ _ _ ((⟨_,.store 34 _ _,_,_,_,_⟩:Oper)::_) _ _);refine wpList_storeTo rfl 34 _ _ rfl rfl (w.heap.size+1) (axz) rfl rfl _ (_) (hB4s.heap) (hz34) rfl (axz_one) ?_)
       |((with_reducible show wpList _ _ _ ((⟨none,.store 31 _ _,_,_,_,_⟩:Oper)::_) _ _);refine wpList_store_mid rfl 31 _ _ rfl (w.heap.size+1) 7 (#[.int .i64 0,.string ⟨#[]⟩,.int .i64 0,.int .i64 0,.slice none 0 0]) rfl rfl (Box.there hB4 7 5 (by show _≤16;omega)) hz31 (ccs_one _ _ _ _ _ _ _) ?_))
      have hB5:Box ((w4.setCells (w.heap.size+1) 7 [.int .i64 0,.string ⟨#[]⟩,.int .i64 0,.int .i64 0,.slice none 0 0]).setRow (w.heap.size+1) axz) D1 (w.heap.size+1) 34 axz:=ii
      have:=hB4s.off
      have hG5:Gr none w D ((w4.setCells (w.heap.size+1) 7 [.int .i64 0,.string ⟨#[]⟩,.int .i64 0,.int .i64 0,.slice none 0 0]).setRow (w.heap.size+1) axz) D1:=ii
      have:=hG5.toBel
      refine bodyPost_ret (v:=.tuple #[.agg axz,.int .i64 2]) ?_ rfl ?_
      ·simp[results,results6,go_sem,Box.cell (h:=hB5)]
      ·rw[HN.out]
       exact⟨2,by decide,rfl,Bel.c⟩
     |some y=>
      have hre0:=HRE0.out;rw[HX.out]at hre0;simp[tidyO,hq]at hre0
   case rest=>
    obtain⟨ro,rq,D2,rfl,HRO,hlq2,hrq,hGe,hB1f,hB2f⟩:=hcut;have:=HRO.out;rw[HRE0.out]at this;cases this
end Go.Proofs.YticgonfhjcaohaaGreatDoor
