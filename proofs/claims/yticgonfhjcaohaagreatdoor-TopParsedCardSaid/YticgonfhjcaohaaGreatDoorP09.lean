/- TopParsed, part 9. -/
import Derived.Test.YticgonfhjcaohaaGreatDoorP05
set_option maxRecDepth 100000
set_option maxHeartbeats 32000000
namespace Go.Proofs.YticgonfhjcaohaaGreatDoor
open Go.RowKit Go.VT _root_.Go.Proofs.Tryz
def CRet(w:World)(D:Gh)(p:PC)(k:Nat)(c:C)(r:List Tk)(e:Ending)(w':World):Prop:=
 ∃pv D' k',e=.returned (cv c pv)∧PV D' c.parts pv∧Gro (some p.g) w D w' D'∧PS w' D' p k'∧r=p.ts k'∧k<k'
theorem PC.ts_len(p:PC)(k:Nat):(p.ts k).length=p.toks.length-k:=by simp[PC.ts]
theorem leaf_ret{w:World}{D:Gh}{p:PC}{k k':Nat}{c:C}{e:Ending}{w':World}(he:e=.returned (cv c (.slice none 0 0)))(hc:c.parts=[])(hg:Gro (some p.g) w D w' D)(hP:PS w' D p k')(hk:k<k'):CRet w D p k c (p.ts k') e w':=
 ⟨_,D,k',he,hc▸ .nil,hg,hP,rfl,hk⟩
theorem Box.held5{w:World}{D:Gh}{g:Nat}{t:TypeId}{a b c d e:Value}(h:Box w D g t #[a,b,c,d,e]):
  (w.cell? ⟨g,0,none⟩=some a∧w.cell? ⟨g,1,none⟩=some b∧w.cell? ⟨g,2,none⟩=some c∧w.cell? ⟨g,3,none⟩=some d∧w.cell? ⟨g,4,none⟩=some e)∧
  (w.frozen? ⟨g,0,none⟩=false∧w.frozen? ⟨g,1,none⟩=false∧w.frozen? ⟨g,2,none⟩=false∧w.frozen? ⟨g,3,none⟩=false∧w.frozen? ⟨g,4,none⟩=false)∧g<w.heap.size:=
 ⟨⟨Box.cell (h:=h) 0,Box.cell (h:=h) 1,Box.cell (h:=h) 2,Box.cell (h:=h) 3,Box.cell (h:=h) 4⟩,⟨Box.frozen (h:=h) 0,Box.frozen (h:=h) 1,Box.frozen (h:=h) 2,Box.frozen (h:=h) 3,Box.frozen (h:=h) 4⟩,Box.lt (h:=h)⟩
theorem bad_ret{w w':World}{D D':Gh}{p:PC}{k k':Nat}{e:Ending}(he:Fault e)(hg:Gro (some p.g) w D w' D')(hP:PS w' D' p k')(hk:k≤k'):Bad w D p k e w':=⟨he,D',k',hg,hk,hP⟩
theorem single_top(w:World)(D:Gh)(p:PC)(k:Nat)(h:hd (p.ts k)=w_everything)[Keeps D w][hP:PS w D p k][hT:TS D p]:
  Calls prog 160 #[p.ptr] w (CRet w D p k .top (p.ts (k+1))):=by
 have hb:=Box.lt (h:=hP.box)
 have hn:NeX w.heap.size (some p.g):=ne_size hb 0
 have:=hP.box.off
 go_enter func160,ntmps160
 go_wp2_with fail
 refine(skip_yes _ D p (k) w_everything (h) (by simp)).mono ?_
 rintro e w1 ⟨rfl,hc1,hP1⟩
 clear h
 have hB1:Box w1 D w.heap.size 31 #[.int .i64 0,.string ⟨#[]⟩,.int .i64 0,.int .i64 0,.slice none 0 0]:=ii
 have q1:=Box.held5 hB1
 go_wp2
 exact bodyPost_ret (v:=.agg #[.int .i64 1,.string ⟨#[]⟩,.int .i64 0,.int .i64 0,.slice none 0 0]) (by simp[results,results160,go_sem,Box.cell (D:=D) (g:=w.heap.size)]) rfl (leaf_ret rfl rfl Gr.g ii (by omega))
theorem single_bot(w:World)(D:Gh)(p:PC)(k:Nat)(h:hd (p.ts k)=w_nothing)[Keeps D w][hP:PS w D p k][hT:TS D p]:
  Calls prog 160 #[p.ptr] w (CRet w D p k .bot (p.ts (k+1))):=by
 have hb:=Box.lt (h:=hP.box)
 have hn:NeX w.heap.size (some p.g):=ne_size hb 0
 have:=hP.box.off
 go_enter func160,ntmps160
 go_wp2_with fail
 refine(skip_no _ D p (k) w_everything (by rw[h];decide)).mono ?_
 rintro e w1 ⟨rfl,hc1⟩
 go_wp2_with fail
 refine(skip_yes _ D p (k) w_nothing (h) (by simp)).mono ?_
 rintro e w2 ⟨rfl,hc2,hP2⟩
 clear h
 have hB2:Box w2 D w.heap.size 31 #[.int .i64 0,.string ⟨#[]⟩,.int .i64 0,.int .i64 0,.slice none 0 0]:=ii
 have q2:=Box.held5 hB2
 go_wp2
 exact bodyPost_ret (v:=.agg #[.int .i64 2,.string ⟨#[]⟩,.int .i64 0,.int .i64 0,.slice none 0 0]) (by simp[results,results160,go_sem,Box.cell (D:=D) (g:=w.heap.size)]) rfl (leaf_ret rfl rfl Gr.g ii (by omega))
theorem single_nom(w:World)(D:Gh)(p:PC)(k:Nat)(h:hd (p.ts k)=[123])(s:Bs)(r:List Tk)(h1:pName (p.ts (k+1))=some (s,r))(h2:hd (p.ts (k+1+1))=[125])[Keeps D w][hP:PS w D p k][hT:TS D p]:
  Calls prog 160 #[p.ptr] w (CRet w D p k (.nom s) (p.ts (k+1+1+1))):=by
 have hb:=Box.lt (h:=hP.box)
 have hn:NeX w.heap.size (some p.g):=ne_size hb 0
 have:=hP.box.off
 go_enter func160,ntmps160
 go_wp2_with fail
 refine(skip_no _ D p (k) w_everything (by rw[h];decide)).mono ?_
 rintro e w1 ⟨rfl,hc1⟩
 go_wp2_with fail
 refine(skip_no _ D p (k) w_nothing (by rw[h];decide)).mono ?_
 rintro e w2 ⟨rfl,hc2⟩
 go_wp2_with fail
 refine(skip_yes _ D p (k) [123] (h) (by simp)).mono ?_
 rintro e w3 ⟨rfl,hc3,hP3⟩
 clear h
 go_wp2_with fail
 refine(name_ok _ D p (k+1) s r (h1)).mono ?_
 rintro e w4 ⟨rfl,hc4,hP4⟩
 clear h1
 have hB4:Box w4 D w.heap.size 31 #[.int .i64 0,.string ⟨#[]⟩,.int .i64 0,.int .i64 0,.slice none 0 0]:=ii
 have q4:=Box.held5 hB4
 go_wp2_with fail
 refine(want_ok _ D p (k+1+1) [125] (h2) (by simp)).mono ?_
 rintro e w5 ⟨rfl,hc5,hP5⟩
 clear h2
 have hB5:Box w5 D w.heap.size 31 #[.int .i64 4,.string (str s),.int .i64 0,.int .i64 0,.slice none 0 0]:=ii
 have q5:=Box.held5 hB5
 go_wp2
 exact bodyPost_ret (v:=.agg #[.int .i64 4,.string (str s),.int .i64 0,.int .i64 0,.slice none 0 0]) (by simp[results,results160,go_sem,Box.cell (D:=D) (g:=w.heap.size)]) rfl (leaf_ret rfl rfl Gr.g ii (by omega))
theorem single_nom1(w:World)(D:Gh)(p:PC)(k:Nat)(h:hd (p.ts k)=[123])(h1:pName (p.ts (k+1))=none)[Keeps D w][hP:PS w D p k][hT:TS D p]:
  Calls prog 160 #[p.ptr] w (Bad w D p k):=by
 have hb:=Box.lt (h:=hP.box)
 have hn:NeX w.heap.size (some p.g):=ne_size hb 0
 have:=hP.box.off
 go_enter func160,ntmps160
 go_wp2_with fail
 refine(skip_no _ D p (k) w_everything (by rw[h];decide)).mono ?_
 rintro e w1 ⟨rfl,hc1⟩
 go_wp2_with fail
 refine(skip_no _ D p (k) w_nothing (by rw[h];decide)).mono ?_
 rintro e w2 ⟨rfl,hc2⟩
 go_wp2_with fail
 refine(skip_yes _ D p (k) [123] (h) (by simp)).mono ?_
 rintro e w3 ⟨rfl,hc3,hP3⟩
 clear h
 go_wp2_with fail
 refine(name_bad _ D p (k+1) h1).mono ?_
 rintro e w4 ⟨⟨_,_,rfl⟩,hc4⟩
 go_wp2
 exact⟨rfl,bad_ret ⟨_,_,rfl⟩ (Gr.g (D:=D)) (k':=k+1) ii (by omega)⟩
theorem single_nom2(w:World)(D:Gh)(p:PC)(k:Nat)(h:hd (p.ts k)=[123])(s:Bs)(r:List Tk)(h1:pName (p.ts (k+1))=some (s,r))(h2:hd (p.ts (k+1+1))≠[125])[Keeps D w][hP:PS w D p k][hT:TS D p]:
  Calls prog 160 #[p.ptr] w (Bad w D p k):=by
 have hb:=Box.lt (h:=hP.box)
 have hn:NeX w.heap.size (some p.g):=ne_size hb 0
 have:=hP.box.off
 go_enter func160,ntmps160
 go_wp2_with fail
 refine(skip_no _ D p (k) w_everything (by rw[h];decide)).mono ?_
 rintro e w1 ⟨rfl,hc1⟩
 go_wp2_with fail
 refine(skip_no _ D p (k) w_nothing (by rw[h];decide)).mono ?_
 rintro e w2 ⟨rfl,hc2⟩
 go_wp2_with fail
 refine(skip_yes _ D p (k) [123] (h) (by simp)).mono ?_
 rintro e w3 ⟨rfl,hc3,hP3⟩
 clear h
 go_wp2_with fail
 refine(name_ok _ D p (k+1) s r (h1)).mono ?_
 rintro e w4 ⟨rfl,hc4,hP4⟩
 clear h1
 have hB4:Box w4 D w.heap.size 31 #[.int .i64 0,.string ⟨#[]⟩,.int .i64 0,.int .i64 0,.slice none 0 0]:=ii
 have q4:=Box.held5 hB4
 go_wp2_with fail
 refine(want_bad _ D p (k+1+1) [125] h2).mono ?_
 rintro e w5 ⟨⟨_,_,rfl⟩,hc5⟩
 go_wp2
 exact⟨rfl,bad_ret ⟨_,_,rfl⟩ (Gr.g (D:=D)) (k':=k+1+1) ii (by omega)⟩
theorem Pub.ps{w:World}{D D':Gh}{r:Option Nat}{p:PC}{n:Nat}(P:Pub w D D' r)(h:PS w D p n)(hne:some p.g≠r):PS w D' p n:=⟨P.box h.box hne,h.lt⟩
theorem PV.lit1{w:World}{D:Gh}{g:Nat}{c:C}{pv:Value}[Keeps D w](h:Box w D g 31 #[.int .i64 c.kind,.string (str c.nm),.int .i64 c.lo,.int .i64 c.hi,pv])(hp:PV D c.parts pv):∃D',Pub w D D' (some g)∧PV D' [c] (.slice (some ⟨g,0,none⟩) 1 1):=by
 obtain⟨D',hP,hc⟩:=h.pub
 have:=hP.le
 refine⟨D',hP,.rows (l:=[c]) (pv:=fun _=>pv) (by simp) (by simp) (by omega) (fun j c' e=>?_) (fun j c' e=>?_)⟩
 ·cases j with
  |zero=>cases e;exact⟨hc 0 _ rfl,hc 1 _ rfl,hc 2 _ rfl,hc 3 _ rfl,hc 4 _ rfl⟩
  |succ j=>simp at e
 ·cases j with
  |zero=>cases e;exact ii
  |succ j=>simp at e
theorem Box.newAt{w:World}{D:Gh}{g:Nat}{t:TypeId}{cs:Array Value}[Keeps D w](h:w.heap.size=g):Box (w.alloc (.cells cs t)) D g t cs:=h▸Box.new w D t cs
theorem some_ret{w W:World}{D D1:Gh}{p:PC}{k k':Nat}{s:Bs}{c:C}{pv:Value}{g:Nat}[Keeps D1 W](hB:Box W D1 g 31 #[.int .i64 c.kind,.string (str c.nm),.int .i64 c.lo,.int .i64 c.hi,pv])(hp:PV D1 c.parts pv)
  (hg:Gr (some p.g) w D W D1) (hnew:w.heap.size≤g) (hP:PS W D1 p k') (hne:p.g<g) (hk:k<k'):
  CRet w D p k (.some s c) (p.ts k') (.returned (.agg #[.int .i64 6,.string (str s),.int .i64 0,.int .i64 0,.slice (some ⟨g,0,none⟩) 1 1])) W:=by
 obtain⟨D2,h2,h3⟩:=PV.lit1 hB hp
 have:=h2.gr _ _ _ hg (fun k e=>by cases e;exact hnew)
 exact⟨_,D2,k',rfl,h3,Gr.g,Pub.ps h2 hP (fun e=>by have:=Option.some.inj e;omega),rfl,hk⟩
theorem single_some(w:World)(D:Gh)(p:PC)(k:Nat)(h:hd (p.ts k)=w_some)(s:Bs)(r r':List Tk)(c:C)(h1:pName (p.ts (k+1))=some (s,r))(ih:∀(w:World)(D:Gh)[Keeps D w][PS w D p (k+1+1)][TS D p],Calls prog 160 #[p.ptr] w (CRet w D p (k+1+1) c r'))[Keeps D w][hP:PS w D p k][hT:TS D p]:
  Calls prog 160 #[p.ptr] w (CRet w D p k (.some s c) r'):=by
 have hb:=Box.lt (h:=hP.box)
 have hn:NeX w.heap.size (some p.g):=ne_size hb 0
 have:=hP.box.off
 go_enter func160,ntmps160
 go_wp2_with fail
 refine(skip_no _ D p (k) w_everything (by rw[h];decide)).mono ?_
 rintro e w1 ⟨rfl,hc1⟩
 go_wp2_with fail
 refine(skip_no _ D p (k) w_nothing (by rw[h];decide)).mono ?_
 rintro e w2 ⟨rfl,hc2⟩
 go_wp2_with fail
 refine(skip_no _ D p (k) [123] (by rw[h];decide)).mono ?_
 rintro e w3 ⟨rfl,hc3⟩
 go_wp2_with fail
 refine(skip_yes _ D p (k) w_some (h) (by simp)).mono ?_
 rintro e w4 ⟨rfl,hc4,hP4⟩
 clear h
 go_wp2_with fail
 refine(name_ok _ D p (k+1) s r (h1)).mono ?_
 rintro e w5 ⟨rfl,hc5,hP5⟩
 clear h1
 have hB5:Box w5 D w.heap.size 31 #[.int .i64 0,.string ⟨#[]⟩,.int .i64 0,.int .i64 0,.slice none 0 0]:=ii
 have q5:=Box.held5 hB5
 go_wp2_with fail
 refine(ih _ D).mono ?_
 rintro e w6 ⟨pv,D6,k6,rfl,hpv,hg6,hP6,rfl,hk6⟩
 have hle6:=hg6.le
 clear ih
 clear q5
 have hB6:Box w6 D6 w.heap.size 31 #[.int .i64 6,.string (str s),.int .i64 0,.int .i64 0,.slice none 0 0]:=ii
 have q6:=Box.held5 hB6
 have hlt:w.heap.size<w6.heap.size:=q6.2.2
 have:=hB6.off
 have:=hP6.box.off
 have:=ne_size hlt 0
 go_wp2
 exact bodyPost_ret (v:=.agg #[.int .i64 6,.string (str s),.int .i64 0,.int .i64 0,.slice (some ⟨w6.heap.size,0,none⟩) 1 1]) (by simp[results,results160,go_sem,Box.cell (D:=D6) (g:=w.heap.size)]) rfl (some_ret (D1:=D6) (pv:=pv) (Box.newAt (by simp[World.setCell])) hpv ii (by omega) ii (by omega) (by omega))
theorem single_some1(w:World)(D:Gh)(p:PC)(k:Nat)(h:hd (p.ts k)=w_some)(h1:pName (p.ts (k+1))=none)[Keeps D w][hP:PS w D p k][hT:TS D p]:
  Calls prog 160 #[p.ptr] w (Bad w D p k):=by
 have hb:=Box.lt (h:=hP.box)
 have hn:NeX w.heap.size (some p.g):=ne_size hb 0
 have:=hP.box.off
 go_enter func160,ntmps160
 go_wp2_with fail
 refine(skip_no _ D p (k) w_everything (by rw[h];decide)).mono ?_
 rintro e w1 ⟨rfl,hc1⟩
 go_wp2_with fail
 refine(skip_no _ D p (k) w_nothing (by rw[h];decide)).mono ?_
 rintro e w2 ⟨rfl,hc2⟩
 go_wp2_with fail
 refine(skip_no _ D p (k) [123] (by rw[h];decide)).mono ?_
 rintro e w3 ⟨rfl,hc3⟩
 go_wp2_with fail
 refine(skip_yes _ D p (k) w_some (h) (by simp)).mono ?_
 rintro e w4 ⟨rfl,hc4,hP4⟩
 clear h
 go_wp2_with fail
 refine(name_bad _ D p (k+1) h1).mono ?_
 rintro e w5 ⟨⟨_,_,rfl⟩,hc5⟩
 go_wp2
 exact⟨rfl,bad_ret ⟨_,_,rfl⟩ (Gr.g (D:=D)) (k':=k+1) ii (by omega)⟩
theorem single_some2(w:World)(D:Gh)(p:PC)(k:Nat)(h:hd (p.ts k)=w_some)(s:Bs)(r:List Tk)(h1:pName (p.ts (k+1))=some (s,r))(ih:∀(w:World)(D:Gh)[Keeps D w][PS w D p (k+1+1)][TS D p],Calls prog 160 #[p.ptr] w (Bad w D p (k+1+1)))[Keeps D w][hP:PS w D p k][hT:TS D p]:
  Calls prog 160 #[p.ptr] w (Bad w D p k):=by
 have hb:=Box.lt (h:=hP.box)
 have hn:NeX w.heap.size (some p.g):=ne_size hb 0
 have:=hP.box.off
 go_enter func160,ntmps160
 go_wp2_with fail
 refine(skip_no _ D p (k) w_everything (by rw[h];decide)).mono ?_
 rintro e w1 ⟨rfl,hc1⟩
 go_wp2_with fail
 refine(skip_no _ D p (k) w_nothing (by rw[h];decide)).mono ?_
 rintro e w2 ⟨rfl,hc2⟩
 go_wp2_with fail
 refine(skip_no _ D p (k) [123] (by rw[h];decide)).mono ?_
 rintro e w3 ⟨rfl,hc3⟩
 go_wp2_with fail
 refine(skip_yes _ D p (k) w_some (h) (by simp)).mono ?_
 rintro e w4 ⟨rfl,hc4,hP4⟩
 clear h
 go_wp2_with fail
 refine(name_ok _ D p (k+1) s r (h1)).mono ?_
 rintro e w5 ⟨rfl,hc5,hP5⟩
 clear h1
 have hB5:Box w5 D w.heap.size 31 #[.int .i64 0,.string ⟨#[]⟩,.int .i64 0,.int .i64 0,.slice none 0 0]:=ii
 have q5:=Box.held5 hB5
 go_wp2_with fail
 refine(ih _ D).mono ?_
 rintro e w6 ⟨⟨_,_,rfl⟩,D6,k6,hg6,hk6,hP6⟩
 go_wp2
 exact⟨rfl,bad_ret ⟨_,_,rfl⟩ (Gr.g (D:=D6)) (k':=k6) ii (by omega)⟩
theorem par_ret{w W:World}{D D1:Gh}{p:PC}{k k':Nat}{c:C}{pv:Value}(hp:PV D1 c.parts pv)(hg:Gr (some p.g) w D W D1)(hP:PS W D1 p (k'+1))(hk:k<k'):CRet w D p k c (p.ts k').tail (.returned (cv c pv)) W:=
 ⟨_,D1,k'+1,rfl,hp,Gr.g,hP,p.tail_ts k',by omega⟩
theorem single_par(w:World)(D:Gh)(p:PC)(k:Nat)(h:hd (p.ts k)=[40])(r:List Tk)(c:C)(h2:hd r=[41])(ih:∀(w:World)(D:Gh)[Keeps D w][PS w D p (k+1)][TS D p],Calls prog 113 #[p.ptr] w (CRet w D p (k+1) c r))[Keeps D w][hP:PS w D p k][hT:TS D p]:
  Calls prog 160 #[p.ptr] w (CRet w D p k c r.tail):=by
 have hb:=Box.lt (h:=hP.box)
 have hn:NeX w.heap.size (some p.g):=ne_size hb 0
 have:=hP.box.off
 go_enter func160,ntmps160
 go_wp2_with fail
 refine(skip_no _ D p (k) w_everything (by rw[h];decide)).mono ?_
 rintro e w1 ⟨rfl,hc1⟩
 go_wp2_with fail
 refine(skip_no _ D p (k) w_nothing (by rw[h];decide)).mono ?_
 rintro e w2 ⟨rfl,hc2⟩
 go_wp2_with fail
 refine(skip_no _ D p (k) [123] (by rw[h];decide)).mono ?_
 rintro e w3 ⟨rfl,hc3⟩
 go_wp2_with fail
 refine(skip_no _ D p (k) w_some (by rw[h];decide)).mono ?_
 rintro e w4 ⟨rfl,hc4⟩
 go_wp2_with fail
 refine(skip_yes _ D p (k) [40] (h) (by simp)).mono ?_
 rintro e w5 ⟨rfl,hc5,hP5⟩
 clear h
 have hB5:Box w5 D w.heap.size 31 #[.int .i64 0,.string ⟨#[]⟩,.int .i64 0,.int .i64 0,.slice none 0 0]:=ii
 have q5:=Box.held5 hB5
 go_wp2_with fail
 refine(ih _ D).mono ?_
 rintro e w6 ⟨pv,D6,k6,rfl,hpv,hg6,hP6,rfl,hk6⟩
 have hle6:=hg6.le
 clear ih
 have hB6:Box w6 D6 w.heap.size 31 #[.int .i64 0,.string ⟨#[]⟩,.int .i64 0,.int .i64 0,.slice none 0 0]:=ii
 have q6:=Box.held5 hB6
 have:=hB6.off
 have:=hP6.box.off
 obtain⟨a0,m0,rfl,_,_⟩:=PV.form hpv
 go_wp2_with fail
 refine(want_ok _ D6 p (k6) [41] (h2) (by simp)).mono ?_
 rintro e w7 ⟨rfl,hc7,hP7⟩
 clear h2
 have hB7:Box w7 D6 w.heap.size 31 #[.int .i64 c.kind,.string (str c.nm),.int .i64 c.lo,.int .i64 c.hi,.slice a0 c.parts.length m0]:=ii
 have q7:=Box.held5 hB7
 go_wp2
 exact bodyPost_ret (v:=.agg #[.int .i64 c.kind,.string (str c.nm),.int .i64 c.lo,.int .i64 c.hi,.slice a0 c.parts.length m0]) (by simp[results,results160,go_sem,Box.cell (D:=D6) (g:=w.heap.size)]) rfl (par_ret hpv ii ii (by omega))
theorem single_par1(w:World)(D:Gh)(p:PC)(k:Nat)(h:hd (p.ts k)=[40])(r:List Tk)(c:C)(h2:hd r≠[41])(ih:∀(w:World)(D:Gh)[Keeps D w][PS w D p (k+1)][TS D p],Calls prog 113 #[p.ptr] w (CRet w D p (k+1) c r))[Keeps D w][hP:PS w D p k][hT:TS D p]:
  Calls prog 160 #[p.ptr] w (Bad w D p k):=by
 have hb:=Box.lt (h:=hP.box)
 have hn:NeX w.heap.size (some p.g):=ne_size hb 0
 have:=hP.box.off
 go_enter func160,ntmps160
 go_wp2_with fail
 refine(skip_no _ D p (k) w_everything (by rw[h];decide)).mono ?_
 rintro e w1 ⟨rfl,hc1⟩
 go_wp2_with fail
 refine(skip_no _ D p (k) w_nothing (by rw[h];decide)).mono ?_
 rintro e w2 ⟨rfl,hc2⟩
 go_wp2_with fail
 refine(skip_no _ D p (k) [123] (by rw[h];decide)).mono ?_
 rintro e w3 ⟨rfl,hc3⟩
 go_wp2_with fail
 refine(skip_no _ D p (k) w_some (by rw[h];decide)).mono ?_
 rintro e w4 ⟨rfl,hc4⟩
 go_wp2_with fail
 refine(skip_yes _ D p (k) [40] (h) (by simp)).mono ?_
 rintro e w5 ⟨rfl,hc5,hP5⟩
 clear h
 have hB5:Box w5 D w.heap.size 31 #[.int .i64 0,.string ⟨#[]⟩,.int .i64 0,.int .i64 0,.slice none 0 0]:=ii
 have q5:=Box.held5 hB5
 go_wp2_with fail
 refine(ih _ D).mono ?_
 rintro e w6 ⟨pv,D6,k6,rfl,hpv,hg6,hP6,rfl,hk6⟩
 have hle6:=hg6.le
 clear ih
 have hB6:Box w6 D6 w.heap.size 31 #[.int .i64 0,.string ⟨#[]⟩,.int .i64 0,.int .i64 0,.slice none 0 0]:=ii
 have q6:=Box.held5 hB6
 have:=hB6.off
 have:=hP6.box.off
 obtain⟨a0,m0,rfl,_,_⟩:=PV.form hpv
 go_wp2_with fail
 refine(want_bad _ D6 p (k6) [41] h2).mono ?_
 rintro e w7 ⟨⟨_,_,rfl⟩,hc7⟩
 go_wp2
 exact⟨rfl,bad_ret ⟨_,_,rfl⟩ (Gr.g (D:=D6)) (k':=k6) ii (by omega)⟩
theorem single_par2(w:World)(D:Gh)(p:PC)(k:Nat)(h:hd (p.ts k)=[40])(ih:∀(w:World)(D:Gh)[Keeps D w][PS w D p (k+1)][TS D p],Calls prog 113 #[p.ptr] w (Bad w D p (k+1)))[Keeps D w][hP:PS w D p k][hT:TS D p]:
  Calls prog 160 #[p.ptr] w (Bad w D p k):=by
 have hb:=Box.lt (h:=hP.box)
 have hn:NeX w.heap.size (some p.g):=ne_size hb 0
 have:=hP.box.off
 go_enter func160,ntmps160
 go_wp2_with fail
 refine(skip_no _ D p (k) w_everything (by rw[h];decide)).mono ?_
 rintro e w1 ⟨rfl,hc1⟩
 go_wp2_with fail
 refine(skip_no _ D p (k) w_nothing (by rw[h];decide)).mono ?_
 rintro e w2 ⟨rfl,hc2⟩
 go_wp2_with fail
 refine(skip_no _ D p (k) [123] (by rw[h];decide)).mono ?_
 rintro e w3 ⟨rfl,hc3⟩
 go_wp2_with fail
 refine(skip_no _ D p (k) w_some (by rw[h];decide)).mono ?_
 rintro e w4 ⟨rfl,hc4⟩
 go_wp2_with fail
 refine(skip_yes _ D p (k) [40] (h) (by simp)).mono ?_
 rintro e w5 ⟨rfl,hc5,hP5⟩
 clear h
 have hB5:Box w5 D w.heap.size 31 #[.int .i64 0,.string ⟨#[]⟩,.int .i64 0,.int .i64 0,.slice none 0 0]:=ii
 have q5:=Box.held5 hB5
 go_wp2_with fail
 refine(ih _ D).mono ?_
 rintro e w6 ⟨⟨_,_,rfl⟩,D6,k6,hg6,hk6,hP6⟩
 go_wp2
 exact⟨rfl,bad_ret ⟨_,_,rfl⟩ (Gr.g (D:=D6)) (k':=k6) ii (by omega)⟩
theorem single_named(w:World)(D:Gh)(p:PC)(k:Nat)(hno:hd (p.ts k)≠w_everything∧hd (p.ts k)≠w_nothing∧hd (p.ts k)≠[123]∧hd (p.ts k)≠w_some∧hd (p.ts k)≠[40])(s:Bs)(r:List Tk)(h1:pName (p.ts k)=some (s,r))(h2:hd (p.ts (k+1))≠w_in)[Keeps D w][hP:PS w D p k][hT:TS D p]:
  Calls prog 160 #[p.ptr] w (CRet w D p k (.named s) (p.ts (k+1))):=by
 have hb:=Box.lt (h:=hP.box)
 have hn:NeX w.heap.size (some p.g):=ne_size hb 0
 have:=hP.box.off
 go_enter func160,ntmps160
 go_wp2_with fail
 refine(skip_no _ D p (k) w_everything (hno.1)).mono ?_
 rintro e w1 ⟨rfl,hc1⟩
 go_wp2_with fail
 refine(skip_no _ D p (k) w_nothing (hno.2.1)).mono ?_
 rintro e w2 ⟨rfl,hc2⟩
 go_wp2_with fail
 refine(skip_no _ D p (k) [123] (hno.2.2.1)).mono ?_
 rintro e w3 ⟨rfl,hc3⟩
 go_wp2_with fail
 refine(skip_no _ D p (k) w_some (hno.2.2.2.1)).mono ?_
 rintro e w4 ⟨rfl,hc4⟩
 go_wp2_with fail
 refine(skip_no _ D p (k) [40] (hno.2.2.2.2)).mono ?_
 rintro e w5 ⟨rfl,hc5⟩
 clear hno
 go_wp2_with fail
 refine(name_ok _ D p (k) s r (h1)).mono ?_
 rintro e w6 ⟨rfl,hc6,hP6⟩
 clear h1
 have hB6:Box w6 D w.heap.size 31 #[.int .i64 0,.string ⟨#[]⟩,.int .i64 0,.int .i64 0,.slice none 0 0]:=ii
 have q6:=Box.held5 hB6
 go_wp2_with fail
 refine(skip_no _ D p (k+1) w_in (h2)).mono ?_
 rintro e w7 ⟨rfl,hc7⟩
 clear h2
 have hB7:Box w7 D w.heap.size 31 #[.int .i64 3,.string (str s),.int .i64 0,.int .i64 0,.slice none 0 0]:=ii
 have q7:=Box.held5 hB7
 go_wp2
 exact bodyPost_ret (v:=.agg #[.int .i64 3,.string (str s),.int .i64 0,.int .i64 0,.slice none 0 0]) (by simp[results,results160,go_sem,Box.cell (D:=D) (g:=w.heap.size)]) rfl (leaf_ret rfl rfl Gr.g ii (by omega))
theorem single_name1(w:World)(D:Gh)(p:PC)(k:Nat)(hno:hd (p.ts k)≠w_everything∧hd (p.ts k)≠w_nothing∧hd (p.ts k)≠[123]∧hd (p.ts k)≠w_some∧hd (p.ts k)≠[40])(h1:pName (p.ts k)=none)[Keeps D w][hP:PS w D p k][hT:TS D p]:
  Calls prog 160 #[p.ptr] w (Bad w D p k):=by
 have hb:=Box.lt (h:=hP.box)
 have hn:NeX w.heap.size (some p.g):=ne_size hb 0
 have:=hP.box.off
 go_enter func160,ntmps160
 go_wp2_with fail
 refine(skip_no _ D p (k) w_everything (hno.1)).mono ?_
 rintro e w1 ⟨rfl,hc1⟩
 go_wp2_with fail
 refine(skip_no _ D p (k) w_nothing (hno.2.1)).mono ?_
 rintro e w2 ⟨rfl,hc2⟩
 go_wp2_with fail
 refine(skip_no _ D p (k) [123] (hno.2.2.1)).mono ?_
 rintro e w3 ⟨rfl,hc3⟩
 go_wp2_with fail
 refine(skip_no _ D p (k) w_some (hno.2.2.2.1)).mono ?_
 rintro e w4 ⟨rfl,hc4⟩
 go_wp2_with fail
 refine(skip_no _ D p (k) [40] (hno.2.2.2.2)).mono ?_
 rintro e w5 ⟨rfl,hc5⟩
 clear hno
 go_wp2_with fail
 refine(name_bad _ D p k h1).mono ?_
 rintro e w6 ⟨⟨_,_,rfl⟩,hc6⟩
 go_wp2
 exact⟨rfl,bad_ret ⟨_,_,rfl⟩ (Gr.g (D:=D)) (k':=k) ii (by omega)⟩
theorem single_rng1(w:World)(D:Gh)(p:PC)(k:Nat)(hno:hd (p.ts k)≠w_everything∧hd (p.ts k)≠w_nothing∧hd (p.ts k)≠[123]∧hd (p.ts k)≠w_some∧hd (p.ts k)≠[40])(s:Bs)(r:List Tk)(h1:pName (p.ts k)=some (s,r))(h2:hd (p.ts (k+1))=w_in)(h3:pNum (-maxN) (p.ts (k+1+1))=none)[Keeps D w][hP:PS w D p k][hT:TS D p]:
  Calls prog 160 #[p.ptr] w (Bad w D p k):=by
 have hb:=Box.lt (h:=hP.box)
 have hn:NeX w.heap.size (some p.g):=ne_size hb 0
 have:=hP.box.off
 go_enter func160,ntmps160
 go_wp2_with fail
 refine(skip_no _ D p (k) w_everything (hno.1)).mono ?_
 rintro e w1 ⟨rfl,hc1⟩
 go_wp2_with fail
 refine(skip_no _ D p (k) w_nothing (hno.2.1)).mono ?_
 rintro e w2 ⟨rfl,hc2⟩
 go_wp2_with fail
 refine(skip_no _ D p (k) [123] (hno.2.2.1)).mono ?_
 rintro e w3 ⟨rfl,hc3⟩
 go_wp2_with fail
 refine(skip_no _ D p (k) w_some (hno.2.2.2.1)).mono ?_
 rintro e w4 ⟨rfl,hc4⟩
 go_wp2_with fail
 refine(skip_no _ D p (k) [40] (hno.2.2.2.2)).mono ?_
 rintro e w5 ⟨rfl,hc5⟩
 clear hno
 go_wp2_with fail
 refine(name_ok _ D p (k) s r (h1)).mono ?_
 rintro e w6 ⟨rfl,hc6,hP6⟩
 clear h1
 have hB6:Box w6 D w.heap.size 31 #[.int .i64 0,.string ⟨#[]⟩,.int .i64 0,.int .i64 0,.slice none 0 0]:=ii
 have q6:=Box.held5 hB6
 go_wp2_with fail
 refine(skip_yes _ D p (k+1) w_in (h2) (by simp)).mono ?_
 rintro e w7 ⟨rfl,hc7,hP7⟩
 clear h2
 have hB7:Box w7 D w.heap.size 31 #[.int .i64 3,.string (str s),.int .i64 0,.int .i64 0,.slice none 0 0]:=ii
 have q7:=Box.held5 hB7
 go_wp2_with fail
 refine(number_bad _ D p (k+1+1) (-1099511627776) h3).mono ?_
 rintro e w8 ⟨⟨_,_,rfl⟩,hc8⟩
 go_wp2
 exact⟨rfl,bad_ret ⟨_,_,rfl⟩ (Gr.g (D:=D)) (k':=k+1+1) ii (by omega)⟩
theorem single_rng2(w:World)(D:Gh)(p:PC)(k:Nat)(hno:hd (p.ts k)≠w_everything∧hd (p.ts k)≠w_nothing∧hd (p.ts k)≠[123]∧hd (p.ts k)≠w_some∧hd (p.ts k)≠[40])(s:Bs)(r:List Tk)(h1:pName (p.ts k)=some (s,r))(h2:hd (p.ts (k+1))=w_in)(lo:Int)(r2:List Tk)(h3:pNum (-maxN) (p.ts (k+1+1))=some (lo,r2))(h4:hd (p.ts (k+1+1+1))≠w_to)[Keeps D w][hP:PS w D p k][hT:TS D p]:
  Calls prog 160 #[p.ptr] w (Bad w D p k):=by
 have hb:=Box.lt (h:=hP.box)
 have hn:NeX w.heap.size (some p.g):=ne_size hb 0
 have:=hP.box.off
 go_enter func160,ntmps160
 go_wp2_with fail
 refine(skip_no _ D p (k) w_everything (hno.1)).mono ?_
 rintro e w1 ⟨rfl,hc1⟩
 go_wp2_with fail
 refine(skip_no _ D p (k) w_nothing (hno.2.1)).mono ?_
 rintro e w2 ⟨rfl,hc2⟩
 go_wp2_with fail
 refine(skip_no _ D p (k) [123] (hno.2.2.1)).mono ?_
 rintro e w3 ⟨rfl,hc3⟩
 go_wp2_with fail
 refine(skip_no _ D p (k) w_some (hno.2.2.2.1)).mono ?_
 rintro e w4 ⟨rfl,hc4⟩
 go_wp2_with fail
 refine(skip_no _ D p (k) [40] (hno.2.2.2.2)).mono ?_
 rintro e w5 ⟨rfl,hc5⟩
 clear hno
 go_wp2_with fail
 refine(name_ok _ D p (k) s r (h1)).mono ?_
 rintro e w6 ⟨rfl,hc6,hP6⟩
 clear h1
 have hB6:Box w6 D w.heap.size 31 #[.int .i64 0,.string ⟨#[]⟩,.int .i64 0,.int .i64 0,.slice none 0 0]:=ii
 have q6:=Box.held5 hB6
 go_wp2_with fail
 refine(skip_yes _ D p (k+1) w_in (h2) (by simp)).mono ?_
 rintro e w7 ⟨rfl,hc7,hP7⟩
 clear h2
 have hB7:Box w7 D w.heap.size 31 #[.int .i64 3,.string (str s),.int .i64 0,.int .i64 0,.slice none 0 0]:=ii
 have q7:=Box.held5 hB7
 go_wp2_with fail
 refine(number_ok _ D p (k+1+1) (-1099511627776) lo r2 (h3)).mono ?_
 rintro e w8 ⟨rfl,hc8,hP8⟩
 clear h3
 have hB8:Box w8 D w.heap.size 31 #[.int .i64 7,.string (str s),.int .i64 0,.int .i64 0,.slice none 0 0]:=ii
 have q8:=Box.held5 hB8
 go_wp2_with fail
 refine(want_bad _ D p (k+1+1+1) w_to h4).mono ?_
 rintro e w9 ⟨⟨_,_,rfl⟩,hc9⟩
 go_wp2
 exact⟨rfl,bad_ret ⟨_,_,rfl⟩ (Gr.g (D:=D)) (k':=k+1+1+1) ii (by omega)⟩
theorem single_rng3(w:World)(D:Gh)(p:PC)(k:Nat)(hno:hd (p.ts k)≠w_everything∧hd (p.ts k)≠w_nothing∧hd (p.ts k)≠[123]∧hd (p.ts k)≠w_some∧hd (p.ts k)≠[40])(s:Bs)(r:List Tk)(h1:pName (p.ts k)=some (s,r))(h2:hd (p.ts (k+1))=w_in)(lo:Int)(r2:List Tk)(h3:pNum (-maxN) (p.ts (k+1+1))=some (lo,r2))(h4:hd (p.ts (k+1+1+1))=w_to)(h5:pNum lo (p.ts (k+1+1+1+1))=none)[Keeps D w][hP:PS w D p k][hT:TS D p]:
  Calls prog 160 #[p.ptr] w (Bad w D p k):=by
 have hb:=Box.lt (h:=hP.box)
 have hn:NeX w.heap.size (some p.g):=ne_size hb 0
 have:=hP.box.off
 go_enter func160,ntmps160
 go_wp2_with fail
 refine(skip_no _ D p (k) w_everything (hno.1)).mono ?_
 rintro e w1 ⟨rfl,hc1⟩
 go_wp2_with fail
 refine(skip_no _ D p (k) w_nothing (hno.2.1)).mono ?_
 rintro e w2 ⟨rfl,hc2⟩
 go_wp2_with fail
 refine(skip_no _ D p (k) [123] (hno.2.2.1)).mono ?_
 rintro e w3 ⟨rfl,hc3⟩
 go_wp2_with fail
 refine(skip_no _ D p (k) w_some (hno.2.2.2.1)).mono ?_
 rintro e w4 ⟨rfl,hc4⟩
 go_wp2_with fail
 refine(skip_no _ D p (k) [40] (hno.2.2.2.2)).mono ?_
 rintro e w5 ⟨rfl,hc5⟩
 clear hno
 go_wp2_with fail
 refine(name_ok _ D p (k) s r (h1)).mono ?_
 rintro e w6 ⟨rfl,hc6,hP6⟩
 clear h1
 have hB6:Box w6 D w.heap.size 31 #[.int .i64 0,.string ⟨#[]⟩,.int .i64 0,.int .i64 0,.slice none 0 0]:=ii
 have q6:=Box.held5 hB6
 go_wp2_with fail
 refine(skip_yes _ D p (k+1) w_in (h2) (by simp)).mono ?_
 rintro e w7 ⟨rfl,hc7,hP7⟩
 clear h2
 have hB7:Box w7 D w.heap.size 31 #[.int .i64 3,.string (str s),.int .i64 0,.int .i64 0,.slice none 0 0]:=ii
 have q7:=Box.held5 hB7
 go_wp2_with fail
 refine(number_ok _ D p (k+1+1) (-1099511627776) lo r2 (h3)).mono ?_
 rintro e w8 ⟨rfl,hc8,hP8⟩
 clear h3
 have hB8:Box w8 D w.heap.size 31 #[.int .i64 7,.string (str s),.int .i64 0,.int .i64 0,.slice none 0 0]:=ii
 have q8:=Box.held5 hB8
 go_wp2_with fail
 refine(want_ok _ D p (k+1+1+1) w_to (h4) (by simp)).mono ?_
 rintro e w9 ⟨rfl,hc9,hP9⟩
 clear h4
 have hB9:Box w9 D w.heap.size 31 #[.int .i64 7,.string (str s),.int .i64 lo,.int .i64 0,.slice none 0 0]:=ii
 have q9:=Box.held5 hB9
 go_wp2_with fail
 refine(number_bad _ D p (k+1+1+1+1) lo h5).mono ?_
 rintro e w10 ⟨⟨_,_,rfl⟩,hc10⟩
 go_wp2
 exact⟨rfl,bad_ret ⟨_,_,rfl⟩ (Gr.g (D:=D)) (k':=k+1+1+1+1) ii (by omega)⟩
theorem single_rng(w:World)(D:Gh)(p:PC)(k:Nat)(hno:hd (p.ts k)≠w_everything∧hd (p.ts k)≠w_nothing∧hd (p.ts k)≠[123]∧hd (p.ts k)≠w_some∧hd (p.ts k)≠[40])(s:Bs)(r:List Tk)(h1:pName (p.ts k)=some (s,r))(h2:hd (p.ts (k+1))=w_in)(lo:Int)(r2:List Tk)(h3:pNum (-maxN) (p.ts (k+1+1))=some (lo,r2))(h4:hd (p.ts (k+1+1+1))=w_to)(hi:Int)(r3:List Tk)(h5:pNum lo (p.ts (k+1+1+1+1))=some (hi,r3))[Keeps D w][hP:PS w D p k][hT:TS D p]:
  Calls prog 160 #[p.ptr] w (CRet w D p k (.range s lo hi) (p.ts (k+1+1+1+1+1))):=by
 have hb:=Box.lt (h:=hP.box)
 have hn:NeX w.heap.size (some p.g):=ne_size hb 0
 have:=hP.box.off
 go_enter func160,ntmps160
 go_wp2_with fail
 refine(skip_no _ D p (k) w_everything (hno.1)).mono ?_
 rintro e w1 ⟨rfl,hc1⟩
 go_wp2_with fail
 refine(skip_no _ D p (k) w_nothing (hno.2.1)).mono ?_
 rintro e w2 ⟨rfl,hc2⟩
 go_wp2_with fail
 refine(skip_no _ D p (k) [123] (hno.2.2.1)).mono ?_
 rintro e w3 ⟨rfl,hc3⟩
 go_wp2_with fail
 refine(skip_no _ D p (k) w_some (hno.2.2.2.1)).mono ?_
 rintro e w4 ⟨rfl,hc4⟩
 go_wp2_with fail
 refine(skip_no _ D p (k) [40] (hno.2.2.2.2)).mono ?_
 rintro e w5 ⟨rfl,hc5⟩
 clear hno
 go_wp2_with fail
 refine(name_ok _ D p (k) s r (h1)).mono ?_
 rintro e w6 ⟨rfl,hc6,hP6⟩
 clear h1
 have hB6:Box w6 D w.heap.size 31 #[.int .i64 0,.string ⟨#[]⟩,.int .i64 0,.int .i64 0,.slice none 0 0]:=ii
 have q6:=Box.held5 hB6
 go_wp2_with fail
 refine(skip_yes _ D p (k+1) w_in (h2) (by simp)).mono ?_
 rintro e w7 ⟨rfl,hc7,hP7⟩
 clear h2
 have hB7:Box w7 D w.heap.size 31 #[.int .i64 3,.string (str s),.int .i64 0,.int .i64 0,.slice none 0 0]:=ii
 have q7:=Box.held5 hB7
 go_wp2_with fail
 refine(number_ok _ D p (k+1+1) (-1099511627776) lo r2 (h3)).mono ?_
 rintro e w8 ⟨rfl,hc8,hP8⟩
 clear h3
 have hB8:Box w8 D w.heap.size 31 #[.int .i64 7,.string (str s),.int .i64 0,.int .i64 0,.slice none 0 0]:=ii
 have q8:=Box.held5 hB8
 go_wp2_with fail
 refine(want_ok _ D p (k+1+1+1) w_to (h4) (by simp)).mono ?_
 rintro e w9 ⟨rfl,hc9,hP9⟩
 clear h4
 have hB9:Box w9 D w.heap.size 31 #[.int .i64 7,.string (str s),.int .i64 lo,.int .i64 0,.slice none 0 0]:=ii
 have q9:=Box.held5 hB9
 go_wp2_with fail
 refine(number_ok _ D p (k+1+1+1+1) lo hi r3 (h5)).mono ?_
 rintro e w10 ⟨rfl,hc10,hP10⟩
 clear h5
 have hB10:Box w10 D w.heap.size 31 #[.int .i64 7,.string (str s),.int .i64 lo,.int .i64 0,.slice none 0 0]:=ii
 have q10:=Box.held5 hB10
 go_wp2
 exact bodyPost_ret (v:=.agg #[.int .i64 7,.string (str s),.int .i64 lo,.int .i64 hi,.slice none 0 0]) (by simp[results,results160,go_sem,Box.cell (D:=D) (g:=w.heap.size)]) rfl (leaf_ret rfl rfl Gr.g ii (by omega))
end Go.Proofs.YticgonfhjcaohaaGreatDoor
