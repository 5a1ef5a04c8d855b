/- TopParsed, part 33. -/
import Derived.Test.YticgonfhjcaohaaGreatDoorP23
import Derived.Test.YticgonfhjcaohaaGreatDoorP30
import Derived.Test.YticgonfhjcaohaaGreatDoorP32
set_option maxRecDepth 100000
set_option maxHeartbeats 32000000
namespace Go.Proofs.YticgonfhjcaohaaGreatDoor
open Go.RowKit Go.VT _root_.Go.Proofs.Tryz
def ItemS(w:World)(D:Gh)(p:PC)(k:Nat)(R:Option (Ax×List Tk))(e:Ending)(w':World):Prop:=
 ∃D' k',Gro (some p.g) w D w' D'∧PS w' D' p k'∧k<k'∧match R with
  |some (y,r)=>r=p.ts k'∧∃(lp rp rl:Value)(f:Int),e=.returned (.tuple #[.agg (axc y lp rp rl),.agg #[.int .i64 f,.int .i64 0],.bool false])∧AV D' y lp rp rl
  |none=>∃(f c:Int),e=.returned (.tuple #[.agg axz,.agg #[.int .i64 f,.int .i64 c],.bool true])
theorem pItemT_eq(N:Nat)(ts:List Tk):pItemT N ts=(pItem N ts).bind fun(x,r)=>x.tidy.map fun y=>(y,r):=by
 unfold pItemT pItem
 cases pAxiom N ts with
 |none=>rfl
 |some x=>
  obtain⟨x,r⟩:=x
  simp only[Option.bind_some]
  cases wantT [46] r<;>rfl
theorem item_wf{N:Nat}{ts r:List Tk}{x:Ax}(h:pItem N ts=some (x,r)):x.k.wf:=by
 unfold pItem at h
 obtain⟨⟨y,q⟩,h1,h⟩:=Option.bind_eq_some_iff.1 h
 obtain⟨q2,h2,h⟩:=Option.bind_eq_some_iff.1 h
 simp only[Option.some.injEq,Prod.mk.injEq]at h
 obtain⟨rfl,rfl⟩:=h
 exact(ax_facts h1).1
theorem step_store_row{P:Program}{w:World}{ops:Array Oper}{o:Oper}{a:Act}{K:Act→World→Prop}{Q:Exit→Act→World→Prop}{E:Prop}(hgd:o.guard=none)(ty:TypeId)(x y:Operand)(ho:o.op=.store ty x y)(hd:o.dst=none)
  (g:Nat) (cells:Array Value) (hx:a.eval x=.pointer (some ⟨g,0,none⟩)) (hy:a.eval y=.agg cells)
  (t:TypeId) (old:Array Value) (hg:w.heap[g]? =some (.cells old t (0,0))) (hi:(P.info? ty).map (·.size)=some cells.size) (hold:old.size=cells.size) (h1:cells.all (·.oneCell')=true)
  (h:K a (w.setRow g cells)):if Region.wanted o (yielded ops a.tmps)=true then Oper.wp P o a w K Q else E:=by
 have hw:Region.wanted o (yielded ops a.tmps)=true:=by simp[Region.wanted,hgd]
 rw[if_pos hw]
 exact wp_store_row ty x y ho g cells hx hy t old hg hi hold h1 (by rw[hd];exact h)
theorem item_c(N:Nat)(w:World)(D:Gh)(p:PC)(k:Nat)(hN:2*p.toks.length+2≤N)(hkl:k+1<p.toks.length)[hk:Keeps D w][hP:PS w D p k][hT:TS D p][hM:PM w p][hTB:TB D]:
  Calls prog 16 #[p.ptr] w (ItemS w D p k (pItemT N (p.ts k))):=by
 obtain⟨R,hR⟩:∃R,R=pItem N (p.ts k):=⟨_,rfl⟩
 rw[pItemT_eq,←hR]
 have HR:=hid hR
 clear hR
 have lp:=hP.box.lt
 have f50:=fld54_0
 have hT3:prog.follows .mixedOrders=true:=by kernel_rfl
 obtain⟨W0,hW0⟩:∃W,W=((w.alloc (.cells #[p.ptr] 51)).alloc (.cells axz 34)).alloc (.cells #[.int .i64 0,.int .i64 0] 56):=⟨_,rfl⟩
 have b1:Box W0 D w.heap.size 51 #[p.ptr]:=hW0▸ii
 have b2:Box W0 D (w.heap.size+1) 34 axz:=by
  rw[hW0]
  have:=Box.new (w.alloc (.cells #[p.ptr] 51)) D 34 axz
  rw[World.size_alloc]at this
  exact@Box.alloc _ _ _ _ _ _ this
 have b3:Box W0 D (w.heap.size+1+1) 56 #[.int .i64 0,.int .i64 0]:=by
  rw[hW0]
  have:=Box.new ((w.alloc (.cells #[p.ptr] 51)).alloc (.cells axz 34)) D 56 #[.int .i64 0,.int .i64 0]
  rw[World.size_alloc,World.size_alloc]at this
  exact this
 have hG0:Gr (some p.g) w D W0 D:=hW0▸ii
 have hP0:PS W0 D p k:=hW0▸ii
 have hM0:PM W0 p:=hW0▸ii
 have:=hG0.keeps
 have e1:=b1.held (i:=0) rfl
 have HW0:=hid hW0
 clear hW0
 go_enter func16,ntmps16
 go_wp2_with (first|(((with_reducible show wpList _ _ _ ((⟨some 7,_,_,_,_,_⟩:Oper)::_) _ _);refine stopL ?_);rw[←HW0.out]))
 unfold Stop
 go_wp2_with fail
 refine(token_c W0 D p k).mono ?_
 rintro e w1 ⟨⟨t,ht,rfl⟩,hc1⟩
 dsimp only
 obtain⟨W1,hW1⟩:∃W,W=w1.alloc (.cells #[.int .i64 t.kind,.string (str t.text),.int .i64 t.at_] 54):=⟨_,rfl⟩
 have c1:Box W1 D w.heap.size 51 #[p.ptr]:=hW1▸ii
 have c2:Box W1 D (w.heap.size+1) 34 axz:=hW1▸ii
 have c3:Box W1 D (w.heap.size+1+1) 56 #[.int .i64 0,.int .i64 0]:=hW1▸ii
 have c5:Box W1 D w1.heap.size 54 #[.int .i64 t.kind,.string (str t.text),.int .i64 t.at_]:=hW1▸ii
 have hG1:Gr (some p.g) w D W1 D:=hW1▸ii
 have hP1:PS W1 D p k:=hW1▸ii
 have hM1:PM W1 p:=hW1▸ii
 have hs1:w.heap.size+3≤w1.heap.size:=by
  have:=hc1.size
  have h3:=b3.lt
  omega
 have HW1:=hid hW1
 have HT:=hid ht
 have hmf:∀(fn:Fn)(first cap:Array Value)(w:World),(Instr.makeFunc fn first cap).run prog w=.ok (.func fn first cap) w:=fun _ _ _ _=>rfl
 clear hW1 ht b1 b2 b3 e1
 go_wp2_with (first|(((with_reducible show wpList _ _ _ ((⟨some 10,_,_,_,_,_⟩:Oper)::_) _ _);refine stopL ?_);rw[←HW1.out]))
 unfold Stop
 go_wp2_with fail
 have hne5:w1.heap.size≠w.heap.size+1:=by omega
 refine(try_c N w W1 D D p k w.heap.size (w.heap.size+1) hN (by omega) (by omega) (by omega) (by omega)).mono ?_
 rw[←HR.out]
 rintro e w3 ⟨D3,k3,hG3,hK3,hP3,hk3,hm⟩
 have d1:=hK3.box c1 (by omega) (by omega)
 have d3:=hK3.box c3 (by omega) (by omega)
 have d5:=hK3.box c5 (by omega) (by omega)
 have:=hG3.keeps
 have hle3:Le D D3:=⟨hG3.le⟩
 have hTB3:TB D3:=ii
 clear c1 c2 c3 c5 hG1 hP1 hM1 hK3
 rcases R with _|⟨x,r⟩
 ·obtain⟨⟨f,c,rfl⟩,cs,hcs,d2⟩:=hm
  dsimp only
  have x30:=d3.held (i:=0) rfl
  have x31:=d3.held (i:=1) rfl
  have l3:=d3.lt
  obtain⟨W4,hW4⟩:∃W,W=(w3.setCell ⟨w.heap.size+1+1,0,none⟩ (.int .i64 f)).setCell ⟨w.heap.size+1+1,1,none⟩ (.int .i64 c):=⟨_,rfl⟩
  have:=d3.off
  have:New w (w.heap.size+1+1):=⟨by omega⟩
  have:NeX (w.heap.size+1+1) (some p.g):=⟨fun e=>by have:=Option.some.inj e;omega⟩
  have hG4:Gr (some p.g) w D W4 D3:=hW4▸ii
  have f3:Box W4 D3 (w.heap.size+1+1) 56 #[.int .i64 f,.int .i64 c]:=by
   have a1:=@Box.set_ w3 D3 (w.heap.size+1+1) 56 _ 0 (.int .i64 f) d3
   have a2:=@Box.set_ _ D3 (w.heap.size+1+1) 56 _ 1 (.int .i64 c) a1
   rw[hW4];simpa using a2
  have f1:Box W4 D3 w.heap.size 51 #[p.ptr]:=by rw[hW4];exact Box.far (h:=Box.far (h:=d1) (by omega) _) (by omega) _
  have f2:Box W4 D3 (w.heap.size+1) 34 cs:=by rw[hW4];exact Box.far (h:=Box.far (h:=d2) (by omega) _) (by omega) _
  have hP4:PS W4 D3 p k3:=hW4▸ii
  have HW4:=hid hW4
  clear hW4 d1 d2 d3 hP3 hG3
  repeat((fail_if_success (with_reducible show Code.wp _ (Code.loop _) _ _ _));go_step)
  rw[←HW4.out]
  go_loopg [] (p.toks.length-k3) (fun gk wr=>∃j,gk+j=p.toks.length∧k3≤j∧Gr (some p.g) w D wr D3∧PS wr D3 p j∧Box wr D3 w.heap.size 51 #[p.ptr]∧Box wr D3 (w.heap.size+1) 34 cs∧Box wr D3 (w.heap.size+1+1) 56 #[.int .i64 f,.int .i64 c])
  case atStart=>exact⟨k3,by have:=hP4.lt;omega,Nat.le_refl _,hG4,hP4,f1,f2,f3⟩
  case round=>
   clear hG4 hP4 f1 f2 f3 x30 x31 l3
   obtain⟨j,hgj,hkj,gW,pW,q1,q2,q3⟩:=hrel
   have:=gW.keeps
   have q10:=q1.held (i:=0) rfl
   have hjl:=pW.lt
   go_wp2_with fail
   refine(token_c wr D3 p j).mono ?_
   rintro e w5 ⟨⟨t',ht',rfl⟩,hc5⟩
   have hlast:=(hT.last j t' ht').2
   have HT5:=hid ht'
   clear ht'
   have gW5:Gr (some p.g) w D w5 D3:=ii
   have pW5:PS w5 D3 p j:=ii
   have q15:Box w5 D3 w.heap.size 51 #[p.ptr]:=ii
   have q25:Box w5 D3 (w.heap.size+1) 34 cs:=ii
   have q35:Box w5 D3 (w.heap.size+1+1) 56 #[.int .i64 f,.int .i64 c]:=ii
   have:=gW5.keeps
   have q105:=q15.held (i:=0) rfl
   by_cases h4:t'.kind=4
   ·as_aux_lemma=>
    have hq:(t'.kind != 4)=false:=by simpa using h4
    have hj1:=hlast.1 h4
    clear hlast h4
    dsimp only
    have qh:=q25.heap
    have r30:=q35.held (i:=0) rfl
    have r31:=q35.held (i:=1) rfl
    have r3l:=q35.lt
    have:=q25.off
    have:=q35.off
    have:=gW5.keeps
    have:New w (w.heap.size+1):=⟨by omega⟩
    have:NeX (w.heap.size+1+1) (some (w.heap.size+1)):=⟨fun e=>by have:=Option.some.inj e;omega⟩
    have:NeX (w.heap.size+1) (some p.g):=⟨fun e=>by have:=Option.some.inj e;omega⟩
    have:NeX p.g (some (w.heap.size+1)):=⟨fun e=>by have:=Option.some.inj e;omega⟩
    go_wp2_with fail
    have pz:PS w5.drew D3 p (j):=@PS.drew _ _ _ _ pW5
    have gz:Gr (some p.g) w D w5.drew D3:=ii
    have qz2:Box w5.drew D3 (w.heap.size+1) 34 cs:=ii
    have qz3:Box w5.drew D3 (w.heap.size+1+1) 56 #[.int .i64 f,.int .i64 c]:=ii
    have qzh:=qz2.heap
    obtain⟨WY,hWY⟩:∃X,X=(w5.drew).setRow (w.heap.size+1) axz:=⟨_,rfl⟩
    have y2:Box WY D3 (w.heap.size+1) 34 axz:=hWY▸ii
    have y3:Box WY D3 (w.heap.size+1+1) 56 #[.int .i64 f,.int .i64 c]:=hWY▸ii
    have yG:Gr (some p.g) w D WY D3:=hWY▸ii
    have yP:PS WY D3 p (j):=by
     refine⟨?_,pW5.lt⟩
     have:=pz.box
     rw[hWY];exact ii
    have s30:=y3.held (i:=0) rfl
    have s31:=y3.held (i:=1) rfl
    have s3l:=y3.lt
    have:=y3.off
    have:New w (w.heap.size+1+1):=⟨by omega⟩
    have z3:Box ((WY.setCell ⟨w.heap.size+1+1,0,none⟩ (.int .i64 f)).setCell ⟨w.heap.size+1+1,1,none⟩ (.int .i64 c)) D3 (w.heap.size+1+1) 56 #[.int .i64 f,.int .i64 c]:=by
     have a1:=@Box.set_ WY D3 (w.heap.size+1+1) 56 _ 0 (.int .i64 f) y3
     have a2:=@Box.set_ _ D3 (w.heap.size+1+1) 56 _ 1 (.int .i64 c) a1
     simpa using a2
    have z2:Box ((WY.setCell ⟨w.heap.size+1+1,0,none⟩ (.int .i64 f)).setCell ⟨w.heap.size+1+1,1,none⟩ (.int .i64 c)) D3 (w.heap.size+1) 34 axz:=Box.far (h:=Box.far (h:=y2) (by omega) _) (by omega) _
    have zG:Gr (some p.g) w D ((WY.setCell ⟨w.heap.size+1+1,0,none⟩ (.int .i64 f)).setCell ⟨w.heap.size+1+1,1,none⟩ (.int .i64 c)) D3:=ii
    have zP:PS ((WY.setCell ⟨w.heap.size+1+1,0,none⟩ (.int .i64 f)).setCell ⟨w.heap.size+1+1,1,none⟩ (.int .i64 c)) D3 p (j):=by
     have:NeX (w.heap.size+1+1) (some p.g):=⟨fun e=>by have:=Option.some.inj e;omega⟩
     exact ii
    have HWY:=hid hWY
    clear hWY yG yP y2 y3 pz gz qz2 qz3
    refine wp_region_held_drew (S:=fun W'=>W'.cell? ⟨w.heap.size+1+1,0,none⟩=some (.int .i64 f)∧W'.cell? ⟨w.heap.size+1+1,1,none⟩=some (.int .i64 c)) (by kernel_rfl) (⟨r30.1,r31.1⟩) (fun hHeld=>?_)
    refine wpAnyH_take (i:=1) (v:=?_) rfl (by kernel_rfl) (by kernel_rfl) (by kernel_rfl) (fun _ _ _ h=>h) (Or.inl ⟨by rfl,?_⟩) hHeld ?_
    rotate_left
    ·(intro wz hSw;(try dsimp only at hSw);go_simp;try with_reducible rfl)
    simp only[Act.put,List.getElem_toArray,List.getElem_cons_zero,List.getElem_cons_succ,List.setIfInBounds_toArray,List.set_cons_zero,List.set_cons_succ]
    refine wpAnyH_take (i:=0) (v:=?_) rfl (by kernel_rfl) (by kernel_rfl) (by kernel_rfl) (fun _ _ _ h=>h) (Or.inl ⟨by rfl,?_⟩) hHeld ?_
    rotate_left
    ·(intro wz hSw;(try dsimp only at hSw);go_simp;try with_reducible rfl)
    simp only[Act.put,List.getElem_toArray,List.getElem_cons_zero,List.setIfInBounds_toArray,List.set_cons_zero,List.set_cons_succ]
    refine wpAnyH_ready (rs:=[2]) (by kernel_rfl) (by simp) (AllReadyH.cons rfl (fun K' hK=>?_) AllReadyH.nil)
    refine step_store_row (by rfl) 34 _ _ (by rfl) (by rfl) (w.heap.size+1) axz (by rfl) (by rfl) 34 cs qzh hz34 hcs axz_one ?_
    rw[←HWY.out]
    refine hK.out _ _ (⟨s30.1,s31.1⟩) (fun hHeld=>?_)
    clear hK K'
    refine wpAnyH_ready (rs:=[3]) (by kernel_rfl) (by simp) (AllReadyH.cons rfl (fun K' hK=>?_) AllReadyH.nil)
    go_simp
    refine hK.out _ _ (⟨(z3.held (i:=0) rfl).1,(z3.held (i:=1) rfl).1⟩) (fun hHeld=>?_)
    clear hK K'
    refine wpAnyH_take (i:=4) (v:=?_) rfl (by kernel_rfl) (by kernel_rfl) (by kernel_rfl) (fun _ _ _ h=>h) (Or.inl ⟨by rfl,?_⟩) hHeld ?_
    rotate_left
    ·(intro wz hSw;(try dsimp only at hSw);go_simp;try with_reducible rfl)
    simp only[Act.put,List.getElem_toArray,List.getElem_cons_zero,List.getElem_cons_succ,List.setIfInBounds_toArray,List.set_cons_zero,List.set_cons_succ]
    refine wpAnyH_done (by kernel_rfl) ?_ _
    go_wp2_with fail
    refine bodyPost_ret (v:=.tuple #[.agg axz,.agg #[.int .i64 f,.int .i64 c],.bool true]) (by simp[results,results16,go_sem,Box.cell (h:=z2),Box.cell (h:=z3)]) rfl ?_
    exact⟨D3,j,zG.g,zP,by omega,f,c,rfl⟩
   ·as_aux_lemma=>
    have hq:(t'.kind != 4)=true:=by simpa using h4
    have hj2:j+1<p.toks.length:=by
     have h9:¬j+1=p.toks.length:=fun e=>h4 (hlast.2 e)
     omega
    clear hlast
    dsimp only
    go_wp2_with fail
    by_cases hd:hd (p.ts j)=[46]
    ·as_aux_lemma=>
     refine(skip_yes w5 D3 p j [46] hd (by simp)).mono ?_
     rintro e w6 ⟨rfl,hc6,pW⟩
     have:=pW5.box.off
     have gW:Gr (some p.g) w D w6 D3:=ii
     have:NeX w.heap.size (some p.g):=⟨fun e=>by have:=Option.some.inj e;omega⟩
     have:NeX (w.heap.size+1) (some p.g):=⟨fun e=>by have:=Option.some.inj e;omega⟩
     have q1:Box w6 D3 w.heap.size 51 #[p.ptr]:=ii
     have q2:Box w6 D3 (w.heap.size+1) 34 cs:=ii
     have q3:Box w6 D3 (w.heap.size+1+1) 56 #[.int .i64 f,.int .i64 c]:=ii
     clear hd
     dsimp only
     have qh:=q2.heap
     have r30:=q3.held (i:=0) rfl
     have r31:=q3.held (i:=1) rfl
     have r3l:=q3.lt
     have:=q2.off
     have:=q3.off
     have:=gW.keeps
     have:New w (w.heap.size+1):=⟨by omega⟩
     have:NeX (w.heap.size+1+1) (some (w.heap.size+1)):=⟨fun e=>by have:=Option.some.inj e;omega⟩
     have:NeX (w.heap.size+1) (some p.g):=⟨fun e=>by have:=Option.some.inj e;omega⟩
     have:NeX p.g (some (w.heap.size+1)):=⟨fun e=>by have:=Option.some.inj e;omega⟩
     go_wp2_with fail
     have pz:PS w6.drew D3 p (j+1):=@PS.drew _ _ _ _ pW
     have gz:Gr (some p.g) w D w6.drew D3:=ii
     have qz2:Box w6.drew D3 (w.heap.size+1) 34 cs:=ii
     have qz3:Box w6.drew D3 (w.heap.size+1+1) 56 #[.int .i64 f,.int .i64 c]:=ii
     have qzh:=qz2.heap
     obtain⟨WY,hWY⟩:∃X,X=(w6.drew).setRow (w.heap.size+1) axz:=⟨_,rfl⟩
     have y2:Box WY D3 (w.heap.size+1) 34 axz:=hWY▸ii
     have y3:Box WY D3 (w.heap.size+1+1) 56 #[.int .i64 f,.int .i64 c]:=hWY▸ii
     have yG:Gr (some p.g) w D WY D3:=hWY▸ii
     have yP:PS WY D3 p (j+1):=by
      refine⟨?_,pW.lt⟩
      have:=pz.box
      rw[hWY];exact ii
     have s30:=y3.held (i:=0) rfl
     have s31:=y3.held (i:=1) rfl
     have s3l:=y3.lt
     have:=y3.off
     have:New w (w.heap.size+1+1):=⟨by omega⟩
     have z3:Box ((WY.setCell ⟨w.heap.size+1+1,0,none⟩ (.int .i64 f)).setCell ⟨w.heap.size+1+1,1,none⟩ (.int .i64 c)) D3 (w.heap.size+1+1) 56 #[.int .i64 f,.int .i64 c]:=by
      have a1:=@Box.set_ WY D3 (w.heap.size+1+1) 56 _ 0 (.int .i64 f) y3
      have a2:=@Box.set_ _ D3 (w.heap.size+1+1) 56 _ 1 (.int .i64 c) a1
      simpa using a2
     have z2:Box ((WY.setCell ⟨w.heap.size+1+1,0,none⟩ (.int .i64 f)).setCell ⟨w.heap.size+1+1,1,none⟩ (.int .i64 c)) D3 (w.heap.size+1) 34 axz:=Box.far (h:=Box.far (h:=y2) (by omega) _) (by omega) _
     have zG:Gr (some p.g) w D ((WY.setCell ⟨w.heap.size+1+1,0,none⟩ (.int .i64 f)).setCell ⟨w.heap.size+1+1,1,none⟩ (.int .i64 c)) D3:=ii
     have zP:PS ((WY.setCell ⟨w.heap.size+1+1,0,none⟩ (.int .i64 f)).setCell ⟨w.heap.size+1+1,1,none⟩ (.int .i64 c)) D3 p (j+1):=by
      have:NeX (w.heap.size+1+1) (some p.g):=⟨fun e=>by have:=Option.some.inj e;omega⟩
      exact ii
     have HWY:=hid hWY
     clear hWY yG yP y2 y3 pz gz qz2 qz3
     refine wp_region_held_drew (S:=fun W'=>W'.cell? ⟨w.heap.size+1+1,0,none⟩=some (.int .i64 f)∧W'.cell? ⟨w.heap.size+1+1,1,none⟩=some (.int .i64 c)) (by kernel_rfl) (⟨r30.1,r31.1⟩) (fun hHeld=>?_)
     refine wpAnyH_take (i:=1) (v:=?_) rfl (by kernel_rfl) (by kernel_rfl) (by kernel_rfl) (fun _ _ _ h=>h) (Or.inl ⟨by rfl,?_⟩) hHeld ?_
     rotate_left
     ·(intro wz hSw;(try dsimp only at hSw);go_simp;try with_reducible rfl)
     simp only[Act.put,List.getElem_toArray,List.getElem_cons_zero,List.getElem_cons_succ,List.setIfInBounds_toArray,List.set_cons_zero,List.set_cons_succ]
     refine wpAnyH_take (i:=0) (v:=?_) rfl (by kernel_rfl) (by kernel_rfl) (by kernel_rfl) (fun _ _ _ h=>h) (Or.inl ⟨by rfl,?_⟩) hHeld ?_
     rotate_left
     ·(intro wz hSw;(try dsimp only at hSw);go_simp;try with_reducible rfl)
     simp only[Act.put,List.getElem_toArray,List.getElem_cons_zero,List.setIfInBounds_toArray,List.set_cons_zero,List.set_cons_succ]
     refine wpAnyH_ready (rs:=[2]) (by kernel_rfl) (by simp) (AllReadyH.cons rfl (fun K' hK=>?_) AllReadyH.nil)
     refine step_store_row (by rfl) 34 _ _ (by rfl) (by rfl) (w.heap.size+1) axz (by rfl) (by rfl) 34 cs qzh hz34 hcs axz_one ?_
     rw[←HWY.out]
     refine hK.out _ _ (⟨s30.1,s31.1⟩) (fun hHeld=>?_)
     clear hK K'
     refine wpAnyH_ready (rs:=[3]) (by kernel_rfl) (by simp) (AllReadyH.cons rfl (fun K' hK=>?_) AllReadyH.nil)
     go_simp
     refine hK.out _ _ (⟨(z3.held (i:=0) rfl).1,(z3.held (i:=1) rfl).1⟩) (fun hHeld=>?_)
     clear hK K'
     refine wpAnyH_take (i:=4) (v:=?_) rfl (by kernel_rfl) (by kernel_rfl) (by kernel_rfl) (fun _ _ _ h=>h) (Or.inl ⟨by rfl,?_⟩) hHeld ?_
     rotate_left
     ·(intro wz hSw;(try dsimp only at hSw);go_simp;try with_reducible rfl)
     simp only[Act.put,List.getElem_toArray,List.getElem_cons_zero,List.getElem_cons_succ,List.setIfInBounds_toArray,List.set_cons_zero,List.set_cons_succ]
     refine wpAnyH_done (by kernel_rfl) ?_ _
     go_wp2_with fail
     refine bodyPost_ret (v:=.tuple #[.agg axz,.agg #[.int .i64 f,.int .i64 c],.bool true]) (by simp[results,results16,go_sem,Box.cell (h:=z2),Box.cell (h:=z3)]) rfl ?_
     exact⟨D3,j+1,zG.g,zP,by omega,f,c,rfl⟩
    ·refine(skip_no w5 D3 p j [46] hd).mono ?_
     rintro e w6 ⟨rfl,hc6⟩
     have pB:Box w6 D3 p.g 101 #[.slice (some ⟨p.b,p.o,none⟩) p.toks.length p.c,.int .i64 j,p.M]:=(ii:PS w6 D3 p j).box
     have gW6:Gr (some p.g) w D w6 D3:=ii
     have q16:Box w6 D3 w.heap.size 51 #[p.ptr]:=ii
     have q26:Box w6 D3 (w.heap.size+1) 34 cs:=ii
     have q36:Box w6 D3 (w.heap.size+1+1) 56 #[.int .i64 f,.int .i64 c]:=ii
     have q106:=q16.held (i:=0) rfl
     have r1:=pB.held (i:=1) rfl
     have r1l:=pB.lt
     have:=pB.off
     have pN:PS (w6.setCell ⟨p.g,1,none⟩ (.int .i64 ((j:Int)+1))) D3 p (j+1):=⟨by simpa using@Box.set_ w6 D3 p.g 101 _ 1 (.int .i64 ((j:Int)+1)) pB,hj2⟩
     have gN:Gr (some p.g) w D (w6.setCell ⟨p.g,1,none⟩ (.int .i64 ((j:Int)+1))) D3:=ii
     have q1N:Box (w6.setCell ⟨p.g,1,none⟩ (.int .i64 ((j:Int)+1))) D3 w.heap.size 51 #[p.ptr]:=Box.far (h:=q16) (by omega) _
     have q2N:Box (w6.setCell ⟨p.g,1,none⟩ (.int .i64 ((j:Int)+1))) D3 (w.heap.size+1) 34 cs:=Box.far (h:=q26) (by omega) _
     have q3N:Box (w6.setCell ⟨p.g,1,none⟩ (.int .i64 ((j:Int)+1))) D3 (w.heap.size+1+1) 56 #[.int .i64 f,.int .i64 c]:=Box.far (h:=q36) (by omega) _
     have hj9:(j:Int)≤1099511627776:=by have:=hT.lim;omega
     clear hd
     go_wp2_with fail
     go_roundg (gk-1)
     case measure=>omega
     case rel=>exact⟨j+1,by omega,by omega,gN,pN,q1N,q2N,q3N⟩
 ·obtain⟨rfl,hr,hkk,lp',rp,rl,hav,d2⟩:=hm
  have hwf:x.k.wf:=item_wf HR.out.symm
  dsimp only
  obtain⟨n1,hn1⟩:∃n,n=(oP x.k.left).length:=⟨_,rfl⟩
  obtain⟨n2,hn2⟩:∃n,n=(oP x.k.right).length:=⟨_,rfl⟩
  obtain⟨n3,hn3⟩:∃n,n=x.k.roles.length:=⟨_,rfl⟩
  obtain⟨a1,m1,rfl,_,_⟩:=PV.form hav.l
  obtain⟨a2,m2,rfl,_,_⟩:=PV.form hav.r
  obtain⟨a3,m3,rfl,_,_⟩:=SlN.form hav.s
  rw[←hn1,←hn2,←hn3]at hav d2
  clear hn1 hn2 hn3
  have x30:=d3.held (i:=0) rfl
  have x31:=d3.held (i:=1) rfl
  have l3:=d3.lt
  obtain⟨W4,hW4⟩:∃W,W=(w3.setCell ⟨w.heap.size+1+1,0,none⟩ (.int .i64 0)).setCell ⟨w.heap.size+1+1,1,none⟩ (.int .i64 0):=⟨_,rfl⟩
  have:=d3.off
  have:New w (w.heap.size+1+1):=⟨by omega⟩
  have:NeX (w.heap.size+1+1) (some p.g):=⟨fun e=>by have:=Option.some.inj e;omega⟩
  have hG4:Gr (some p.g) w D W4 D3:=hW4▸ii
  have f3:Box W4 D3 (w.heap.size+1+1) 56 #[.int .i64 0,.int .i64 0]:=by
   have a1:=@Box.set_ w3 D3 (w.heap.size+1+1) 56 _ 0 (.int .i64 0) d3
   have a2:=@Box.set_ _ D3 (w.heap.size+1+1) 56 _ 1 (.int .i64 0) a1
   rw[hW4];simpa using a2
  have f2:Box W4 D3 (w.heap.size+1) 34 (axc x (.slice a1 n1 m1) (.slice a2 n2 m2) (.slice a3 n3 m3)):=by rw[hW4];exact Box.far (h:=Box.far (h:=d2) (by omega) _) (by omega) _
  have f5:Box W4 D3 w1.heap.size 54 #[.int .i64 t.kind,.string (str t.text),.int .i64 t.at_]:=by rw[hW4];exact Box.far (h:=Box.far (h:=d5) (by omega) _) (by omega) _
  have hP4:PS W4 D3 p k3:=hW4▸ii
  have HW4:=hid hW4
  have HV:=hid hr
  clear hW4 d1 d2 d3 d5 hP3 hG3 hr
  have:=hG4.keeps
  go_wp2_with (first
   |((with_reducible show wpList _ _ _ ((⟨_,.load 34 _,_,_,_,_⟩:Oper)::_) _ _);rw[←HW4.out];((with_reducible show wpList _ _ _ ((⟨_,.load 34 _,_,_,_,_⟩:Oper)::_) _ _);refine wpList_load_row rfl 34 _ rfl (w.heap.size+1) rfl (34) _ (0,0) _ (f2.heap) underlying34 rfl (hz34) ?_)))
  refine(tidyAx_c W4 D3 x _ _ _ hav hwf).mono ?_
  clear x30 x31 l3
  obtain⟨T,hT'⟩:∃T,T=x.tidy:=⟨_,rfl⟩
  rw[←hT']
  have HTT:=hid hT'
  clear hT'
  rcases T with _|y
  ·as_aux_lemma=>
   rintro e w5 ⟨q,hq,rfl,hc5⟩
   have hq2:(q != 0)=true:=by simpa using hq
   have hone:=axz_one
   dsimp only
   have g2:Box w5 D3 (w.heap.size+1) 34 (axc x (.slice a1 n1 m1) (.slice a2 n2 m2) (.slice a3 n3 m3)):=ii
   have g3:Box w5 D3 (w.heap.size+1+1) 56 #[.int .i64 0,.int .i64 0]:=ii
   have g5:Box w5 D3 w1.heap.size 54 #[.int .i64 t.kind,.string (str t.text),.int .i64 t.at_]:=ii
   have gP:PS w5 D3 p k3:=ii
   have gG:Gr (some p.g) w D w5 D3:=ii
   have:=gG.keeps
   have:=g2.off
   have:New w (w.heap.size+1):=⟨by omega⟩
   have:NeX (w.heap.size+1) (some p.g):=⟨fun e=>by have:=Option.some.inj e;omega⟩
   have:NeX p.g (some (w.heap.size+1)):=⟨fun e=>by have:=Option.some.inj e;omega⟩
   have:NeX (w.heap.size+1+1) (some (w.heap.size+1)):=⟨fun e=>by have:=Option.some.inj e;omega⟩
   have:NeX w1.heap.size (some (w.heap.size+1)):=⟨fun e=>by have:=Option.some.inj e;omega⟩
   have:NeX w1.heap.size (some (w.heap.size+1+1)):=⟨fun e=>by have:=Option.some.inj e;omega⟩
   obtain⟨W6,hW6⟩:∃W,W=w5.setRow (w.heap.size+1) axz:=⟨_,rfl⟩
   have h2:Box W6 D3 (w.heap.size+1) 34 axz:=hW6▸ii
   have h3:Box W6 D3 (w.heap.size+1+1) 56 #[.int .i64 0,.int .i64 0]:=hW6▸ii
   have h5:Box W6 D3 w1.heap.size 54 #[.int .i64 t.kind,.string (str t.text),.int .i64 t.at_]:=hW6▸ii
   have hG6:Gr (some p.g) w D W6 D3:=hW6▸ii
   have hP6:PS W6 D3 p k3:=by
    refine⟨?_,gP.lt⟩
    have:=gP.box
    rw[hW6];exact ii
   have HW6:=hid hW6
   have g2h:=g2.heap
   clear hW6 g2 g3 g5 gP gG f2 f3 f5 hP4 hG4
   go_wp2_with (first
    |((with_reducible show wpList _ _ _ ((⟨_,.store 34 _ _,_,_,_,_⟩:Oper)::_) _ _);refine wpList_storeTo rfl 34 _ _ rfl rfl (w.heap.size+1) axz rfl rfl 34 (axc x (.slice a1 n1 m1) (.slice a2 n2 m2) (.slice a3 n3 m3)) g2h hz34 rfl hone ?_;rw[←HW6.out]))
   have:=hG6.keeps
   have k2:Box W6.drew D3 (w.heap.size+1) 34 axz:=ii
   have k3':Box W6.drew D3 (w.heap.size+1+1) 56 #[.int .i64 0,.int .i64 0]:=ii
   have k5:Box W6.drew D3 w1.heap.size 54 #[.int .i64 t.kind,.string (str t.text),.int .i64 t.at_]:=ii
   have kG:Gr (some p.g) w D W6.drew D3:=ii
   have kP:PS W6.drew D3 p k3:=ii
   obtain⟨W7,hW7⟩:∃W,W=W6.drew.setRow (w.heap.size+1) axz:=⟨_,rfl⟩
   have i2:Box W7 D3 (w.heap.size+1) 34 axz:=hW7▸ii
   have i3:Box W7 D3 (w.heap.size+1+1) 56 #[.int .i64 0,.int .i64 0]:=hW7▸ii
   have i5:Box W7 D3 w1.heap.size 54 #[.int .i64 t.kind,.string (str t.text),.int .i64 t.at_]:=hW7▸ii
   have iG:Gr (some p.g) w D W7 D3:=hW7▸ii
   have iP:PS W7 D3 p k3:=by
    refine⟨?_,kP.lt⟩
    have:=kP.box
    rw[hW7];exact ii
   have:=i3.off
   have:=iG.keeps
   have i30:=i3.held (i:=0) rfl
   have i31:=i3.held (i:=1) rfl
   have i3l:=i3.lt
   have z3:Box ((W7.setCell ⟨w.heap.size+1+1,0,none⟩ (.int .i64 t.at_)).setCell ⟨w.heap.size+1+1,1,none⟩ (.int .i64 q)) D3 (w.heap.size+1+1) 56 #[.int .i64 t.at_,.int .i64 q]:=by
    have a1:=@Box.set_ W7 D3 (w.heap.size+1+1) 56 _ 0 (.int .i64 t.at_) i3
    have a2:=@Box.set_ _ D3 (w.heap.size+1+1) 56 _ 1 (.int .i64 q) a1
    simpa using a2
   have z2:Box ((W7.setCell ⟨w.heap.size+1+1,0,none⟩ (.int .i64 t.at_)).setCell ⟨w.heap.size+1+1,1,none⟩ (.int .i64 q)) D3 (w.heap.size+1) 34 axz:=Box.far (h:=Box.far (h:=i2) (by omega) _) (by omega) _
   have z5:Box ((W7.setCell ⟨w.heap.size+1+1,0,none⟩ (.int .i64 t.at_)).setCell ⟨w.heap.size+1+1,1,none⟩ (.int .i64 q)) D3 w1.heap.size 54 #[.int .i64 t.kind,.string (str t.text),.int .i64 t.at_]:=Box.far (h:=Box.far (h:=i5) (by omega) _) (by omega) _
   have zG:Gr (some p.g) w D ((W7.setCell ⟨w.heap.size+1+1,0,none⟩ (.int .i64 t.at_)).setCell ⟨w.heap.size+1+1,1,none⟩ (.int .i64 q)) D3:=ii
   have zP:PS ((W7.setCell ⟨w.heap.size+1+1,0,none⟩ (.int .i64 t.at_)).setCell ⟨w.heap.size+1+1,1,none⟩ (.int .i64 q)) D3 p k3:=ii
   have HW7:=hid hW7
   clear hW7 kG kP hG6 hP6 h3 iG iP i3
   refine wp_region_held_drew (S:=fun W'=>W'.heap[w.heap.size+1]? =some (.cells axz 34 (0,0))∧W'.cell? ⟨w1.heap.size,2,none⟩=some (.int .i64 t.at_)) (by kernel_rfl) (⟨k2.heap,(k5.held (i:=2) rfl).1⟩) (fun hHeld=>?_)
   refine wpAnyH_take (i:=0) rfl (by kernel_rfl) (by kernel_rfl) (by kernel_rfl) (fun _ _ _ h=>h) (yieldsIf_row (by rfl) 34 _ rfl _ rfl 34 _ _ (fun w h=>h.1) (underlying34) rfl (hz34)) hHeld ?_
   simp only[Act.put,List.getElem_toArray,List.getElem_cons_zero,List.setIfInBounds_toArray,List.set_cons_zero,List.set_cons_succ]
   refine wpAnyH_take (i:=1) (v:=?_) rfl (by kernel_rfl) (by kernel_rfl) (by kernel_rfl) (fun _ _ _ h=>h) (Or.inl ⟨by rfl,?_⟩) hHeld ?_
   rotate_left
   ·(intro wz hSw;(try dsimp only at hSw);go_simp;try with_reducible rfl)
   simp only[Act.put,List.getElem_toArray,List.getElem_cons_zero,List.getElem_cons_succ,List.setIfInBounds_toArray,List.set_cons_zero,List.set_cons_succ]
   refine wpAnyH_take (i:=2) (v:=?_) rfl (by kernel_rfl) (by kernel_rfl) (by kernel_rfl) (fun _ _ _ h=>h) (Or.inl ⟨by rfl,?_⟩) hHeld ?_
   rotate_left
   ·(intro wz hSw;(try dsimp only at hSw);go_simp;try with_reducible rfl)
   simp only[Act.put,List.getElem_toArray,List.getElem_cons_zero,List.getElem_cons_succ,List.setIfInBounds_toArray,List.set_cons_zero,List.set_cons_succ]
   refine wpAnyH_take (i:=3) (v:=?_) rfl (by kernel_rfl) (by kernel_rfl) (by kernel_rfl) (fun _ _ _ h=>h) (Or.inl ⟨by rfl,?_⟩) hHeld ?_
   rotate_left
   ·(intro wz hSw;(try dsimp only at hSw);go_simp;try with_reducible rfl)
   simp only[Act.put,List.getElem_toArray,List.getElem_cons_zero,List.getElem_cons_succ,List.setIfInBounds_toArray,List.set_cons_zero,List.set_cons_succ]
   refine wpAnyH_take (i:=4) (v:=?_) rfl (by kernel_rfl) (by kernel_rfl) (by kernel_rfl) (fun _ _ _ h=>h) (Or.inl ⟨by rfl,?_⟩) hHeld ?_
   rotate_left
   ·(intro wz hSw;(try dsimp only at hSw);go_simp;try with_reducible rfl)
   simp only[Act.put,List.getElem_toArray,List.getElem_cons_zero,List.getElem_cons_succ,List.setIfInBounds_toArray,List.set_cons_zero,List.set_cons_succ]
   refine wpAnyH_take (i:=5) (v:=?_) rfl (by kernel_rfl) (by kernel_rfl) (by kernel_rfl) (fun _ _ _ h=>h) (Or.inl ⟨by rfl,?_⟩) hHeld ?_
   rotate_left
   ·(intro wz hSw;(try dsimp only at hSw);go_simp;try with_reducible rfl)
   simp only[Act.put,List.getElem_toArray,List.getElem_cons_zero,List.getElem_cons_succ,List.setIfInBounds_toArray,List.set_cons_zero,List.set_cons_succ]
   refine wpAnyH_take (i:=6) (v:=?_) rfl (by kernel_rfl) (by kernel_rfl) (by kernel_rfl) (fun _ _ _ h=>h) (Or.inl ⟨by rfl,?_⟩) hHeld ?_
   rotate_left
   ·(intro wz hSw;(try dsimp only at hSw);go_simp;try with_reducible rfl)
   simp only[Act.put,List.getElem_toArray,List.getElem_cons_zero,List.getElem_cons_succ,List.setIfInBounds_toArray,List.set_cons_zero,List.set_cons_succ]
   refine wpAnyH_ready (rs:=[7]) (by kernel_rfl) (by simp) (AllReadyH.cons rfl (fun K' hK=>?_) AllReadyH.nil)
   refine step_store_row (by rfl) 34 _ _ (by rfl) (by rfl) (w.heap.size+1) axz (by rfl) (by rfl) 34 axz k2.heap hz34 rfl hone ?_
   rw[←HW7.out]
   refine hK.out _ _ (⟨i2.heap,(i5.held (i:=2) rfl).1⟩) (fun hHeld=>?_)
   clear hK K'
   refine wpAnyH_ready (rs:=[8]) (by kernel_rfl) (by simp) (AllReadyH.cons rfl (fun K' hK=>?_) AllReadyH.nil)
   go_simp
   refine hK.out _ _ (⟨z2.heap,(z5.held (i:=2) rfl).1⟩) (fun hHeld=>?_)
   clear hK K'
   refine wpAnyH_take (i:=9) (v:=?_) rfl (by kernel_rfl) (by kernel_rfl) (by kernel_rfl) (fun _ _ _ h=>h) (Or.inl ⟨by rfl,?_⟩) hHeld ?_
   rotate_left
   ·(intro wz hSw;(try dsimp only at hSw);go_simp;try with_reducible rfl)
   simp only[Act.put,List.getElem_toArray,List.getElem_cons_zero,List.getElem_cons_succ,List.setIfInBounds_toArray,List.set_cons_zero,List.set_cons_succ]
   refine wpAnyH_done (by kernel_rfl) ?_ _
   go_wp2_with fail
   refine bodyPost_ret (v:=.tuple #[.agg axz,.agg #[.int .i64 t.at_,.int .i64 q],.bool true]) (by simp[results,results16,go_sem,Box.cell (h:=z2),Box.cell (h:=z3)]) rfl ?_
   exact⟨D3,k3,zG.g,zP,hkk,by rw[show((some (x,r)).bind fun(x,r)=>x.tidy.map fun y=>(y,r))=none from by simp[←HTT.out]];exact⟨t.at_,q,rfl⟩⟩
  ·as_aux_lemma=>
   rintro e w5 ⟨lq,rq,sq,D5,rfl,hay,hg5⟩
   obtain⟨n4,hn4⟩:∃n,n=(oP y.k.left).length:=⟨_,rfl⟩
   obtain⟨n5,hn5⟩:∃n,n=(oP y.k.right).length:=⟨_,rfl⟩
   obtain⟨n6,hn6⟩:∃n,n=y.k.roles.length:=⟨_,rfl⟩
   obtain⟨a4,m4,rfl,_,_⟩:=PV.form hay.l
   obtain⟨a5,m5,rfl,_,_⟩:=PV.form hay.r
   obtain⟨a6,m6,rfl,_,_⟩:=SlN.form hay.s
   rw[←hn4,←hn5,←hn6]at hay⊢
   clear hn4 hn5 hn6
   have:=hg5.keeps
   have hone:(axc y (.slice a4 n4 m4) (.slice a5 n5 m5) (.slice a6 n6 m6)).all (·.oneCell')=true:=axc_one _ _ _ _ _ _ _ _ _ _
   dsimp only
   have g2:Box w5 D5 (w.heap.size+1) 34 (axc x (.slice a1 n1 m1) (.slice a2 n2 m2) (.slice a3 n3 m3)):=ii
   have g3:Box w5 D5 (w.heap.size+1+1) 56 #[.int .i64 0,.int .i64 0]:=ii
   have g5:Box w5 D5 w1.heap.size 54 #[.int .i64 t.kind,.string (str t.text),.int .i64 t.at_]:=ii
   have gP:PS w5 D5 p k3:=ii
   have gG:Gr (some p.g) w D w5 D5:=ii
   have:=gG.keeps
   have:=g2.off
   have:New w (w.heap.size+1):=⟨by omega⟩
   have:NeX (w.heap.size+1) (some p.g):=⟨fun e=>by have:=Option.some.inj e;omega⟩
   have:NeX p.g (some (w.heap.size+1)):=⟨fun e=>by have:=Option.some.inj e;omega⟩
   have:NeX (w.heap.size+1+1) (some (w.heap.size+1)):=⟨fun e=>by have:=Option.some.inj e;omega⟩
   have:NeX w1.heap.size (some (w.heap.size+1)):=⟨fun e=>by have:=Option.some.inj e;omega⟩
   have:NeX w1.heap.size (some (w.heap.size+1+1)):=⟨fun e=>by have:=Option.some.inj e;omega⟩
   obtain⟨W6,hW6⟩:∃W,W=w5.setRow (w.heap.size+1) (axc y (.slice a4 n4 m4) (.slice a5 n5 m5) (.slice a6 n6 m6)):=⟨_,rfl⟩
   have h2:Box W6 D5 (w.heap.size+1) 34 (axc y (.slice a4 n4 m4) (.slice a5 n5 m5) (.slice a6 n6 m6)):=hW6▸ii
   have h3:Box W6 D5 (w.heap.size+1+1) 56 #[.int .i64 0,.int .i64 0]:=hW6▸ii
   have h5:Box W6 D5 w1.heap.size 54 #[.int .i64 t.kind,.string (str t.text),.int .i64 t.at_]:=hW6▸ii
   have hG6:Gr (some p.g) w D W6 D5:=hW6▸ii
   have hP6:PS W6 D5 p k3:=by
    refine⟨?_,gP.lt⟩
    have:=gP.box
    rw[hW6];exact ii
   have HW6:=hid hW6
   have g2h:=g2.heap
   clear hW6 g2 g3 g5 gP gG f2 f3 f5 hP4 hG4
   go_wp2_with (first
    |((with_reducible show wpList _ _ _ ((⟨_,.store 34 _ _,_,_,_,_⟩:Oper)::_) _ _);refine wpList_storeTo rfl 34 _ _ rfl rfl (w.heap.size+1) (axc y (.slice a4 n4 m4) (.slice a5 n5 m5) (.slice a6 n6 m6)) rfl rfl 34 (axc x (.slice a1 n1 m1) (.slice a2 n2 m2) (.slice a3 n3 m3)) g2h hz34 rfl hone ?_;rw[←HW6.out]))
   have:=hG6.keeps
   have k2:Box W6.drew D5 (w.heap.size+1) 34 (axc y (.slice a4 n4 m4) (.slice a5 n5 m5) (.slice a6 n6 m6)):=ii
   have k3':Box W6.drew D5 (w.heap.size+1+1) 56 #[.int .i64 0,.int .i64 0]:=ii
   have k5:Box W6.drew D5 w1.heap.size 54 #[.int .i64 t.kind,.string (str t.text),.int .i64 t.at_]:=ii
   have kG:Gr (some p.g) w D W6.drew D5:=ii
   have kP:PS W6.drew D5 p k3:=ii
   obtain⟨W7,hW7⟩:∃W,W=W6.drew.setRow (w.heap.size+1) (axc y (.slice a4 n4 m4) (.slice a5 n5 m5) (.slice a6 n6 m6)):=⟨_,rfl⟩
   have i2:Box W7 D5 (w.heap.size+1) 34 (axc y (.slice a4 n4 m4) (.slice a5 n5 m5) (.slice a6 n6 m6)):=hW7▸ii
   have i3:Box W7 D5 (w.heap.size+1+1) 56 #[.int .i64 0,.int .i64 0]:=hW7▸ii
   have i5:Box W7 D5 w1.heap.size 54 #[.int .i64 t.kind,.string (str t.text),.int .i64 t.at_]:=hW7▸ii
   have iG:Gr (some p.g) w D W7 D5:=hW7▸ii
   have iP:PS W7 D5 p k3:=by
    refine⟨?_,kP.lt⟩
    have:=kP.box
    rw[hW7];exact ii
   have:=i3.off
   have:=iG.keeps
   have i30:=i3.held (i:=0) rfl
   have i31:=i3.held (i:=1) rfl
   have i3l:=i3.lt
   have z3:Box ((W7.setCell ⟨w.heap.size+1+1,0,none⟩ (.int .i64 t.at_)).setCell ⟨w.heap.size+1+1,1,none⟩ (.int .i64 0)) D5 (w.heap.size+1+1) 56 #[.int .i64 t.at_,.int .i64 0]:=by
    have a1:=@Box.set_ W7 D5 (w.heap.size+1+1) 56 _ 0 (.int .i64 t.at_) i3
    have a2:=@Box.set_ _ D5 (w.heap.size+1+1) 56 _ 1 (.int .i64 0) a1
    simpa using a2
   have z2:Box ((W7.setCell ⟨w.heap.size+1+1,0,none⟩ (.int .i64 t.at_)).setCell ⟨w.heap.size+1+1,1,none⟩ (.int .i64 0)) D5 (w.heap.size+1) 34 (axc y (.slice a4 n4 m4) (.slice a5 n5 m5) (.slice a6 n6 m6)):=Box.far (h:=Box.far (h:=i2) (by omega) _) (by omega) _
   have z5:Box ((W7.setCell ⟨w.heap.size+1+1,0,none⟩ (.int .i64 t.at_)).setCell ⟨w.heap.size+1+1,1,none⟩ (.int .i64 0)) D5 w1.heap.size 54 #[.int .i64 t.kind,.string (str t.text),.int .i64 t.at_]:=Box.far (h:=Box.far (h:=i5) (by omega) _) (by omega) _
   have zG:Gr (some p.g) w D ((W7.setCell ⟨w.heap.size+1+1,0,none⟩ (.int .i64 t.at_)).setCell ⟨w.heap.size+1+1,1,none⟩ (.int .i64 0)) D5:=ii
   have zP:PS ((W7.setCell ⟨w.heap.size+1+1,0,none⟩ (.int .i64 t.at_)).setCell ⟨w.heap.size+1+1,1,none⟩ (.int .i64 0)) D5 p k3:=ii
   have HW7:=hid hW7
   clear hW7 kG kP hG6 hP6 h3 iG iP i3
   refine wp_region_held_drew (S:=fun W'=>W'.heap[w.heap.size+1]? =some (.cells (axc y (.slice a4 n4 m4) (.slice a5 n5 m5) (.slice a6 n6 m6)) 34 (0,0))∧W'.cell? ⟨w1.heap.size,2,none⟩=some (.int .i64 t.at_)) (by kernel_rfl) (⟨k2.heap,(k5.held (i:=2) rfl).1⟩) (fun hHeld=>?_)
   refine wpAnyH_take (i:=0) rfl (by kernel_rfl) (by kernel_rfl) (by kernel_rfl) (fun _ _ _ h=>h) (yieldsIf_row (by rfl) 34 _ rfl _ rfl 34 _ _ (fun w h=>h.1) (underlying34) rfl (hz34)) hHeld ?_
   simp only[Act.put,List.getElem_toArray,List.getElem_cons_zero,List.setIfInBounds_toArray,List.set_cons_zero,List.set_cons_succ]
   refine wpAnyH_take (i:=1) (v:=?_) rfl (by kernel_rfl) (by kernel_rfl) (by kernel_rfl) (fun _ _ _ h=>h) (Or.inl ⟨by rfl,?_⟩) hHeld ?_
   rotate_left
   ·(intro wz hSw;(try dsimp only at hSw);go_simp;try with_reducible rfl)
   simp only[Act.put,List.getElem_toArray,List.getElem_cons_zero,List.getElem_cons_succ,List.setIfInBounds_toArray,List.set_cons_zero,List.set_cons_succ]
   refine wpAnyH_take (i:=2) (v:=?_) rfl (by kernel_rfl) (by kernel_rfl) (by kernel_rfl) (fun _ _ _ h=>h) (Or.inl ⟨by rfl,?_⟩) hHeld ?_
   rotate_left
   ·(intro wz hSw;(try dsimp only at hSw);go_simp;try with_reducible rfl)
   simp only[Act.put,List.getElem_toArray,List.getElem_cons_zero,List.getElem_cons_succ,List.setIfInBounds_toArray,List.set_cons_zero,List.set_cons_succ]
   refine wpAnyH_take (i:=3) (v:=?_) rfl (by kernel_rfl) (by kernel_rfl) (by kernel_rfl) (fun _ _ _ h=>h) (Or.inl ⟨by rfl,?_⟩) hHeld ?_
   rotate_left
   ·(intro wz hSw;(try dsimp only at hSw);go_simp;try with_reducible rfl)
   simp only[Act.put,List.getElem_toArray,List.getElem_cons_zero,List.getElem_cons_succ,List.setIfInBounds_toArray,List.set_cons_zero,List.set_cons_succ]
   refine wpAnyH_take (i:=4) (v:=?_) rfl (by kernel_rfl) (by kernel_rfl) (by kernel_rfl) (fun _ _ _ h=>h) (Or.inl ⟨by rfl,?_⟩) hHeld ?_
   rotate_left
   ·(intro wz hSw;(try dsimp only at hSw);go_simp;try with_reducible rfl)
   simp only[Act.put,List.getElem_toArray,List.getElem_cons_zero,List.getElem_cons_succ,List.setIfInBounds_toArray,List.set_cons_zero,List.set_cons_succ]
   refine wpAnyH_take (i:=5) (v:=?_) rfl (by kernel_rfl) (by kernel_rfl) (by kernel_rfl) (fun _ _ _ h=>h) (Or.inl ⟨by rfl,?_⟩) hHeld ?_
   rotate_left
   ·(intro wz hSw;(try dsimp only at hSw);go_simp;try with_reducible rfl)
   simp only[Act.put,List.getElem_toArray,List.getElem_cons_zero,List.getElem_cons_succ,List.setIfInBounds_toArray,List.set_cons_zero,List.set_cons_succ]
   refine wpAnyH_take (i:=6) (v:=?_) rfl (by kernel_rfl) (by kernel_rfl) (by kernel_rfl) (fun _ _ _ h=>h) (Or.inl ⟨by rfl,?_⟩) hHeld ?_
   rotate_left
   ·(intro wz hSw;(try dsimp only at hSw);go_simp;try with_reducible rfl)
   simp only[Act.put,List.getElem_toArray,List.getElem_cons_zero,List.getElem_cons_succ,List.setIfInBounds_toArray,List.set_cons_zero,List.set_cons_succ]
   refine wpAnyH_ready (rs:=[7]) (by kernel_rfl) (by simp) (AllReadyH.cons rfl (fun K' hK=>?_) AllReadyH.nil)
   refine step_store_row (by rfl) 34 _ _ (by rfl) (by rfl) (w.heap.size+1) (axc y (.slice a4 n4 m4) (.slice a5 n5 m5) (.slice a6 n6 m6)) (by rfl) (by rfl) 34 (axc y (.slice a4 n4 m4) (.slice a5 n5 m5) (.slice a6 n6 m6)) k2.heap hz34 rfl hone ?_
   rw[←HW7.out]
   refine hK.out _ _ (⟨i2.heap,(i5.held (i:=2) rfl).1⟩) (fun hHeld=>?_)
   clear hK K'
   refine wpAnyH_ready (rs:=[8]) (by kernel_rfl) (by simp) (AllReadyH.cons rfl (fun K' hK=>?_) AllReadyH.nil)
   go_simp
   refine hK.out _ _ (⟨z2.heap,(z5.held (i:=2) rfl).1⟩) (fun hHeld=>?_)
   clear hK K'
   refine wpAnyH_take (i:=9) (v:=?_) rfl (by kernel_rfl) (by kernel_rfl) (by kernel_rfl) (fun _ _ _ h=>h) (Or.inl ⟨by rfl,?_⟩) hHeld ?_
   rotate_left
   ·(intro wz hSw;(try dsimp only at hSw);go_simp;try with_reducible rfl)
   simp only[Act.put,List.getElem_toArray,List.getElem_cons_zero,List.getElem_cons_succ,List.setIfInBounds_toArray,List.set_cons_zero,List.set_cons_succ]
   refine wpAnyH_done (by kernel_rfl) ?_ _
   go_wp2_with fail
   refine bodyPost_ret (v:=.tuple #[.agg (axc y (.slice a4 n4 m4) (.slice a5 n5 m5) (.slice a6 n6 m6)),.agg #[.int .i64 t.at_,.int .i64 0],.bool false]) (by simp[results,results16,go_sem,Box.cell (h:=z2),Box.cell (h:=z3)]) rfl ?_
   exact⟨D5,k3,zG.g,zP,hkk,by rw[show((some (x,r)).bind fun(x,r)=>x.tidy.map fun y=>(y,r))=some (y,r)from by simp[←HTT.out]];exact⟨HV.out,_,_,_,t.at_,rfl,hay⟩⟩
end Go.Proofs.YticgonfhjcaohaaGreatDoor
