/- TopParsed, part 47. -/
import Derived.Test.YticgonfhjcaohaaGreatDoorP41
import Derived.Test.YticgonfhjcaohaaGreatDoorP45
import Derived.Test.YticgonfhjcaohaaGreatDoorP46
set_option maxRecDepth 100000
set_option maxHeartbeats 32000000
namespace Go.Proofs.YticgonfhjcaohaaGreatDoor
open Go.RowKit Go.VT _root_.Go.Proofs.Tryz
theorem textO_le(c:C):(textO c).length≤(textC c).length+2:=by
 cases h:isAnd c
 ·rw[textO_no h];omega
 ·cases c with
  |and l=>rw[textO_and];simp
  |_=>simp[isAnd]at h
theorem ax_text(w:World)(D:Gh)[hk:Keeps D w][hT:TW w](m1 m2:Nat)[hM1:MI w m1 mapC][hM2:MI w m2 mapA](x:Ax)(lp rp rl:Value)(hg:VT.Good x)(hv:AV D x lp rp rl)(hlen:(textA x).length≤1000000):
  Calls prog 25 #[.agg #[.map (some m1),.map (some m2)],.agg (axc x lp rp rl)] w fun e w'=>e=.returned (.string (str (textA x)))∧Cll none w w':=by
 obtain⟨h1,h2,h3⟩:=hv
 obtain⟨a1,k1,rfl⟩:=PV_form h1
 obtain⟨a2,k2,rfl⟩:=PV_form h2
 obtain⟨a3,k3,rfl,_⟩:=SlN.form h3
 have hlK:(textK x.k).length≤1000000:=by unfold textA at hlen;simp at hlen;omega
 have hw:=hg.wf
 have hsz:=okK_size hg.ok
 have hx:∀(c:C)(a:Option Addr)(n k:Nat)(w' w'':World),c.size≤64→c.wf→(textC c).length≤1000000→PV D c.parts (.slice a n k)→Cll none w w'→Cll none w' w''→Calls prog 136 #[.agg #[.map (some m1),.map (some m2)],cv c (.slice a n k)] w'' fun e w3=>e=.returned (.string (str (textC c)))∧Cll none w'' w3:=fun c a n k w' w'' h1 h2 h3 h4 hc1 hc2=>by
  have hcc:Cll none w w'':=⟨hc1.out.trans hc2.out⟩
  have:Keeps D w'':=Keeps.call none D w w''
  have:TW w'':=TW.call (w:=w)
  have:MI w'' m1 mapC:=MI.call (w:=w) none
  exact(text_all m1 m2 c.size c (Nat.le_refl _) (by omega) h2 (by have:=textO_le c;omega) w'' D a n k ii ii ii h4).1
 obtain⟨op,k⟩:=x
 have hkD:∀w',Cll none w w'→Keeps D w':=fun w' hc=>Keeps.call none D w w'
 cases k with
 |sub l r=>
  have hll:(textK (.sub l r)).length=(textC l).length+((textC r).length+5):=by simp[textK]
  change(textK (.sub l r)).length≤_ at hlK
  refine axiom25_c w D m1 m2 64 _ _ _ _ ⟨_,_,_,rfl⟩ ⟨_,_,_,rfl⟩ ⟨_,_,_,rfl⟩ rfl (enters_of func64 (by kernel_rfl) rfl) (by omega) fun w' hc=>?_
  have:=hkD w' hc
  exact two_c w' D m1 m2 64 op w_sub .sub l r _ a1 a2 _ k1 _ k2 (.inl ⟨rfl,rfl,rfl⟩) ⟨_,_,_,rfl⟩ (by omega) (fun w'' h=>hx l a1 _ k1 w' w'' (hsz l (by simp[K.cons])) hw.1 (by omega) h1 hc h) (fun w'' h=>hx r a2 _ k2 w' w'' (hsz r (by simp[K.cons])) hw.2 (by omega) h2 hc h)
 |equiv l r=>
  have hll:(textK (.equiv l r)).length=(textC l).length+((textC r).length+6):=by simp[textK]
  change(textK (.equiv l r)).length≤_ at hlK
  refine axiom25_c w D m1 m2 65 _ _ _ _ ⟨_,_,_,rfl⟩ ⟨_,_,_,rfl⟩ ⟨_,_,_,rfl⟩ rfl (enters_of func65 (by kernel_rfl) rfl) (by omega) fun w' hc=>?_
  have:=hkD w' hc
  exact two_c w' D m1 m2 65 op w_same .equiv l r _ a1 a2 _ k1 _ k2 (.inr (.inl ⟨rfl,rfl,rfl⟩)) ⟨_,_,_,rfl⟩ (by omega) (fun w'' h=>hx l a1 _ k1 w' w'' (hsz l (by simp[K.cons])) hw.1 (by omega) h1 hc h) (fun w'' h=>hx r a2 _ k2 w' w'' (hsz r (by simp[K.cons])) hw.2 (by omega) h2 hc h)
 |disj l r=>
  have hll:(textK (.disj l r)).length=(textC l).length+((textC r).length+10):=by simp[textK]
  change(textK (.disj l r)).length≤_ at hlK
  refine axiom25_c w D m1 m2 66 _ _ _ _ ⟨_,_,_,rfl⟩ ⟨_,_,_,rfl⟩ ⟨_,_,_,rfl⟩ rfl (enters_of func66 (by kernel_rfl) rfl) (by omega) fun w' hc=>?_
  have:=hkD w' hc
  exact two_c w' D m1 m2 66 op w_disjoint .disj l r _ a1 a2 _ k1 _ k2 (.inr (.inr ⟨rfl,rfl,rfl⟩)) ⟨_,_,_,rfl⟩ (by omega) (fun w'' h=>hx l a1 _ k1 w' w'' (hsz l (by simp[K.cons])) hw.1 (by omega) h1 hc h) (fun w'' h=>hx r a2 _ k2 w' w'' (hsz r (by simp[K.cons])) hw.2 (by omega) h2 hc h)
 |dom s c=>
  have hll:(textC c).length≤(textK (.dom s c)).length:=by simp[textK];omega
  change(textK (.dom s c)).length≤_ at hlK
  refine axiom25_c w D m1 m2 67 _ _ _ _ ⟨_,_,_,rfl⟩ ⟨_,_,_,rfl⟩ ⟨_,_,_,rfl⟩ rfl (enters_of func67 (by kernel_rfl) rfl) (by omega) fun w' hc=>?_
  have:=hkD w' hc
  exact dom67_c w' D m1 m2 op s c _ _ a2 _ k2 ⟨_,_,_,rfl⟩ ⟨_,_,_,rfl⟩ (by omega) (fun w'' h=>hx c a2 _ k2 w' w'' (hsz c (by simp[K.cons])) hw.2 (by omega) h2 hc h)
 |typ s c=>
  have hll:(textC c).length≤(textK (.typ s c)).length:=by simp[textK];omega
  change(textK (.typ s c)).length≤_ at hlK
  refine axiom25_c w D m1 m2 71 _ _ _ _ ⟨_,_,_,rfl⟩ ⟨_,_,_,rfl⟩ ⟨_,_,_,rfl⟩ rfl (enters_of func71 (by kernel_rfl) rfl) (by omega) fun w' hc=>?_
  have:=hkD w' hc
  exact typ71_c w' D m1 m2 op s c _ _ a2 _ k2 ⟨_,_,_,rfl⟩ ⟨_,_,_,rfl⟩ (by omega) (fun w'' h=>hx c a2 _ k2 w' w'' (hsz c (by simp[K.cons])) hw.2 (by omega) h2 hc h)
 |refl s=>
  change(textK (.refl s)).length≤_ at hlK
  refine axiom25_c w D m1 m2 70 _ _ _ _ ⟨_,_,_,rfl⟩ ⟨_,_,_,rfl⟩ ⟨_,_,_,rfl⟩ rfl (enters_of func70 (by kernel_rfl) rfl) (by omega) fun w' hc=>?_
  have:=hkD w' hc
  have hj:Lib.join [w_reflexive,s] [32]=textK (.refl s):=by simp[join_cons,textK]
  have:=refl70_c w' D m1 m2 op s (.slice a1 (oP (K.refl s).left).length k1) (.slice a2 (oP (K.refl s).right).length k2) (.slice a3 (K.refl s).roles.length k3) ⟨_,_,_,rfl⟩ ⟨_,_,_,rfl⟩ ⟨_,_,_,rfl⟩ (by rw[hj];omega)
  rw[hj]at this
  exact this
 |link x r y=>
  change(textK (.link x r y)).length≤_ at hlK
  refine axiom25_c w D m1 m2 72 _ _ _ _ ⟨_,_,_,rfl⟩ ⟨_,_,_,rfl⟩ ⟨_,_,_,rfl⟩ rfl (enters_of func72 (by kernel_rfl) rfl) (by omega) fun w' hc=>?_
  have:=hkD w' hc
  have hj:Lib.join [w_link,x,r,y] [32]=textK (.link x r y):=by simp[join_cons,textK]
  have:=link72_c w' D m1 m2 op x r y (.slice a1 (oP (K.link x r y).left).length k1) (.slice a2 (oP (K.link x r y).right).length k2) (.slice a3 (K.link x r y).roles.length k3) ⟨_,_,_,rfl⟩ ⟨_,_,_,rfl⟩ ⟨_,_,_,rfl⟩ (by rw[hj];omega)
  rw[hj]at this
  exact this
 |rsub r s=>
  change(textK (.rsub r s)).length≤_ at hlK
  refine axiom25_c w D m1 m2 68 _ _ _ _ ⟨_,_,_,rfl⟩ ⟨_,_,_,rfl⟩ ⟨_,_,_,rfl⟩ rfl (enters_of func68 (by kernel_rfl) rfl) (by omega) fun w' hc=>?_
  have:=hkD w' hc
  exact role68_c w' D m1 m2 op r s _ _ a3 _ k3 ⟨_,_,_,rfl⟩ ⟨_,_,_,rfl⟩ h3 (by omega)
 |chain l s=>
  change(textK (.chain l s)).length≤_ at hlK
  refine axiom25_c w D m1 m2 69 _ _ _ _ ⟨_,_,_,rfl⟩ ⟨_,_,_,rfl⟩ ⟨_,_,_,rfl⟩ rfl (enters_of func69 (by kernel_rfl) rfl) (by omega) fun w' hc=>?_
  have:=hkD w' hc
  exact chain69_c w' D m1 m2 op l s _ _ a3 _ k3 ⟨_,_,_,rfl⟩ ⟨_,_,_,rfl⟩ h3 (by have:=hw.1;omega) (by omega) hw.2.1
theorem run_append_str{w:World}{D:Gh}{B n:Nat}{v:Value}{xs:List Value}(h:VT.Own w D B 5 1 v n xs)(ty:TypeId)(s:Bs)(hN:n+s.length≤1099511627776)(hB:B≤w.heap.size)(hoff:∀g,B≤g→Off D g):
  ∃v' w',(Builtin.append_ #[22,9] ty #[v,.string (str s)]).run prog w=.ok v' w'∧VT.Own w' D B 5 1 v' (n+s.length) (xs++s.map fun c=>.int .u8 (c.toNat:Int))∧Cll v.ownBlock w w':=by
 have hinfo:(prog.info? 5).map (fun i=>(i.zero,i.size,i.bytes))=some (some (.int .u8 0),1,1):=by kernel_rfl
 obtain⟨i,hi,he⟩:=Option.map_eq_some_iff.1 hinfo
 simp only[Prod.mk.injEq]at he
 have hl:(str s).size=s.length:=str_size_ s
 obtain⟨v',w',h1,h2,h3,h4⟩:=Lib.run_append_own_string (P:=prog) (w:=w) B 22 9 ty 5 i underlying22 underlying9 hi he.1 he.2.1 he.2.2 v n xs h.own (str s) (by rw[hl];unfold maxLen;omega) (by rw[hl];omega) hB
 rw[hl]at h2
 exact⟨v',w',h1,⟨h2,⟨fun g hg=>hoff g (own_lt h2 g hg).1⟩⟩,⟨Bl.grown h3⟩⟩
end Go.Proofs.YticgonfhjcaohaaGreatDoor
namespace Go.Proofs.YticgonfhjcaohaaGreatDoor
open Go.RowKit Go.VT _root_.Go.Proofs.Tryz
theorem wp_append_run2{P:Program}{w w':World}{ops:Array Oper}{rest:List Oper}{o:Oper}{a:Act}{Q:Exit→Act→World→Prop}(hgd:o.guard=none)(x y:Operand)(t q:TypeId)
  (ho:o.op=.call {callee:=.builtin .append,args:=#[x,y],argTypes:=#[t,q]}) {v u v':Value} (hx:a.eval x=v) (hy:a.eval y=u) (hr:(Builtin.append_ #[t,q] o.type #[v,u]).run P w=.ok v' w') (hK:wpList P ops Q rest (a.put o.dst v') w'):wpList P ops Q (o::rest) a w:=by
 refine wpList_plain hgd fun K hk'=>?_
 unfold Oper.wp execOp
 simp only[ho,resolve,invoke,builtin,Sem.run_bind,Sem.run_pure,Result.andThen_ok,List.map_toArray,List.map_cons,List.map_nil,hx,hy,hr]
 exact hk' _ _ hK
def byV(bs:Bs):List Value:=bs.map fun c=>.int .u8 (c.toNat:Int)
theorem print_c(w:World)(D:Gh)(l:List Ax)(a:Option Addr)(n m:Nat)(hp:AxL D l (.slice a n m))(hl:∀x∈l,VT.Good x)(hn:n≤1024)(htx:(textD l).length≤65536)[hk:Keeps D w][hT:TB D][hTW:TW w]:
  Calls prog 8 #[.slice a n m] w fun e w'=>∃(v:Value)(D':Gh),e=.returned (.tuple #[v,.int .i64 0])∧SlN D' 1 v (textD l).length (byV (textD l))∧Gro none w D w' D':=by
 obtain⟨hlen,hm1,hm2⟩:=AxL_len hp
 have HL:=hid hlen
 have HG:=hid hl
 obtain⟨tx,htx0⟩:∃tx:Nat→Bs,∀i,tx i=textD (l.take i):=⟨_,fun _=>rfl⟩
 have htx1:∀i x,l[i]? =some x→tx (i+1)=tx i++(textA x++[46,10]):=fun i x h=>by rw[htx0,htx0,List.take_add_one,h];simp[textD]
 have htxl:∀i,(tx i).length≤65536:=fun i=>by
  refine Nat.le_trans ?_ htx
  have e:textD l=tx i++textD (l.drop i):=by rw[htx0];(conv=>lhs;rw[←List.take_append_drop i l]);unfold textD;rw[List.flatMap_append]
  rw[e,List.length_append];omega
 have HT0:=hid htx0
 have HT1:=hid htx1
 have HTL:=hid htxl
 clear hlen hl htx0 htx1 htxl htx
 go_enter func8,ntmps8
 go_wp2_with fail
 go_loopg [2,12] n (fun gk v2 v wr=>∃i:Nat,v2=.slice none 0 0∧v=.int .i64 i∧gk+i=n∧Gr none w D wr D)
 case atStart=>exact⟨0,rfl,rfl,rfl,ii⟩
 case round=>
  obtain⟨i,rfl,rfl,hgk,hG⟩:=hrel
  have:=hG
  have:=hG.keeps
  by_cases hi:i<n
  ·obtain⟨x,lp,rp,rl,b,o,hj,rfl,hav,hc,r1⟩:=AxL_elem (w:=wr) hp (i:=i) (by rw[←HL.out];exact hi)
   have hgd:=HG.out x (List.mem_of_getElem? hj)
   have hchk:=(chkK_zero x.k).2 hgd.ok
   obtain⟨a3,m3,rfl⟩:=PV_form hav.l
   obtain⟨a4,m4,rfl⟩:=PV_form hav.r
   obtain⟨a5,m5,rfl,_⟩:=SlN.form hav.s
   have hi':(i:Int)<(n:Int):=by omega
   have HCHK:=hid (fun W'(_:Keeps D W')=>checkAxiom_c W' D x _ _ _ hav hgd.wf)
   rw[hchk]at HCHK
   clear hj hgd hchk
   generalize(oP x.k.left).length=n3 at*
   generalize(oP x.k.right).length=n4 at*
   generalize x.k.roles.length=n5 at*
   have hB2:Box (wr.alloc (.cells (axc x (.slice a3 n3 m3) (.slice a4 n4 m4) (.slice a5 n5 m5)) 34)) D wr.heap.size 34 (axc x (.slice a3 n3 m3) (.slice a4 n4 m4) (.slice a5 n5 m5)):=Box.new wr D 34 _
   go_wp2_with (first|((with_reducible show wpList _ _ _ ((⟨_,.load 34 _,_,_,_,_⟩:Oper)::_) _ _);refine load34 rfl _ rfl rfl hc ?_)|((with_reducible show wpList _ _ _ ((⟨_,.load 34 _,_,_,_,_⟩:Oper)::_) _ _);refine wpList_load_row rfl 34 _ rfl (wr.heap.size) rfl (34) _ (0,0) _ (hB2.heap) underlying34 rfl (hz34) ?_))
   refine(HCHK.out _ ii).mono ?_
   rintro e w3 ⟨rfl,hc3⟩
   have hG3:Gr none w D w3 D:=ii
   clear hc HCHK hB2 hav hc3
   go_wp2_with fail
   go_roundg (gk-1)
   case measure=>omega
   case rel=>exact⟨i+1,rfl,by simp,by omega,hG3⟩
  ·have hi':¬(i:Int)<(n:Int):=by omega
   obtain⟨W0,hW0⟩:∃W,W=wr:=⟨_,rfl⟩
   subst hW0
   go_wp2_with fail
   refine(newPrinter_c W0 D).mono ?_
   rintro e w2 ⟨m1,m2,rfl,hM1,hM2,hz1,hz2,hc2⟩
   have:=hc2
   have hG2:Gr none w D w2 D:=ii
   have hz0:=hG.bl.size
   have hz3:=hc2.out.size
   have:=hG2.keeps
   have hTW2:TW w2:=(TW.call (w:=w) (w':=W0) (hc:=⟨hG.bl⟩)).call
   obtain⟨W3,hW3⟩:∃W,W=w2.alloc (.cells #[.map (some m1),.map (some m2)] 73):=⟨_,rfl⟩
   obtain⟨g7,hg7⟩:∃g,g=w2.heap.size:=⟨_,rfl⟩
   have hB7:Box W3 D g7 73 #[.map (some m1),.map (some m2)]:=by rw[hW3,hg7];exact ii
   have hM13:MI W3 m1 mapC:=by rw[hW3];exact ii
   have hM23:MI W3 m2 mapA:=by rw[hW3];exact ii
   have hTW3:TW W3:=by rw[hW3];exact ii
   have hG3:Gr none w D W3 D:=by rw[hW3];exact ii
   have:=hG3.keeps
   have HW3:=hid hW3
   have HG7:=hid hg7
   have hO0:VT.Own W3 D W3.heap.size 5 1 (.slice none 0 0) 0 []:=VT.Own.nil _ _ _ _
   have hoff:Hid (∀g,W3.heap.size≤g→Off D g):=hid fun g hg=>Keeps.offNew (w:=W3) hg
   clear hW3 hg7 hG2 hc2 hM1 hM2 hz1 hz2 hz0 hz3 hG hTW2
   repeat((fail_if_success (with_reducible show Code.wp _ (Code.region 9 _ _) _ _ _));go_step)
   go_wp2_with fail
   rw[←HW3.out,←HG7.out]
   go_loopg [2,25] n (fun gk v2 v25 wr=>∃i:Nat,v25=.int .i64 i∧gk+i=n∧Bl none W3 wr∧VT.Own wr D W3.heap.size 5 1 v2 (tx i).length (byV (tx i)))
   case atStart=>exact⟨0,rfl,rfl,Bl.refl _ _,by rw[HT0.out];exact hO0⟩
   case round=>
    obtain⟨j,rfl,hgk,hb,hO⟩:=hrel
    have hcw:Cll none W3 wr:=⟨hb⟩
    have:Bel none W3 wr:=⟨hb⟩
    have:Keeps D wr:=Keeps.call none D W3 wr
    have:TW wr:=TW.call (w:=W3)
    have:MI wr m1 mapC:=MI.call (w:=W3) none
    have:MI wr m2 mapA:=MI.call (w:=W3) none
    have hB7r:Box wr D g7 73 #[.map (some m1),.map (some m2)]:=Box.call W3 wr D _ _ _ none
    have hzr:=hb.size
    by_cases hi:j<n
    ·obtain⟨x,lp,rp,rl,b,o,hj,rfl,hav,hc,r1⟩:=AxL_elem (w:=wr) hp (i:=j) (by rw[←HL.out];exact hi)
     have hgd:=HG.out x (List.mem_of_getElem? hj)
     have htx:=HT1.out j x hj
     have hlx:=HTL.out (j+1)
     have hav':=hav
     obtain⟨a3,m3,rfl⟩:=PV_form hav.l
     obtain⟨a4,m4,rfl⟩:=PV_form hav.r
     obtain⟨a5,m5,rfl,_⟩:=SlN.form hav.s
     have hi':(j:Int)<(n:Int):=by omega
     have hla:(tx j).length+((textA x).length+2)≤65536:=by rw[htx]at hlx;simpa using hlx
     have HAX:Hid (∀W',Cll none wr W'→Calls prog 25 #[.agg #[.map (some m1),.map (some m2)],.agg (axc x (.slice a3 (oP x.k.left).length m3) (.slice a4 (oP x.k.right).length m4) (.slice a5 x.k.roles.length m5))] W' fun e w'=>e=.returned (.string (str (textA x)))∧Cll none W' w'):=hid fun W' hcc=>by
      have:Keeps D W':=Keeps.call none D wr W'
      have:TW W':=TW.call (w:=wr)
      have:MI W' m1 mapC:=MI.call (w:=wr) none
      have:MI W' m2 mapA:=MI.call (w:=wr) none
      exact ax_text W' D m1 m2 x _ _ _ hgd hav' (by omega)
     have HTX:=hid htx
     clear hj hgd hav hav' htx hlx
     generalize(oP x.k.left).length=n3 at*
     generalize(oP x.k.right).length=n4 at*
     generalize x.k.roles.length=n5 at*
     obtain⟨k0,hk0⟩:∃k,k=(tx j).length:=⟨_,rfl⟩
     obtain⟨ka,hka⟩:∃k,k=(textA x).length:=⟨_,rfl⟩
     rw[←hk0]at hO
     rw[←hk0,←hka]at hla
     have HK0:=hid hk0
     have HKA:=hid hka
     clear hk0 hka
     have hB2:Box (wr.alloc (.cells (axc x (.slice a3 n3 m3) (.slice a4 n4 m4) (.slice a5 n5 m5)) 34)) D wr.heap.size 34 (axc x (.slice a3 n3 m3) (.slice a4 n4 m4) (.slice a5 n5 m5)):=Box.new wr D 34 _
     have hB7a:Box (wr.alloc (.cells (axc x (.slice a3 n3 m3) (.slice a4 n4 m4) (.slice a5 n5 m5)) 34)) D g7 73 #[.map (some m1),.map (some m2)]:=ii
     have b0:=Box.cell (h:=hB7r) 0
     have b1:=Box.cell (h:=hB7r) 1
     have b2:=hB7r.lt
     go_wp2_with (first|((with_reducible show wpList _ _ _ ((⟨_,.load 34 _,_,_,_,_⟩:Oper)::_) _ _);refine load34 rfl _ rfl rfl hc ?_)|((with_reducible show wpList _ _ _ ((⟨_,.load 34 _,_,_,_,_⟩:Oper)::_) _ _);refine wpList_load_row rfl 34 _ rfl (wr.heap.size) rfl (34) _ (0,0) _ (hB2.heap) underlying34 rfl (hz34) ?_))
     refine(HAX.out _ Bel.c).mono ?_
     rintro e w4 ⟨rfl,hc4⟩
     have hO4:VT.Own w4 D W3.heap.size 5 1 u2 k0 (byV (tx j)):=ii
     have hc4':Bl none W3 w4:=(Bel.c (X:=none) (a:=W3) (w:=w4)).out
     obtain⟨v5,w5,hr5,hO5,hc5⟩:=run_append_str hO4 22 (textA x) (by rw[←HKA.out];omega) hc4'.size hoff.out
     rw[←HKA.out]at hO5
     obtain⟨k1,hk1⟩:∃k,k=k0+ka:=⟨_,rfl⟩
     rw[←hk1]at hO5
     obtain⟨a6,c6,rfl⟩:=own_form hO5
     have hc5':Bl none W3 w5:=hc4'.trans' hc5.out (fun k hk _ e=>by have:=(VT.Own.lt hO4 k e.symm).1;omega)
     obtain⟨v6,w6,hr6,hO6,hc6⟩:=run_append_str hO5 22 [46,10] (by simp;omega) hc5'.size hoff.out
     obtain⟨k2,hk2⟩:∃k,k=k1+[(46:UInt8),10].length:=⟨_,rfl⟩
     rw[←hk2]at hO6
     obtain⟨a7,c7,rfl⟩:=own_form hO6
     have hc6':Bl none W3 w6:=hc5'.trans' hc6.out (fun k hk _ e=>by have:=(VT.Own.lt hO5 k e.symm).1;omega)
     have HR5:=hid hr5
     have HR6:=hid hr6
     have HO6:=hid hO6
     clear hr5 hr6 hO5 hO4 hO hc hB2 hB7a hc4 hc5 hc6 b0 b1 hO6
     have hln:¬((65536:Int)<(k2:Int)):=by simp at hk2;omega
     have HK1:=hid hk1
     have HK2:=hid hk2
     clear hk1 hk2
     go_wp2_with (first|(at_builtin;refine wp_append_run2 rfl (.tmp 29) (.tmp 32) 22 9 rfl rfl rfl HR5.out ?_)|(at_builtin;refine wp_append_run2 rfl (.tmp 34) _ 22 9 rfl rfl rfl HR6.out ?_))
     go_roundg (gk-1)
     case measure=>omega
     case rel=>
      have e1:(tx (j+1)).length=k2:=by rw[HTX.out,HK2.out,HK1.out,HK0.out,HKA.out];simp;omega
      have e2:byV (tx (j+1))=byV (tx j)++((textA x).map fun c=>Value.int .u8 (c.toNat:Int))++[46,10].map fun(c:UInt8)=>Value.int .u8 (c.toNat:Int):=by rw[HTX.out];simp[byV]
      exact⟨j+1,by simp,by omega,hc6',by rw[e1,e2];exact HO6.out⟩
    ·obtain rfl:j=n:=by omega
     have hi':¬(j:Int)<(j:Int):=by omega
     have hfin:tx j=textD l:=by rw[HT0.out,List.take_of_length_le (by have:=HL.out;omega)]
     rw[hfin]at hO
     have hGw:Gr none w D wr D:=ii
     obtain⟨D',hP,hS⟩:=VT.Own.pub hO
     have hG5:Gr none w D wr D':=hP.gr none w D hGw (fun k hk=>by have:=(VT.Own.lt hO k hk).1;have:=hG3.bl.size;omega)
     clear hO hP hfin
     go_wp2_with fail
     exact bodyPost_ret (v:=.tuple #[u2,.int .i64 0]) (by simp[results,results8,go_sem]) rfl ⟨_,rfl,D',hS,(have:=hG5;Gr.g)⟩
end Go.Proofs.YticgonfhjcaohaaGreatDoor
namespace Go.Proofs.YticgonfhjcaohaaGreatDoor
open Go.RowKit Go.VT _root_.Go.Proofs.Tryz
theorem ow_ax(w:World)(D:Gh)[hk:Keeps D w][hT:TW w](x:Ax)(lp rp rl:Value)(hg:VT.Good x)(hv:AV D x lp rp rl):
  Calls prog 30 #[.agg (axc x lp rp rl)] w fun e w'=>e=.returned (.string (str (aW x)))∧Cll none w w':=by
 obtain⟨h1,h2,h3⟩:=hv
 obtain⟨a1,k1,rfl⟩:=PV_form h1
 obtain⟨a2,k2,rfl⟩:=PV_form h2
 obtain⟨a3,k3,rfl,_⟩:=SlN.form h3
 have hlen:=aW_len hg
 have hw:=hg.wf
 have hsz:=okK_size hg.ok
 have hx:∀(c:C)(a:Option Addr)(n k:Nat),c.size≤64→c.wf→PV D c.parts (.slice a n k)→∀w',Keeps D w'→TW w'→Calls prog 82 #[cv c (.slice a n k)] w' fun e w''=>e=.returned (.string (str (cW c)))∧Cll none w' w'':=fun c a n k h1 h2 h3 w' hk hT=>
  ow_all c.size c (Nat.le_refl _) (by omega) h2 (by have:=cW_len c.size c (Nat.le_refl _) h2;omega) w' D a n k hk hT h3
 have hnm:∀s,plainB s=true→s.length≤100:=fun s h=>by have:=name_len h;omega
 obtain⟨op,k⟩:=x
 cases k with
 |sub l r=>exact ow30_sub w D op l r a1 a2 _ k1 _ k2 _ ⟨_,_,_,rfl⟩ (hx l a1 _ k1 (hsz l (by simp[K.cons])) hw.1 h1) (hx r a2 _ k2 (hsz r (by simp[K.cons])) hw.2 h2) (by omega)
 |equiv l r=>exact ow30_equiv w D op l r a1 a2 _ k1 _ k2 _ ⟨_,_,_,rfl⟩ (hx l a1 _ k1 (hsz l (by simp[K.cons])) hw.1 h1) (hx r a2 _ k2 (hsz r (by simp[K.cons])) hw.2 h2) (by omega)
 |disj l r=>exact ow30_disj w D op l r a1 a2 _ k1 _ k2 _ ⟨_,_,_,rfl⟩ (hx l a1 _ k1 (hsz l (by simp[K.cons])) hw.1 h1) (hx r a2 _ k2 (hsz r (by simp[K.cons])) hw.2 h2) (by omega)
 |dom s c=>exact ow30_dom w D op s c a1 a2 _ k1 _ k2 _ ⟨_,_,_,rfl⟩ (hnm s hw.1) (hx c a2 _ k2 (hsz c (by simp[K.cons])) hw.2 h2) (by omega)
 |typ s c=>exact ow30_typ w D op s c a1 a2 _ k1 _ k2 _ ⟨_,_,_,rfl⟩ (hnm s hw.1) (hx c a2 _ k2 (hsz c (by simp[K.cons])) hw.2 h2) (by omega)
 |refl s=>exact ow30_refl w D op s _ _ _ ⟨_,_,_,rfl⟩ ⟨_,_,_,rfl⟩ ⟨_,_,_,rfl⟩ (hnm s hw) (by omega)
 |link x r y=>exact ow30_link w D op x r y _ _ _ ⟨_,_,_,rfl⟩ ⟨_,_,_,rfl⟩ ⟨_,_,_,rfl⟩ (hnm x hw.1) (hnm r hw.2.1) (hnm y hw.2.2) (by omega)
 |rsub r s=>exact ow30_rsub w D op r s a1 a2 _ k1 _ k2 _ ⟨_,_,_,rfl⟩ (hnm r hw.1) (hnm s hw.2) h3 (by omega)
 |chain l s=>exact ow30_chain w D op l s a1 a2 _ k1 _ k2 _ ⟨_,_,_,rfl⟩ (fun r hr=>hnm r (hw.2.2.1 r hr)) (hnm s hw.2.2.2) (by have:=hw.1;omega) hw.2.1 h3 (by omega)
theorem inIRI_x(w:World):Calls prog 26 #[.int .u8 120] w fun e w'=>e=.returned (.bool true)∧w'=w:=by
 go_enter func26,ntmps26
 go_wp2
 go_ret
 exact⟨rfl,rfl⟩
theorem contains_c(w:World)(D:Gh)[hk:Keeps D w](l:List Bs)(v:Value)(s:Bs)(hS:SV D l v):Calls prog 29 #[v,.string (str s)] w fun e w'=>e=.returned (.bool (l.contains s))∧w'=w:=by
 obtain⟨a,m,rfl,hm1,hm2⟩:=SlN.form hS
 rcases l with _|⟨x,r⟩
 ·exact slices_Contains_string_empty a m (str s) w
 ·obtain⟨b,o,rfl,hD⟩:=SV_first hS (by simp)
  have h:=slices_Contains_string b o (x::r).length m ((x::r).map str) (str s) w (by simp) (by unfold maxLen at hm2;omega) (fun j hj=>by
   have hj':j<(x::r).length:=by simpa using hj
   rw[hk.out _ _ _ (hD j _ (List.getElem?_eq_getElem hj'))]
   rw[List.getD_eq_getElem?_getD,List.getElem?_map,List.getElem?_eq_getElem hj'];rfl)
  refine h.mono ?_
  rintro e w' ⟨rfl,rfl⟩
  refine⟨?_,rfl⟩
  have key:∀q:List Bs,Lib.containsS (q.map str) (str s)=q.contains s:=fun q=>by
   rw[Bool.eq_iff_iff,Lib.containsS_iff,List.contains_iff_mem,List.mem_map]
   exact⟨fun⟨y,hy,e⟩=>str_inj e▸hy,fun h=>⟨s,h,rfl⟩⟩
  rw[List.take_of_length_le (by simp),key]
end Go.Proofs.YticgonfhjcaohaaGreatDoor
