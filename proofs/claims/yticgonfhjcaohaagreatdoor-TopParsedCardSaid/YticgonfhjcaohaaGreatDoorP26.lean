/- TopParsed, part 26. -/
import Derived.Shelf.Spec.SlicesGrow
import Derived.Test.YticgonfhjcaohaaGreatDoorP22
set_option maxRecDepth 100000
set_option maxHeartbeats 32000000
namespace Go.Proofs.YticgonfhjcaohaaGreatDoor
open Go.RowKit Go.VT
def Tryz.grow141_ren:Go.Shelf.Ren:=⟨fun|4=>141|n=>n,fun|22=>32|25=>9|3=>3|4=>4|9=>9|20=>20|0=>0|n=>n,fun|n=>n⟩
theorem Tryz.grow141:Go.Proofs.Lays8.n4 Tryz.prog Tryz.grow141_ren:={
 mixed:=by kernel_rfl
 f4:=⟨Tryz.f141.name,by decide,Tryz.func141.trans (congrArg some (by kernel_rfl))⟩
 t0:=Tryz.underlying0
 a0:=Tryz.isAgg0
 z0:=Tryz.sizeOf0
 v0:=Tryz.zeroValue0
 t3:=Tryz.underlying3
 a3:=Tryz.isAgg3
 z3:=Tryz.sizeOf3
 v3:=Tryz.zeroValue3
 t4:=Tryz.underlying4
 a4:=Tryz.isAgg4
 z4:=Tryz.sizeOf4
 v4:=Tryz.zeroValue4
 t9:=Tryz.underlying9
 a9:=Tryz.isAgg9
 z9:=Tryz.sizeOf9
 v9:=Tryz.zeroValue9
 t20:=Tryz.underlying20
 a20:=Tryz.isAgg20
 z20:=Tryz.sizeOf20
 v20:=Tryz.zeroValue20
 t22:=Tryz.underlying32
 a22:=Tryz.isAgg32
 z22:=Tryz.sizeOf32
 v22:=Tryz.zeroValue32}
theorem run_append_0{w:World}{D:Gh}{B n:Nat}{v:Value}{xs:List Value}(h:VT.Own w D B 9 1 v n xs)(ty:TypeId)(a:Option Addr)(c:Nat):
  (Builtin.append_ #[32,32] ty #[v,.slice a 0 c]).run Tryz.prog w=.ok v w:=by
 obtain⟨i,z,hi,hz,h1,h2,h3⟩:=(el9:El Tryz.prog 9 1 _).out
 rcases h.own.2 with⟨rfl,rfl⟩|⟨g,cap,cur,rfl,_,_,hnc,_⟩
 ·cases a<;>simp[Builtin.append_,run_underlying Tryz.underlying32,sizeOf,typeInfo,hi,Builtin.lenOf,Builtin.firstCells,loadCells,loadCellsFrom]
 ·cases a<;>simp[Builtin.append_,run_underlying Tryz.underlying32,sizeOf,typeInfo,hi,Builtin.lenOf,Builtin.firstCells,hnc,storeCells,loadCells,loadCellsFrom]
theorem run_append_S{w:World}{D:Gh}[hk:Keeps D w]{B n:Nat}{v:Value}{xs l:List Bs}(h:VT.Own w D B 9 1 v n (xs.map fun s=>.string (str s)))(ty:TypeId){a:Option Addr}{m c:Nat}(hS:SV D l (.slice a m c))
  (hN:n+m≤1099511627776) (hB:B≤w.heap.size):
  ∃v' w',(Builtin.append_ #[32,32] ty #[v,.slice a m c]).run Tryz.prog w=.ok v' w'∧VT.Own w' D B 9 1 v' (n+m) ((xs++l).map fun s=>.string (str s))∧Cll v.ownBlock w w':=by
 obtain⟨rfl,h1,h2⟩:=SV_len hS
 obtain⟨_,a',c',hv,_,_,_,h4⟩:=hS
 cases hv
 rcases l with _|⟨s0,r⟩
 ·exact⟨v,w,run_append_0 h ty a c,by simpa using h,⟨Bl.refl _ _⟩⟩
 ·obtain⟨b,o,rfl,hc⟩:=h4 (by simp)
  obtain⟨v',w',h1,h2,h3⟩:=run_append_N (P:=Tryz.prog) (t:=32) (ty:=ty) Tryz.underlying32 el9 h (b:=b) (o:=o) (m:=(s0::r).length) (c:=c) (news:=(s0::r).map fun s=>.string (str s)) (by simp) (fun j u e=>hk.out _ _ _ (hc j u e)) (own_strs_one _) (by unfold maxLen;omega) (by omega) hB
  exact⟨v',w',h1,by rw[List.map_append];exact h2,h3⟩
theorem wp_append_run{P:Program}{w w':World}{ops:Array Oper}{rest:List Oper}{o:Oper}{a:Act}{Q:Exit→Act→World→Prop}(hgd:o.guard=none)(x y:Operand)(t:TypeId)
  (ho:o.op=.call {callee:=.builtin .append,args:=#[x,y],argTypes:=#[t,t]}) {v u v':Value} (hx:a.eval x=v) (hy:a.eval y=u) (hr:(Builtin.append_ #[t,t] o.type #[v,u]).run P w=.ok v' w') (hK:wpList P ops Q rest (a.put o.dst v') w'):wpList P ops Q (o::rest) a w:=by
 refine wpList_plain hgd fun K hk'=>?_
 unfold Oper.wp execOp
 simp only[ho,resolve,invoke,builtin,Sem.run_bind,Sem.run_pure,Result.andThen_ok,List.map_toArray,List.map_cons,List.map_nil,hx,hy,hr]
 exact hk' _ _ hK
theorem growN_c(w:World)(D:Gh)[hk:Keeps D w](n:Nat)(hn:n≤1099511627776):
  Calls Tryz.prog 141 #[.slice none 0 0,.int .i64 n] w fun e w'=>∃v,e=.returned v∧VT.Own w' D w.heap.size 9 1 v 0 []∧Cll none w w':=by
 rcases Nat.eq_zero_or_pos n with rfl|h0
 ·refine(Any8.slices_Grow_room Tryz.grow141 none 0 0 0 w (by omega) (by omega) (by omega) (by omega)).mono ?_
  rintro e w' ⟨rfl,rfl⟩
  exact⟨_,rfl,VT.Own.nil _ _ _ _,⟨Bl.refl _ _⟩⟩
 ·obtain⟨i,z,hi,hz,h1,h2,h3⟩:=(el9:El Tryz.prog 9 1 _).out
  refine(Any8.slices_Grow_grow Tryz.grow141 i z hi hz (by omega) none 0 0 n [] w (by omega) (by omega) (by rw[h2];omega) (by omega) (by simp) (fun _=>rfl) (by simp)).mono ?_
  rintro e w' ⟨rfl,rfl⟩
  have hle:n≤grownCap w (0+n) 0 9:=by have:=grownCap_ge w (0+n) 0 9;omega
  refine⟨_,rfl,⟨⟨by simp,.inr ⟨w.heap.size,_,_,rfl,Nat.le_refl _,heap_alloc_new w.drew _,Nat.zero_le _,grownCap_le_maxLen w (0+n) 0 9 (by unfold maxLen;omega),?_,by simp⟩⟩,⟨fun g hg=>?_⟩⟩,?_⟩
  ·simp only[Array.size_append,List.size_toArray,List.length_nil,size_zeroCells,h3,Nat.zero_add,Nat.mul_one,Nat.sub_zero]
   have h4:n≤grownCap w n 0 9:=by simpa using hle
   have e25:Tryz.grow141_ren.t 25=9:=rfl
   rw[e25]
   omega
  ·injection hg with hg;subst hg;infer_instance
  ·exact Bel.c
theorem concat_c(w:World)(D:Gh)[hk:Keeps D w](vs:List (List Bs×Value))(bk o c:Nat)(hcell:∀(j:Nat) x,vs[j]? =some x→w.cell? ⟨bk,o+j,none⟩=some x.2)(hbk:bk<w.heap.size)(hcap:vs.length≤c)(hS:∀x∈vs,SV D x.1 x.2)(hN:(vs.flatMap (·.1)).length≤1099511627776)(hv:vs.length≤1000):
  Calls Tryz.prog 77 #[.slice (some ⟨bk,o,none⟩) vs.length c] w fun e w'=>∃v,e=.returned v∧VT.Own w' D w.heap.size 9 1 v (vs.flatMap (·.1)).length ((vs.flatMap (·.1)).map fun s=>.string (str s))∧Cll none w w':=by
 obtain⟨sz,hsz⟩:∃sz:Nat→Nat,∀i,sz i=((vs.take i).flatMap (·.1)).length:=⟨_,fun _=>rfl⟩
 have hszN:∀i,sz i≤1099511627776:=fun i=>by
  rw[hsz]
  refine Nat.le_trans ?_ hN
  have:(vs.take i).flatMap (·.1)<+:vs.flatMap (·.1):=by
   conv=>rhs;rw[←List.take_append_drop i vs,List.flatMap_append]
   exact List.prefix_append _ _
  exact this.length_le
 have hsz1:∀i x,vs[i]? =some x→sz (i+1)=sz i+x.1.length:=fun i x hx=>by rw[hsz,hsz,List.take_add_one,hx];simp
 have hsz0:sz 0=0:=by rw[hsz];rfl
 have hszE:sz vs.length=(vs.flatMap (·.1)).length:=by rw[hsz,List.take_length]
 obtain⟨n,hn⟩:∃n,n=vs.length:=⟨_,rfl⟩
 rw[←hszE]
 rw[←hn]at hcap hv⊢
 have HSZ:=Lib.hid hsz
 have HSZ1:=Lib.hid hsz1
 have HSN:=Lib.hid hszN
 have HSZ0:=Lib.hid hsz0
 have HN:=Lib.hid hn
 have HC:=Lib.hid hcell
 have HS:=Lib.hid hS
 have HE:=Lib.hid hszE
 clear hsz hsz1 hszN hsz0 hn hcell hS hszE hN
 go_enter Tryz.func77,Tryz.ntmps77
 go_wp2_with fail
 go_loopg [3,11] n (fun gk v3 v11 wr=>∃i:Nat,v3=.int .i64 (sz i)∧v11=.int .i64 i∧gk+i=n∧w=wr)
 case atStart=>exact⟨0,by rw[HSZ0.out];rfl,rfl,rfl,rfl⟩
 case round=>
  obtain⟨i,rfl,rfl,hgk,rfl⟩:=hrel
  by_cases hi:i<n
  ·obtain⟨x,hx⟩:∃x,vs[i]? =some x:=⟨_,List.getElem?_eq_getElem (by rw[←HN.out];exact hi)⟩
   have hSx:=HS.out x (List.mem_of_getElem? hx)
   obtain⟨l,v⟩:=x
   change SV D l v at hSx
   obtain⟨a',m',rfl,hm1,hm2⟩:=SlN.form hSx
   have hcl:=HC.out i _ hx
   have h1:=HSZ1.out i _ hx
   have h2:=HSN.out (i+1)
   obtain⟨s0,hs0⟩:∃s,s=sz i:=⟨_,rfl⟩
   obtain⟨s1,hs1⟩:∃s,s=sz (i+1):=⟨_,rfl⟩
   rw[←hs0,←hs1]at h1
   rw[←hs1]at h2
   rw[←hs0]
   have HS1:=Lib.hid hs1
   have h3:(s0:Int)+(l.length:Int)=(s1:Int):=by simp at h1;omega
   have h4:(s1:Int)≤1099511627776:=by omega
   have h5:decide ((s1:Int)<0)=false:=by simp
   have hi':(i:Int)<(n:Int):=by omega
   clear hs0 hs1 h1 h2 hx hSx
   go_wp2_with fail
   go_roundg (gk-1)
   case measure=>omega
   case rel=>exact⟨i+1,by rw[HS1.out],by simp,by omega,rfl⟩
  ·obtain rfl:i=n:=by omega
   have hi':¬(i:Int)<(i:Int):=by omega
   go_wp2_with fail
   refine(growN_c w D (sz i) (HSN.out i)).mono ?_
   rintro e w2 ⟨v0,rfl,hO0,hc0⟩
   have hb0:Bel none w w2:=⟨hc0.out⟩
   have hz2:=hc0.out.size
   go_wp2_with fail
   go_loopg [6,27] i (fun gk v6 v27 wr=>∃j:Nat,v27=.int .i64 j∧gk+j=i∧VT.Own wr D w.heap.size 9 1 v6 (sz j) (((vs.take j).flatMap (·.1)).map fun s=>.string (str s))∧Bl none w wr)
   case atStart=>exact⟨0,rfl,rfl,by rw[HSZ0.out];exact hO0,hc0.out⟩
   case round=>
    obtain⟨j,rfl,hgk,hO,hb⟩:=hrel
    have hbb:Bel none w wr:=⟨hb⟩
    have hcc:Cll none w wr:=⟨hb⟩
    have:Keeps D wr:=Keeps.call none D w wr
    have hz:=hb.size
    by_cases hj:j<i
    ·obtain⟨x,hx⟩:∃x,vs[j]? =some x:=⟨_,List.getElem?_eq_getElem (by rw[←HN.out];exact hj)⟩
     have hSx:=HS.out x (List.mem_of_getElem? hx)
     have hcl:=(ncell (W:=w) (w1:=wr)).1 bk (o+j) hbk
     rw[HC.out j _ hx]at hcl
     have h1:=HSZ1.out j _ hx
     have h2:=HSN.out (j+1)
     have htk:(vs.take (j+1)).flatMap (·.1)=(vs.take j).flatMap (·.1)++x.1:=by rw[List.take_add_one,hx];simp
     obtain⟨l,v⟩:=x
     change SV D l v at hSx
     obtain⟨a',m',rfl,hm1,hm2⟩:=SlN.form hSx
     rename_i v6 _
     obtain⟨v',w4,hrun,hO4,hc4⟩:=run_append_S hO 32 hSx (by simp at h1;omega) hz
     have HTK:=Lib.hid htk
     have H1:=Lib.hid h1
     have hj':(j:Int)<(i:Int):=by omega
     have hb4:Bl none w w4:=by
      have:=hc4
      have:=VT.Own.sub hO none (a:=w) (Nat.le_refl _)
      exact(Bel.c (X:=none) (a:=w) (w:=w4)).out
     have HR:=Lib.hid hrun
     clear htk h1 h2 hx hSx hO hc4 hrun
     go_wp2_with (at_builtin;refine wp_append_run rfl (.tmp 31) (.tmp 32) 32 rfl rfl rfl HR.out ?_)
     go_roundg (gk-1)
     case measure=>omega
     case rel=>exact⟨j+1,by simp,by omega,by rw[HTK.out,H1.out];exact hO4,hb4⟩
    ·obtain rfl:j=i:=by omega
     have hj':¬(j:Int)<(j:Int):=by omega
     have hfin:(vs.take j).flatMap (·.1)=vs.flatMap (·.1):=by rw[HN.out,List.take_length]
     rw[hfin]at hO
     have HFIN:=Lib.hid hfin
     clear hfin
     go_wp2_with fail
     go_ret
     exact⟨_,rfl,hO,⟨hb⟩⟩
end Go.Proofs.YticgonfhjcaohaaGreatDoor
