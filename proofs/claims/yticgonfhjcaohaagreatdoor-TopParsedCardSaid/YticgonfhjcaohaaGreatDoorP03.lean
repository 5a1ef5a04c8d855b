/- TopParsed, part 3. -/
import Derived.Test.YticgonfhjcaohaaGreatDoorP01
import Derived.Test.YticgonfhjcaohaaGreatDoorP02
set_option maxRecDepth 100000
set_option maxHeartbeats 32000000
namespace Go.VT
open Go.RowKit
structure El(P:Program)(e:TypeId)(s bytes:Nat):Prop where
 out:∃i z,P.info? e=some i∧i.zero=some z∧i.size=s∧i.bytes=bytes∧z.cells.size=s
 pos:0<s
theorem El.of{P:Program}{e:TypeId}{s bytes:Nat}(h:(P.info? e).map (fun i=>(i.size,i.bytes,i.zero.map (·.cells.size)))=some (s,bytes,some s))(hs:0<s):El P e s bytes:=by
 refine⟨?_,hs⟩
 cases hi:P.info? e with
 |none=>rw[hi]at h;cases h
 |some i=>
  rw[hi]at h
  simp only[Option.map_some,Option.some.injEq,Prod.mk.injEq]at h
  obtain⟨h1,h2,h3⟩:=h
  cases hz:i.zero with
  |none=>rw[hz]at h3;cases h3
  |some z=>rw[hz]at h3;exact⟨i,z,rfl,hz,h1,h2,by simpa using h3⟩
class Own(w:World)(D:Gh)(B:outParam Nat)(e:outParam TypeId)(s:outParam Nat)(v:Value)(n:outParam Nat)(xs:outParam (List Value)):Prop where
 own:w.ownsRow B e s v n xs
 off:OffX D v.ownBlock
section
variable{w w':World}{D D':Gh}{B:Nat}{e:TypeId}{s:Nat}{v:Value}{n:Nat}{xs:List Value}
theorem Own.nil(w:World)(D:Gh)(e:TypeId)(s:Nat):Own w D w.heap.size e s (.slice none 0 0) 0 []:=⟨⟨by simp,.inl ⟨rfl,rfl⟩⟩,⟨fun g h=>by cases h⟩⟩
theorem Own.lt(h:Own w D B e s v n xs):∀k,v.ownBlock=some k→B≤k∧k<w.heap.size:=own_lt h.own
theorem Own.of_block(h:Own w D B e s v n xs)(hb:∀k,v.ownBlock=some k→w'.heap[k]? =w.heap[k]?)(ho:OffX D' v.ownBlock):Own w' D' B e s v n xs:=by
 refine⟨⟨h.own.1,?_⟩,ho⟩
 rcases h.own.2 with hn|⟨g,cap,cur,rfl,hg,hh,r⟩
 ·exact .inl hn
 ·exact .inr ⟨g,cap,cur,rfl,hg,(hb g rfl).trans hh,r⟩
instance Own.drew[h:Own w D B e s v n xs]:Own w.drew D B e s v n xs:=h.of_block (fun _ _=>rfl) h.off
instance Own.drewN(m:Nat)[h:Own w D B e s v n xs]:Own (w.drewN m) D B e s v n xs:=h.of_block (fun _ _=>rfl) h.off
instance Own.alloc(o:Obj)[h:Own w D B e s v n xs]:Own (w.alloc o) D B e s v n xs:=h.of_block (fun k hk=>Below.heap_alloc w o k (h.lt k hk).2) h.off
class Apart(v:Value)(X:Option Nat):Prop where
 out:∀k,v.ownBlock=some k→some k≠X
instance Apart.none(v:Value):Apart v none:=⟨fun _ _=>by simp⟩
instance Own.call(X:Option Nat)[hc:Cll X w w'][h:Own w D B e s v n xs][ha:Apart v X]:Own w' D B e s v n xs:=
 h.of_block (fun k hk=>hc.out.block k (h.lt k hk).2 (ha.out k hk)) h.off
instance(priority:=high) Own.gro(X:Option Nat)[hc:Gro X w D w' D'][h:Own w D B e s v n xs][ha:Apart v X]:Own w' D' B e s v n xs:=
 h.of_block (fun k hk=>hc.bl.block k (h.lt k hk).2 (ha.out k hk)) ⟨fun g hg=>⟨fun o=>(hc.old g (h.lt g hg).2 o).trans ((h.off.out g hg).out o)⟩⟩
theorem Own.far[h:Own w D B e s v n xs]{b o:Nat}(hne:v.ownBlock≠some b)(u:Value):Own (w.setCell ⟨b,o,none⟩ u) D B e s v n xs:=
 h.of_block (fun k hk=>Below.heap_setCell w _ u k (fun e=>hne (by rw[hk,e]))) h.off
theorem Own.apart(h:Own w D B e s v n xs){g:Nat}(hg:g<B):Apart v (some g):=⟨fun k hk e=>by have:=(h.lt k hk).1;have:=Option.some.inj e;omega⟩
theorem Own.sub(h:Own w D B e s v n xs)(Y:Option Nat){a:World}(hg:a.heap.size≤B):Sub v.ownBlock Y a:=⟨fun k hk _ hx=>by have:=(h.lt k hx.symm).1;omega⟩
theorem Own.pub[hk:Keeps D w](h:Own w D B e s v n xs):∃D',Pub w D D' v.ownBlock∧SlN D' s v n xs:=own_pub h.own h.off.out
theorem Own.base(h:Own w D B e s v n xs){B':Nat}(hb:B'≤B):Own w D B' e s v n xs:=by
 refine⟨⟨h.own.1,?_⟩,h.off⟩
 rcases h.own.2 with hn|⟨g,cap,cur,hv,hg,r⟩
 ·exact .inl hn
 ·exact .inr ⟨g,cap,cur,hv,by omega,r⟩
theorem Own.lit{g m:Nat}{cs:Array Value}(h:Box w D g e cs)(hm:cs.size=m*s)(hmm:m≤maxLen)(hg:B≤g):Own w D B e s (.slice (some ⟨g,0,none⟩) m m) m cs.toList:=
 ⟨⟨by simpa using hm,.inr ⟨g,m,cs,rfl,hg,h.heap,Nat.le_refl _,hmm,hm,by rw[←hm];exact List.take_of_length_le (by simp)⟩⟩,⟨fun k hk=>by cases hk;exact h.off⟩⟩
end
section
variable{P:Program}{w:World}
theorem run_append_N{t ty e:TypeId}{s bytes:Nat}(ht:P.underlying t=some (.slice e))(hE:El P e s bytes){D:Gh}{B:Nat}{v:Value}{n:Nat}{xs:List Value}(h:Own w D B e s v n xs)[hk:Keeps D w]
  {b o m c:Nat} {news:List Value} (hl:news.length=m*s) (hc:∀j u,news[j]? =some u→w.cell? ⟨b,o+j,none⟩=some u) (h1:∀u∈news,u.oneCell'=true)
  (h63:n+m≤maxLen) (hbytes:(n+m)*bytes≤140737488355328) (hB:B≤w.heap.size):
  ∃v' w',(Builtin.append_ #[t,t] ty #[v,.slice (some ⟨b,o,none⟩) m c]).run P w=.ok v' w'∧Own w' D B e s v' (n+m) (xs++news)∧Cll v.ownBlock w w':=by
 obtain⟨i,z,hi,hz,hsz,hby,hzs⟩:=hE.out
 obtain⟨v',w',hrun,h2,h3,_,h5⟩:=run_append_own_at (P:=P) w B t ty e i z s bytes ht hi hz hsz hby hzs hE.pos v n xs h.own ⟨b,o,none⟩ m c news hl (fun j u hu=>by rw[Addr.add_lit];exact hc j u hu) h1 h63 hbytes hB
 refine⟨v',w',hrun,⟨h2,⟨fun g hg=>?_⟩⟩,⟨Bl.grown h3⟩⟩
 rcases h5 with h5|h5
 ·exact h.off.out g (h5.symm.trans hg)
 ·rw[h5]at hg;injection hg with hg;subst hg;infer_instance
theorem wp_append_N{ops:Array Oper}{rest:List Oper}{o:Oper}{a:Act}{Q:Exit→Act→World→Prop}(hgd:o.guard=none)(x y:Operand)(t:TypeId)
  (ho:o.op=.call {callee:=.builtin .append,args:=#[x,y],argTypes:=#[t,t]}) {e:TypeId} {s bytes:Nat} (ht:P.underlying t=some (.slice e)) (hE:El P e s bytes)
  {D:Gh} {B:Nat} {v:Value} {n:Nat} {xs:List Value} (hx:a.eval x=v) (h:Own w D B e s v n xs) [hk:Keeps D w]
  {b off m c:Nat} {news:List Value} (hy:a.eval y=.slice (some ⟨b,off,none⟩) m c) (hl:news.length=m*s) (hc:∀j u,news[j]? =some u→w.cell? ⟨b,off+j,none⟩=some u) (h1:∀u∈news,u.oneCell'=true)
  (h63:n+m≤maxLen) (hbytes:(n+m)*bytes≤140737488355328) (hB:B≤w.heap.size)
  (hK:∀v' w',Own w' D B e s v' (n+m) (xs++news)→Cll v.ownBlock w w'→wpList P ops Q rest (a.put o.dst v') w'):wpList P ops Q (o::rest) a w:=by
 refine wpList_plain hgd fun K hk'=>?_
 obtain⟨v',w',hrun,h2,h3⟩:=run_append_N (P:=P) (ty:=o.type) ht hE h (c:=c) hl hc h1 h63 hbytes hB
 unfold Oper.wp execOp
 simp only[ho,resolve,invoke,builtin,Sem.run_bind,Sem.run_pure,Result.andThen_ok,List.map_toArray,List.map_cons,List.map_nil,hx,hy,hrun]
 exact hk' _ _ (hK v' w' h2 h3)
theorem wp_append_1{ops:Array Oper}{rest:List Oper}{o:Oper}{a:Act}{Q:Exit→Act→World→Prop}(hgd:o.guard=none)(x y:Operand)(t:TypeId)
  (ho:o.op=.call {callee:=.builtin .append,args:=#[x,y],argTypes:=#[t,t]}) {e:TypeId} {s bytes:Nat} (ht:P.underlying t=some (.slice e)) (hE:El P e s bytes)
  {D:Gh} {B:Nat} {v:Value} {n:Nat} {xs:List Value} (hx:a.eval x=v) (h:Own w D B e s v n xs) [hk:Keeps D w]
  {g:Nat} {cs:Array Value} (hy:a.eval y=.slice (some ⟨g,0,none⟩) 1 1) (hg:Box w D g e cs) (hl:cs.size=s) (h1:∀u∈cs.toList,u.oneCell'=true)
  (h63:n+1≤maxLen) (hbytes:(n+1)*bytes≤140737488355328) (hB:B≤w.heap.size)
  (hK:∀v' w',Own w' D B e s v' (n+1) (xs++cs.toList)→Cll v.ownBlock w w'→wpList P ops Q rest (a.put o.dst v') w'):wpList P ops Q (o::rest) a w:=
 wp_append_N hgd x y t ho ht hE hx h hy (by simpa using hl) (fun j u e=>by rw[Box.cell (D:=D)];simpa using e) h1 h63 hbytes hB hK
end
def crow(x:C×Value):List Value:=[.int .i64 x.1.kind,.string (str x.1.nm),.int .i64 x.1.lo,.int .i64 x.1.hi,x.2]
abbrev cv(c:C)(p:Value):Value:=.agg #[.int .i64 c.kind,.string (str c.nm),.int .i64 c.lo,.int .i64 c.hi,p]
structure Crow(D:Gh)(b o:Nat)(c:C)(p:Value):Prop where
 h0:D b o=some (.int .i64 c.kind)
 h1:D b (o+1)=some (.string (str c.nm))
 h2:D b (o+2)=some (.int .i64 c.lo)
 h3:D b (o+3)=some (.int .i64 c.hi)
 h4:D b (o+4)=some p
class inductive PV(D:Gh):List C→Value→Prop where
 |nil:PV D [] (.slice none 0 0)
 |rows {l:List C} {cap b o:Nat} {pv:Nat→Value} (h0:l≠[]) (hcap:l.length≤cap) (hm:cap≤9223372036854775807)
   (hc:∀j c,l[j]? =some c→Crow D b (o+j*5) c (pv j)) (hp:∀j c,l[j]? =some c→PV D c.parts (pv j)):PV D l (.slice (some ⟨b,o,none⟩) l.length cap)
attribute [instance] PV.nil
theorem Crow.le{D D':Gh}[hd:Le D D']{b o:Nat}{c:C}{p:Value}(h:Crow D b o c p):Crow D' b o c p:=
 ⟨hd.out _ _ _ h.h0,hd.out _ _ _ h.h1,hd.out _ _ _ h.h2,hd.out _ _ _ h.h3,hd.out _ _ _ h.h4⟩
instance PV.le(D D':Gh)(l:List C)(p:Value)[hd:Le D D'][h:PV D l p]:PV D' l p:=by
 induction h with
 |nil=>exact .nil
 |rows h0 hcap hm hc _ ih=>exact .rows h0 hcap hm (fun j c e=>(hc j c e).le) ih
theorem PV.form{D:Gh}{l:List C}{p:Value}(h:PV D l p):∃a cap,p=.slice a l.length cap∧l.length≤cap∧cap≤9223372036854775807:=by
 cases h with
 |nil=>exact⟨none,0,rfl,by simp,by omega⟩
 |rows h0 hcap hm _ _=>exact⟨_,_,rfl,hcap,hm⟩
theorem PV.at_{D:Gh}{l:List C}{a:Option Addr}{m cap:Nat}(h:PV D l (.slice a m cap)){j:Nat}{c:C}(hj:l[j]? =some c):∃b o p,a=some ⟨b,o,none⟩∧Crow D b (o+j*5) c p∧PV D c.parts p:=by
 cases h with
 |nil=>simp at hj
 |rows h0 hcap hm hc hp=>exact⟨_,_,_,rfl,hc j c hj,hp j c hj⟩
theorem Crow.held{D:Gh}{w:World}[hk:Keeps D w]{b o:Nat}{c:C}{p:Value}(h:Crow D b o c p):
  w.cell? ⟨b,o,none⟩=some (.int .i64 c.kind)∧w.cell? ⟨b,o+1,none⟩=some (.string (str c.nm))∧w.cell? ⟨b,o+2,none⟩=some (.int .i64 c.lo)∧w.cell? ⟨b,o+3,none⟩=some (.int .i64 c.hi)∧w.cell? ⟨b,o+4,none⟩=some p∧b<w.heap.size:=
 ⟨hk.out _ _ _ h.h0,hk.out _ _ _ h.h1,hk.out _ _ _ h.h2,hk.out _ _ _ h.h3,hk.out _ _ _ h.h4,Keeps.lt h.h0⟩
theorem crow_len(xs:List (C×Value)):(xs.flatMap crow).length=xs.length*5:=by
 induction xs with
 |nil=>rfl
 |cons x r ih=>simp only[List.flatMap_cons,List.length_append,List.length_cons,ih,crow,List.length_nil];omega
theorem crow_at(xs:List (C×Value))(j:Nat)(x:C×Value)(h:xs[j]? =some x)(i:Nat)(u:Value)(hu:(crow x)[i]? =some u):(xs.flatMap crow)[j*5+i]? =some u:=by
 induction xs generalizing j with
 |nil=>simp at h
 |cons y r ih=>
  rw[List.flatMap_cons]
  have hi:i<5:=by
   rcases Nat.lt_or_ge i 5 with hi|hi
   ·exact hi
   ·rw[List.getElem?_eq_none (by simpa[crow]using hi)]at hu;cases hu
  cases j with
  |zero=>
   obtain rfl:y=x:=by simpa using h
   rw[List.getElem?_append_left (by simp[crow];omega),Nat.zero_mul,Nat.zero_add];exact hu
  |succ j=>
   rw[List.getElem?_append_right (by simp[crow];omega)]
   have e:(j+1)*5+i-(crow y).length=j*5+i:=by simp[crow];omega
   rw[e];exact ih j (by simpa using h)
theorem crow_one(xs:List (C×Value))(h:∀x∈xs,∃a n c,x.2=.slice a n c):∀u∈xs.flatMap crow,u.oneCell'=true:=by
 intro u hu
 obtain⟨x,hx,hux⟩:=List.mem_flatMap.1 hu
 obtain⟨a,n,c,e⟩:=h x hx
 simp only[crow,e,List.mem_cons,List.not_mem_nil,or_false]at hux
 rcases hux with rfl|rfl|rfl|rfl|rfl<;>rfl
theorem PV.of_rows{D:Gh}{v:Value}{xs:List (C×Value)}(h:SlN D 5 v xs.length (xs.flatMap crow))(hn:v≠ .slice none 0 0→xs≠[])(hp:∀x∈xs,PV D x.1.parts x.2):PV D (xs.map (·.1)) v:=by
 obtain⟨_,a,c,rfl,h1,h2,h3,h4⟩:=h
 rcases xs with _|⟨x0,r⟩
 ·have:Value.slice a 0 c=.slice none 0 0:=by
   rcases Classical.em (Value.slice a 0 c=.slice none 0 0)with h|h
   ·exact h
   ·exact absurd rfl (hn h)
  rw[show([]:List (C×Value)).length=0 from rfl,this];exact .nil
 ·obtain⟨b,o,rfl,hc⟩:=h4 (by simp)
  have key:∀(j:Nat)(x:C×Value),(x0::r)[j]? =some x→∀i u,(crow x)[i]? =some u→D b (o+j*5+i)=some u:=fun j x hx i u hu=>by
   rw[Nat.add_assoc];exact hc _ _ (crow_at _ j x hx i u hu)
  have hlen:(List.map (·.1) (x0::r)).length=(x0::r).length:=by simp
  rw[←hlen]
  refine .rows (pv:=fun j=>((x0::r)[j]?.map (·.2)).getD undef) (by simp) (by rw[hlen];exact h1) (by unfold maxLen at h2;omega) (fun j c e=>?_) (fun j c e=>?_)
  ·rw[List.getElem?_map]at e
   obtain⟨x,hx,rfl⟩:=Option.map_eq_some_iff.1 e
   rw[hx]
   have k:=key j x hx
   exact⟨k 0 _ rfl,k 1 _ rfl,k 2 _ rfl,k 3 _ rfl,k 4 _ rfl⟩
  ·rw[List.getElem?_map]at e
   obtain⟨x,hx,rfl⟩:=Option.map_eq_some_iff.1 e
   rw[hx]
   exact hp x (List.mem_of_getElem? hx)
theorem Own.pubPV{w:World}{D:Gh}[Keeps D w]{B:Nat}{e:TypeId}{v:Value}{n:Nat}{xs:List (C×Value)}(h:Own w D B e 5 v n (xs.flatMap crow))(hn:xs≠[])(hp:∀x∈xs,PV D x.1.parts x.2):∃D',Pub w D D' v.ownBlock∧PV D' (xs.map (·.1)) v:=by
 obtain⟨D',hP,hS⟩:=h.pub
 have hl:n=xs.length:=by have:=h.own.1;rw[crow_len]at this;omega
 subst hl
 have:=hP.le
 exact⟨D',hP,PV.of_rows hS (fun _=>hn) (fun x hx=>have:=hp x hx;inferInstance)⟩
end Go.VT
namespace Go.Proofs.YticgonfhjcaohaaGreatDoor
open Go.RowKit Go.VT _root_.Go.Proofs.Tryz
theorem isLetter_c(u:UInt8)(w:World):Calls prog 194 #[.int .u8 (u.toNat:Int)] w fun e w'=>e=.returned (.bool (letterB u))∧w=w':=by
 have hu:(u.toNat:Int)<256:=by have:=u.toNat_lt;omega
 have key:letterB u=decide ((97≤(u.toNat:Int)∧(u.toNat:Int)≤122)∨(65≤(u.toNat:Int)∧(u.toNat:Int)≤90)):=by
  rw[Bool.eq_iff_iff];simp[letterB,UInt8.le_iff_toNat_le];omega
 have HK:=hid key
 clear key
 go_enter func194,ntmps194
 go_wp2
 all_goals
  go_ret
  refine⟨?_,rfl⟩
  rw[HK.out]
  simp only[Array.getD_eq_getD_getElem?,List.getElem?_toArray,List.getElem?_cons_succ,List.getElem?_cons_zero,Option.getD_some,Ending.returned.injEq,Value.bool.injEq]
  rw[Bool.eq_iff_iff]
  simp
  omega
theorem keyword_c(s:Bs)(w:World):Calls prog 161 #[.string (str s)] w fun e w'=>e=.returned (.bool (keyword s))∧w=w':=by
 have hs:=str_toList s
 have key:keyword s=(s==w_and||s==w_some||s==w_in||s==w_to||s==w_nothing||s==w_everything||s==w_one||s==w_of||s==w_open||s==w_private||s==w_sub||s==w_same||s==w_disjoint||s==w_domain||s==w_role||s==w_chain||s==w_reflexive||s==w_type||s==w_link||s==w_select||s==w_where||s==w_or):=by
  simp only[keyword,kws,List.contains_cons,List.contains_nil,Bool.or_false,Bool.or_assoc]
 have HK:=hid key
 clear key
 go_enter func161,ntmps161
 go_wp2
 all_goals
  go_ret
  refine⟨?_,rfl⟩
  rw[HK.out]
  clear HK hs
  simp only[Array.getD_eq_getD_getElem?,List.getElem?_toArray,List.getElem?_cons_succ,List.getElem?_cons_zero,Option.getD_some,Ending.returned.injEq,Value.bool.injEq]
  first|(simp[*];done)|simp_all
def bv(u:UInt8):Value:=.int .u8 (u.toNat:Int)
theorem conv_bytes(s:Bs)(hs:s.length≤1099511627776)(w:World):∃c W,Sem.run prog (convert 9 22 (.string (str s))) w=.ok (.slice (some ⟨w.heap.size,0,none⟩) s.length c) W∧Cll none w W∧s.length≤c∧c≤9223372036854775807∧
  (∀j(hj:j<s.length),W.cell? ⟨w.heap.size,j,none⟩=some (bv s[j]))∧w.heap.size<W.heap.size:=by
 have hrun:=Lib.run_convert_string_bytes (P:=prog) w 9 22 5 (str s) underlying9 underlying22 underlying5
 have hsz:(str s).size=s.length:=by simp[str,ByteArray.size]
 have hge:=grownCap_ge w (str s).size 0 5
 have hle:=grownCap_le_maxLen w (str s).size 0 5 (by rw[hsz];unfold maxLen;omega)
 rw[hsz]at hrun hge hle
 refine⟨_,_,hrun,⟨rfl,rfl,rfl,by rw[Lib.bytesWorld_size];omega,fun j hj _=>Lib.bytesWorld_at_old w 5 (str s) j hj⟩,hge,hle,fun j hj=>?_,by rw[Lib.bytesWorld_size];omega⟩
 rw[Lib.bytesWorld_cell w 5 (str s) j (by rw[hsz];exact hj)]
 simp[str,bv,hj]
theorem all_take(s:Bs)(f:UInt8→Bool)(k:Nat)(h:k<s.length):(s.take (k+1)).all f=((s.take k).all f&&f s[k]):=by
 rw[List.take_succ_eq_append_getElem h,List.all_append];simp only[List.all_cons,List.all_nil,Bool.and_true]
theorem all_false(s:Bs)(f:UInt8→Bool)(k:Nat)(h:k<s.length)(hf:f s[k]=false):s.all f=false:=by
 rw[List.all_eq_false];exact⟨_,List.getElem_mem h,by simp[hf]⟩
theorem innerB_eq(u:UInt8):innerB u=(letterB u||decide ((u.toNat:Int)=95)||decide (48≤(u.toNat:Int)∧(u.toNat:Int)≤57)):=by
 have e1:(u==95)=decide ((u.toNat:Int)=95):=by
  by_cases h:u=95
  ·subst h;rfl
  ·have h2:¬u.toNat=95:=fun e=>h (UInt8.toNat_inj.1 e)
   rw[beq_eq_false_iff_ne.2 h,decide_eq_false (by omega)]
 have e2:digitB u=decide (48≤(u.toNat:Int)∧(u.toNat:Int)≤57):=by
  rw[Bool.eq_iff_iff];simp[digitB,UInt8.le_iff_toNat_le];omega
 simp only[innerB,e1,e2]
theorem isTail_c(s:Bs)(w:World)(hs:s.length≤100000):Calls prog 195 #[.string (str s)] w fun e w'=>e=.returned (.bool (s.all innerB))∧Cll none w w':=by
 obtain⟨c,W,hrun,hC,hc1,hc2,hcell,hsz⟩:=conv_bytes s (by omega) w
 have HC:=hid hcell
 clear hcell
 go_enter func195,ntmps195
 go_wp2
 clear hrun
 go_loop [8] (fun i=>∃k:Nat,k≤s.length∧i=.int .i64 k∧(s.take k).all innerB=true) (fun i=>s.length-(intOf i).toNat)
 case atStart=>exact⟨0,by omega,rfl,by simp⟩
 case round=>
  obtain⟨k,hk,rfl,hall⟩:=hrel
  have HA:=hid hall
  clear hall
  by_cases hlt:k<s.length
  ·have hcl:=HC.out k hlt
   unfold bv at hcl
   have hu:(s[k].toNat:Int)<256:=by have:=s[k].toNat_lt;omega
   have HI:=hid (innerB_eq s[k])
   have HT:=hid (all_take s innerB k hlt)
   have HF:=hid (all_false s innerB k hlt)
   generalize s[k]=u at*
   go_wp2_with (go_at_call 194;refine(isLetter_c _ _).mono ?_;rintro e w' ⟨rfl,rfl⟩)
   all_goals first
    |(go_round
      case rel=>
       refine⟨k+1,by omega,by go_num,?_⟩
       rw[HT.out,HA.out,HI.out]
       first|(simp[*];done)|(simp_all;done)|(simp_all;omega)
      case measure=>simp[intOf];omega)
    |(go_ret;exact⟨by rw[HF.out (by rw[HI.out];first|(simp[*];done)|(simp_all;omega))];rfl,Bel.c⟩)
  ·go_wp2
   go_ret
   obtain rfl:k=s.length:=by omega
   have:=HA.out
   rw[List.take_length]at this
   exact⟨by rw[this];rfl,Bel.c⟩
end Go.Proofs.YticgonfhjcaohaaGreatDoor
namespace Go.Proofs.YticgonfhjcaohaaGreatDoor
open Go.RowKit Go.VT _root_.Go.Proofs.Tryz
theorem indexByte_cut(l:Bs):(l.contains 58=false∧Lib.indexByte l 58= -1∧cutC l=(l,[]))∨
  (l.contains 58=true∧Lib.indexByte l 58=((cutC l).1.length:Int)∧l=(cutC l).1++58::(cutC l).2):=by
 induction l with
 |nil=>left;simp[Lib.indexByte,cutC]
 |cons b r ih=>
  by_cases hb:b=58
  ·subst hb;right;simp[Lib.indexByte,cutC]
  ·have h1:(b==58)=false:=beq_eq_false_iff_ne.2 hb
   have h2:(b != 58)=true:=by simp[hb]
   have h3:((58:UInt8)==b)=false:=beq_eq_false_iff_ne.2 (Ne.symm hb)
   rcases ih with⟨ha,hb2,hc⟩|⟨ha,hb2,hc⟩
   ·left
    simp only[cutC,Prod.mk.injEq]at hc
    refine⟨by rw[List.contains_cons,h3,ha];rfl,by simp[Lib.indexByte,h1,hb2],?_⟩
    simp only[cutC,List.takeWhile_cons,h2,if_true,List.dropWhile_cons,hc.1,hc.2]
   ·right
    have hne:(Lib.indexByte r 58== -1)=false:=by rw[hb2];exact beq_eq_false_iff_ne.2 (by omega)
    refine⟨by rw[List.contains_cons,ha,Bool.or_true],?_,?_⟩
    ·have e:(cutC (b::r)).1=b::(cutC r).1:=by simp only[cutC,List.takeWhile_cons,h2,if_true]
     rw[e,Lib.indexByte,if_neg (by simp[h1]),if_neg (by rw[hne];simp),hb2,List.length_cons];omega
    ·simp only[cutC,List.takeWhile_cons,h2,if_true,List.dropWhile_cons,List.cons_append,List.cons.injEq,true_and]at hc⊢
     exact hc
theorem str_data(a:Bs):(str a).data.toList=a:=by simp[str]
theorem str_size(a:Bs):(str a).size=a.length:=by simp[str,ByteArray.size]
theorem str_extract(s:Bs)(i j:Nat):(str s).extract i j=str ((s.drop i).take (j-i)):=by
 have h:=Lib.extract_data (str s) i j
 rw[str_data]at h
 have:str ((str s).extract i j).data.toList=(str s).extract i j:=str_list _
 rw[←this,h]
theorem str_take(s:Bs)(k:Nat):(str s).extract 0 k=str (s.take k):=by rw[str_extract,List.drop_zero,Nat.sub_zero]
theorem str_drop(s:Bs)(k:Nat):(str s).extract k s.length=str (s.drop k):=by rw[str_extract,List.take_of_length_le (by simp)]
theorem tuple3_0(a b c:Value)(w:World):Sem.run prog (Instr.extract (.tuple #[a,b,c]) 0) w=.ok a w:=by kernel_rfl
def hasC(s:Bs):Bool:=s.contains 58
theorem cutL_c(s:Bs)(hs:s.length≤1099511627776)(w:World):Calls prog 142 #[.string (str s),.string ⟨#[58]⟩] w fun e w'=>e=.returned (.tuple #[.string (str (cutC s).1),.string (str (cutC s).2),.bool (hasC s)])∧∃q,w'=w.drewN q:=by
 have hx:=stringslite_Index_one (str s) 58 w
 rw[str_data]at hx
 rcases indexByte_cut s with⟨h1,h2,h3⟩|⟨h1,h2,h3⟩<;>rw[show hasC s=s.contains 58 from rfl]
 ·rw[h2]at hx
  rw[h1,h3]
  clear h1 h2 h3
  go_enter func142,ntmps142
  go_wp2_with fail
  refine hx.mono ?_
  rintro e w' ⟨rfl,rfl⟩
  clear hx
  go_wp2
  go_ret3
  exact⟨rfl,0,rfl⟩
 ·rw[h2]at hx
  rw[h1]
  have h4:(cutC s).1.length+1+(cutC s).2.length=s.length:=by
   have:=congrArg List.length h3
   simp only[List.length_append,List.length_cons]at this;omega
  have HS:=hid h3
  have hsz:=str_size s
  generalize(cutC s).1=a at*
  generalize(cutC s).2=b at*
  clear h1 h2 h3
  go_enter func142,ntmps142
  go_wp2_with fail
  refine hx.mono ?_
  rintro e w' ⟨rfl,rfl⟩
  clear hx
  go_wp2
  go_quiet (fail)
  go_wp2
  go_ret3
  obtain rfl:=HS.out
  refine⟨?_,nq,rfl⟩
  simp only[Array.getD_eq_getD_getElem?,List.getElem?_toArray,List.getElem?_cons_succ,List.getElem?_cons_zero,Option.getD_some]
  rw[str_take,str_drop,List.take_left,show a.length+1=(a++[58]).length from by simp,show a++58::b=(a++[58])++b from by simp,List.drop_left]
theorem cut_c(s:Bs)(hs:s.length≤1099511627776)(w:World):Calls prog 78 #[.string (str s),.string ⟨#[58]⟩] w fun e w'=>e=.returned (.tuple #[.string (str (cutC s).1),.string (str (cutC s).2),.bool (hasC s)])∧∃q,w'=w.drewN q:=by
 go_enter func78,ntmps78
 go_wp2_with fail
 refine(cutL_c s hs _).mono ?_
 rintro e w' ⟨rfl,q,rfl⟩
 go_wp2
 go_ret3
 exact⟨rfl,q,rfl⟩
theorem str_get0(c:UInt8)(r:Bs)(h:0<(str (c::r)).size):(str (c::r))[0]=c:=rfl
theorem isWord_c(s:Bs)(w:World)(hs:s.length≤100000):Calls prog 163 #[.string (str s)] w fun e w'=>e=.returned (.bool (wordB s))∧Cll none w w':=by
 have hT:=str_toList s
 have hS:=str_size s
 rcases s with _|⟨c,r⟩
 ·go_enter func163,ntmps163
  go_wp2
  go_ret
  exact⟨rfl,Bel.c⟩
 ·have hg:=str_get0 c r
  have hW:wordB (c::r)=(letterB c&&(c::r).all innerB&& !keyword (c::r)):=rfl
  rw[hW]
  clear hW
  generalize hs':c::r=s at*
  have hpos:0<s.length:=by rw[←hs'];simp
  have he:s.isEmpty=false:=by rw[←hs'];rfl
  clear hs'
  go_enter func163,ntmps163
  go_wp2_with fail
  refine(isLetter_c c w).mono ?_
  rintro e w' ⟨rfl,rfl⟩
  clear hg
  cases hl:letterB c
  ·go_wp2
   go_ret
   exact⟨by simp[*],Bel.c⟩
  ·go_wp2_with fail
   refine(isTail_c s w hs).mono ?_
   rintro e w1 ⟨rfl,hc⟩
   cases hl:s.all innerB
   ·go_wp2
    go_ret
    exact⟨by simp[*],Bel.c⟩
   ·go_wp2_with fail
    refine(keyword_c s w1).mono ?_
    rintro e w' ⟨rfl,rfl⟩
    go_wp2
    go_ret
    exact⟨by simp[*],Bel.c⟩
theorem isPlain_c(s:Bs)(w:World)(hs:s.length≤100000):Calls prog 122 #[.string (str s)] w fun e w'=>e=.returned (.bool (plainB s))∧Cll none w w':=by
 have hS:=str_size s
 have hP:plainB s=(decide (s.length≤24)&&wordB (cutC s).1&&(!hasC s||wordB (cutC s).2)):=rfl
 rw[hP]
 clear hP
 by_cases h24:s.length≤24
 ·have hl1:(cutC s).1.length≤24∧(cutC s).2.length≤24:=by
   rcases indexByte_cut s with⟨_,_,h⟩|⟨_,_,h⟩
   ·rw[h];simp;omega
   ·have:=congrArg List.length h
    simp only[List.length_append,List.length_cons]at this;omega
  obtain⟨ha,hb⟩:=hl1
  have hd:decide (s.length≤24)=true:=by simpa using h24
  have hcut:=cut_c s (by omega)
  generalize(cutC s).1=a at*
  generalize(cutC s).2=b at*
  generalize hasC s=k at*
  go_enter func122,ntmps122
  go_wp2_with fail
  refine(hcut w).mono ?_
  clear hcut
  rintro e w' ⟨rfl,q,rfl⟩
  go_wp2_with fail
  refine(isWord_c a _ (by omega)).mono ?_
  rintro e w1 ⟨rfl,hc⟩
  cases hl:wordB a
  ·go_wp2
   go_ret
   exact⟨by simp[*],Bel.c⟩
  ·cases k
   ·go_wp2
    go_ret
    exact⟨by simp[*],Bel.c⟩
   ·go_wp2_with fail
    refine(isWord_c b _ (by omega)).mono ?_
    rintro e w2 ⟨rfl,hc2⟩
    go_wp2
    go_ret
    exact⟨by simp[*],Bel.c⟩
 ·have hd:decide (s.length≤24)=false:=by simpa using h24
  have h24':24<s.length:=by omega
  go_enter func122,ntmps122
  go_wp2
  go_ret
  exact⟨by simp[*],Bel.c⟩
theorem isReserved_no(c:UInt8)(r:Bs)(w:World)(hc:¬c=95):Calls prog 164 #[.string (str (c::r))] w fun e w'=>e=.returned (.bool false)∧w=w':=by
 have hT:=str_toList (c::r)
 have hS:=str_size (c::r)
 have hg:=str_get0 c r
 have hpos:0<(c::r).length:=by simp
 have h1:((c.toNat:Int)==95)=false:=beq_eq_false_iff_ne.2 (fun e=>hc (UInt8.toNat_inj.1 (by simp;omega)))
 generalize c::r=s at*
 go_enter func164,ntmps164
 go_wp2
 all_goals
  go_ret
  exact⟨by simp[*],rfl⟩
theorem checkName_ok(s:Bs)(w:World)(hs:s.length≤100000)(h:plainB s=true):Calls prog 123 #[.string (str s)] w fun e w'=>e=.returned (.int .i64 0)∧Cll none w w':=by
 go_enter func123,ntmps123
 go_wp2_with fail
 refine(isPlain_c s w hs).mono ?_
 rintro e w1 ⟨rfl,hc⟩
 go_wp2
 go_ret
 exact⟨rfl,Bel.c⟩
theorem checkName_no(c:UInt8)(r:Bs)(w:World)(hs:(c::r).length≤100000)(hc:¬c=95)(h:plainB (c::r)=false):Calls prog 123 #[.string (str (c::r))] w fun e w'=>e=.returned (.int .i64 20)∧Cll none w w':=by
 have hR:=isReserved_no c r
 generalize c::r=s at*
 go_enter func123,ntmps123
 go_wp2_with fail
 refine(isPlain_c s w hs).mono ?_
 rintro e w1 ⟨rfl,hc1⟩
 go_wp2_with fail
 refine(hR _ hc).mono ?_
 rintro e w2 ⟨rfl,rfl⟩
 clear hR
 go_wp2
 go_ret
 exact⟨rfl,Bel.c⟩
end Go.Proofs.YticgonfhjcaohaaGreatDoor
namespace Go.VT
theorem parse_ok:∀(l:Bs)(acc:Nat),l.all digitB=true→(acc+1)*10^l.length≤10^18→∃v,Lib.parseUint10 acc l=.ok v∧(v:Int)=l.foldl (fun n c=>n*10+((c.toNat:Int)-48)) (acc:Int)∧v+1≤10^18:=by
 intro l
 induction l with
 |nil=>intro acc _ h;exact⟨acc,rfl,rfl,by simpa using h⟩
 |cons c r ih=>
  intro acc hd h
  simp only[List.all_cons,Bool.and_eq_true]at hd
  have hc:48≤c.toNat∧c.toNat≤57:=by
   have:=hd.1
   simp only[digitB,Bool.and_eq_true,decide_eq_true_eq,UInt8.le_iff_toNat_le]at this
   simpa using this
  have hp:0<10^r.length:=Nat.pow_pos (by omega)
  have h2:(acc*10+(c.toNat-48)+1)*10^r.length≤10^18:=by
   refine Nat.le_trans ?_ h
   rw[List.length_cons,Nat.pow_succ,Nat.mul_comm (10^r.length) 10,←Nat.mul_assoc]
   exact Nat.mul_le_mul_right _ (by omega)
  obtain⟨v,h3,h4,h5⟩:=ih _ hd.2 h2
  have hacc:acc+1≤10^17:=by
   have:(acc+1)*10≤10^18:=by
    refine Nat.le_trans ?_ h
    rw[List.length_cons,Nat.pow_succ]
    have:(acc+1)*10=(acc+1)*(1*10):=by omega
    rw[this]
    exact Nat.mul_le_mul_left _ (Nat.mul_le_mul_right _ hp)
   omega
  refine⟨v,?_,?_,h5⟩
  ·rw[Lib.parseUint10,if_pos hc,if_neg (by omega),if_neg (by omega),h3]
  ·rw[h4,List.foldl_cons]
   congr 1
   omega
theorem digits_ok{l:Bs}(h0:l≠[])(hd:l.all digitB=true)(hl:l.length≤18):∃v,Lib.parseMag l=.ok v∧(v:Int)=digitsVal l∧v+1≤10^18:=by
 obtain⟨v,h1,h2,h3⟩:=parse_ok l 0 hd (by rw[Nat.zero_add,Nat.one_mul];exact Nat.pow_le_pow_right (by omega) hl)
 exact⟨v,by rw[Lib.parseMag,if_neg h0,h1],h2,h3⟩
theorem atoi_int{t:Bs}(h:integerB t=true):Lib.atoiAll t=.ok (intVal t)∧ -10^18<intVal t∧intVal t<10^18:=by
 have key:∀(c:UInt8)(r:Bs),t=c::r→digitB c=true→t.all digitB=true→t.length≤18→Lib.atoiAll t=.ok (intVal t)∧ -10^18<intVal t∧intVal t<10^18:=by
  rintro c r rfl hc hd hl
  obtain⟨v,h1,h2,h3⟩:=digits_ok (by simp) hd hl
  have hc2:48≤c.toNat∧c.toNat≤57:=by
   simp only[digitB,Bool.and_eq_true,decide_eq_true_eq,UInt8.le_iff_toNat_le]at hc
   simpa using hc
  have hv:intVal (c::r)=digitsVal (c::r):=by
   unfold intVal
   split
   ·rename_i heq;cases heq;exact absurd hc2.1 (by decide)
   ·rfl
  refine⟨?_,by rw[hv,←h2];omega,by rw[hv,←h2];omega⟩
  rw[hv,←h2]
  simp only[Lib.atoiAll]
  rw[if_neg (by omega),h1]
  simp only
  rw[if_neg (by omega),if_neg (by omega),if_neg (by omega)]
 simp only[integerB,Bool.or_eq_true,beq_iff_eq,Bool.and_eq_true,decide_eq_true_eq]at h
 rcases h with rfl|⟨⟨⟨h1,h2⟩,h3⟩,h4⟩
 ·exact⟨by decide,by decide,by decide⟩
 ·rcases t with _|⟨c,r⟩
  ·simp at h1
  ·by_cases hm:c=45
   ·subst hm
    simp only[List.head?_cons,if_true,List.tail_cons]at h1 h2 h3 h4
    obtain⟨v,hv1,hv2,hv3⟩:=digits_ok (by rintro rfl;simp at h1) h4 h2
    have hv:intVal (45::r)= -digitsVal r:=rfl
    refine⟨?_,by rw[hv,←hv2];omega,by rw[hv,←hv2];omega⟩
    rw[hv,←hv2]
    simp only[Lib.atoiAll]
    rw[if_pos (by decide),hv1]
    simp only
    rw[if_neg (by rintro⟨h,_⟩;exact h (by decide)),if_neg (by omega),if_pos (by decide)]
   ·have e:(List.head? (c::r)=some 45)=False:=by simp[hm]
    simp only[e,if_false]at h1 h2 h3 h4
    exact key c r rfl (by simp at h4;exact h4.1) h4 h2
end Go.VT
namespace Go.VT
open Go.RowKit
section
variable{w w':World}{D D':Gh}{g:Nat}{t:TypeId}{cs:Array Value}
theorem Keeps.row_(D:Gh)(w:World)(g:Nat)(cs:Array Value)[h:Keeps D w][hp:Off D g]:Keeps D (w.setRow g cs):=⟨fun b o v e=>
 (cell_setRow_other w g cs ⟨b,o,none⟩ (by rintro rfl;rw[hp.out]at e;cases e)).trans (h.out b o v e)⟩
instance Keeps.setRow(D:Gh)(w:World)(g:Nat)(cs:Array Value)[Keeps D w][Off D g]:Keeps D (w.setRow g cs):=Keeps.row_ D w g cs
theorem Bl.setRowNew{X:Option Nat}{a w:World}(h:Bl X a w){g:Nat}(hp:a.heap.size≤g)(cs:Array Value):Bl X a (w.setRow g cs):=
 ⟨h.os,h.tape,h.output,by simpa using h.size,fun k hk hx=>(setRow_other w g k cs (by omega)).trans (h.block k hk hx)⟩
theorem Bl.setRowX{g:Nat}{a w:World}(h:Bl (some g) a w)(cs:Array Value):Bl (some g) a (w.setRow g cs):=
 ⟨h.os,h.tape,h.output,by simpa using h.size,fun k hk hx=>(setRow_other w g k cs (by rintro rfl;exact hx rfl)).trans (h.block k hk hx)⟩
instance Bel.setRowNew(X:Option Nat)(a w:World)(g:Nat)(cs:Array Value)[h:Bel X a w][hn:New a g]:Bel X a (w.setRow g cs):=⟨h.out.setRowNew hn.out cs⟩
instance Bel.setRowX(a w:World)(g:Nat)(cs:Array Value)[h:Bel (some g) a w]:Bel (some g) a (w.setRow g cs):=⟨h.out.setRowX cs⟩
instance Gr.setRowNew(X:Option Nat)(a w:World)(A D:Gh)(g:Nat)(cs:Array Value)[h:Gr X a A w D][hn:New a g][ho:Off D g]:Gr X a A (w.setRow g cs) D:=
 ⟨h.bl.setRowNew hn.out cs,@Keeps.row_ D w g cs h.keeps ho,h.le,h.old⟩
instance Gr.setRowX(a w:World)(A D:Gh)(g:Nat)(cs:Array Value)[h:Gr (some g) a A w D][ho:Off D g]:Gr (some g) a A (w.setRow g cs) D:=
 ⟨h.bl.setRowX cs,@Keeps.row_ D w g cs h.keeps ho,h.le,h.old⟩
instance(priority:=high) Box.setRow_(w:World)(D:Gh)(g:Nat)(t:TypeId)(cs ds:Array Value)[h:Box w D g t cs]:Box (w.setRow g ds) D g t ds:=
 ⟨setRow_heap w g cs ds t (0,0) h.heap,h.off⟩
instance(priority:=low) Box.setRowFar(w:World)(D:Gh)(g b:Nat)(t:TypeId)(cs ds:Array Value)[h:Box w D g t cs][hn:NeX g (some b)]:Box (w.setRow b ds) D g t cs:=
 ⟨(setRow_other w b g ds (fun e=>hn.out (by rw[e]))).trans h.heap,h.off⟩
instance Own.setRow{B:Nat}{e:TypeId}{s:Nat}{v:Value}{n:Nat}{xs:List Value}(b:Nat)(ds:Array Value)[h:Own w D B e s v n xs][ha:Apart v (some b)]:Own (w.setRow b ds) D B e s v n xs:=
 h.of_block (fun k hk=>setRow_other w b k ds (fun e=>ha.out k hk (by rw[e]))) h.off
theorem Box.result{P:Program}{fn:Func}{p:Tmp}{ty:TypeId}{tmps:Array Value}{d:TypeDesc}(hB:Box w D g t cs)(h:fn.results=#[.cell p ty])(hp:tmps.getD p undef=.pointer (some ⟨g,0,none⟩))
  (hu:P.underlying ty=some d) (hd:(match d with|.struct _|.array _ _=>true|_=>false)=true) (hi:(P.info? ty).map (·.size)=some cs.size):
  (results fn tmps).run P w=.ok (.agg cs) w:=results_cell_row h tmps w g t cs (0,0) d hp hB.heap hu hd hi
end
def Stop(p:Prop):Prop:=p
theorem stopL{P:Program}{ops:Array Oper}{Q:Exit→Act→World→Prop}{l:List Oper}{a:Act}{w:World}(h:Stop (wpList P ops Q l a w)):wpList P ops Q l a w:=h
theorem wpList_storeTo{P:Program}{ops:Array Oper}{rest:List Oper}{o:Oper}{a:Act}{w:World}{Q:Exit→Act→World→Prop}(hgd:o.guard=none)(ty:TypeId)(x y:Operand)(ho:o.op=.store ty x y)
  (hd:o.dst=none) (g:Nat) (cells:Array Value) (hx:a.eval x=.pointer (some ⟨g,0,none⟩)) (hy:a.eval y=.agg cells)
  (t:TypeId) (old:Array Value) (hg:w.heap[g]? =some (.cells old t (0,0))) (hi:(P.info? ty).map (·.size)=some cells.size)
  (hold:old.size=cells.size) (h1:cells.all (·.oneCell')=true)
  (h:wpList P ops Q rest a (w.setRow g cells)):wpList P ops Q (o::rest) a w:=by
 refine wpList_store_row hgd ty x y ho g cells hx hy t old hg hi hold h1 ?_
 rw[hd];exact h
end Go.VT
namespace Go.VT
open Go.RowKit
class MB(w:World)(m:Nat)(es:outParam (Array MapEntry)):Prop where
 out:∃c,w.heap[m]? =some (.map es c)
section
variable{w w':World}{m:Nat}{es:Array MapEntry}
theorem MB.lt(h:MB w m es):m<w.heap.size:=by
 obtain⟨c,h⟩:=h.out
 rcases Nat.lt_or_ge m w.heap.size with hl|hl
 ·exact hl
 ·rw[Array.getElem?_eq_none hl]at h;cases h
theorem MB.of(h:MB w m es)(e:w'.heap[m]? =w.heap[m]?):MB w' m es:=by
 obtain⟨c,h⟩:=h.out
 exact⟨c,e.trans h⟩
instance MB.drew[h:MB w m es]:MB w.drew m es:=h.of rfl
instance MB.drewN(n:Nat)[h:MB w m es]:MB (w.drewN n) m es:=h.of rfl
instance MB.alloc(o:Obj)[h:MB w m es]:MB (w.alloc o) m es:=h.of (Below.heap_alloc w o m h.lt)
instance MB.set(a:Addr)(u:Value)[h:MB w m es]:MB (w.setCell a u) m es:=by
 obtain⟨c,h⟩:=h.out
 refine⟨c,?_⟩
 by_cases e:a.block=m
 ·subst e;simp[World.setCell,Array.getElem?_modify,h]
 ·exact(Below.heap_setCell w a u m (fun q=>e q.symm)).trans h
instance MB.row(g:Nat)(cs:Array Value)[h:MB w m es]:MB (w.setRow g cs) m es:=by
 obtain⟨c,h⟩:=h.out
 refine⟨c,?_⟩
 by_cases e:m=g
 ·subst e;simp[World.setRow,Array.getElem?_modify,h]
 ·exact(setRow_other w g m cs e).trans h
instance MB.call(X:Option Nat)[hc:Cll X w w'][h:MB w m es][hn:NeX m X]:MB w' m es:=h.of (hc.out.block m h.lt hn.out)
end
def lookS:List (Bs×Value)→Bs→Option Value
 |[],_=>none
 |x::r,s=>if x.1=s then some x.2 else lookS r s
theorem str_tl(a:Bs):(str a).toList=a:=by rw[ByteArray.toList_eq];simp[str]
theorem findNow_str(l:List (Bs×Value))(s:Bs):∀(es:List MapEntry)(i:Nat),es.map (fun e=>(e.key,e.val))=l.map (fun x=>(Value.string (str x.1),x.2))→
  ∃j,Instr.findNow .string (.string (str s)) es i=some ((lookS l s).map fun v=>(j,v)):=by
 induction l with
 |nil=>
  intro es i h
  cases es with
  |nil=>exact⟨0,rfl⟩
  |cons e r=>simp at h
 |cons x r ih=>
  intro es i h
  cases es with
  |nil=>simp at h
  |cons e es=>
   simp only[List.map_cons,List.cons.injEq,Prod.mk.injEq]at h
   obtain⟨⟨h1,h2⟩,h3⟩:=h
   simp only[Instr.findNow,h1,Instr.sameNow,lookS]
   by_cases hx:x.1=s
   ·rw[hx,if_pos rfl,beq_toListBytes,str_tl]
    refine⟨i,?_⟩
    simp[h2]
   ·rw[if_neg hx]
    have hne:(str s==str x.1)=false:=by
     rw[beq_toListBytes,str_tl,str_tl,beq_eq_false_iff_ne];intro q;exact hx q.symm
    simp only[hne]
    exact ih es (i+1) h3
theorem run_lookup_str{P:Program}{t k e:TypeId}(ht:P.underlying t=some (.map k e))(hk:P.underlying k=some .string){z:Value}(hz:∀w,(zeroValue e).run P w=.ok z w)
  {w:World} {m:Nat} {es:Array MapEntry} (hm:MB w m es) {l:List (Bs×Value)} (hes:es.toList.map (fun e=>(e.key,e.val))=l.map fun x=>(Value.string (str x.1),x.2)) (s:Bs):
  (Instr.lookup t (.map (some m)) (.string (str s)) true).run P w=.ok (.tuple #[(lookS l s).getD z,.bool (lookS l s).isSome]) w:=by
 obtain⟨c,hm⟩:=hm.out
 obtain⟨j,hj⟩:=findNow_str l s es.toList 0 hes
 have hck:∀e,(Instr.checkKey e 10000 k (.string (str s))).run P w=.ok () w:=fun e=>MapKept.run_checkKey hk (by simp[MapKept.IsKey]) e 9999
 cases hl:lookS l s with
 |none=>
  rw[hl]at hj
  simp[Instr.lookup,run_underlying ht,MapKept.run_getObj_map hm,hck,MapKept.run_findKey hk hj,hz,Result.andThen]
 |some v=>
  rw[hl]at hj
  simp[Instr.lookup,run_underlying ht,MapKept.run_getObj_map hm,hck,MapKept.run_findKey hk hj,Result.andThen]
end Go.VT
