/- TopParsed, part 23. -/
import Derived.Test.YticgonfhjcaohaaGreatDoorP07
import Derived.Test.YticgonfhjcaohaaGreatDoorP15
import Derived.Test.YticgonfhjcaohaaGreatDoorP21
set_option maxRecDepth 100000
set_option maxHeartbeats 32000000
namespace Go.Proofs.YticgonfhjcaohaaGreatDoor
open Go.RowKit Go.VT _root_.Go.Proofs.Tryz
theorem own_strs50(ps:List (Int×Int)):∀u∈ps.flatMap prow,u.oneCell'=true:=by
 intro u hu
 obtain⟨x,hx,hu⟩:=List.mem_flatMap.1 hu
 exact prow_one x u hu
section
variable{P:Program}{w:World}
theorem run_append_A{t ty e:TypeId}{s bytes:Nat}(ht:P.underlying t=some (.slice e))(hE:El P e s bytes){D:Gh}{B:Nat}{v:Value}{n:Nat}{xs:List Value}(h:VT.Own w D B e s v n xs)[hk:Keeps D w]
  (ad:Addr) {m c:Nat} {news:List Value} (hl:news.length=m*s) (hc:∀j u,news[j]? =some u→w.cell? (ad.add j)=some u) (h1:∀u∈news,u.oneCell'=true)
  (h63:n+m≤maxLen) (hbytes:(n+m)*bytes≤140737488355328) (hB:B≤w.heap.size):
  ∃v' w',(Builtin.append_ #[t,t] ty #[v,.slice (some ad) m c]).run P w=.ok v' w'∧VT.Own w' D B e s v' (n+m) (xs++news)∧Cll v.ownBlock w w':=by
 obtain⟨i,z,hi,hz,hsz,hby,hzs⟩:=hE.out
 obtain⟨v',w',hrun,h2,h3,_,h5⟩:=run_append_own_at (P:=P) w B t ty e i z s bytes ht hi hz hsz hby hzs hE.pos v n xs h.own ad m c news hl hc h1 h63 hbytes hB
 refine⟨v',w',hrun,⟨h2,⟨fun g hg=>?_⟩⟩,⟨Bl.grown h3⟩⟩
 rcases h5 with h5|h5
 ·exact h.off.out g (h5.symm.trans hg)
 ·rw[h5]at hg;injection hg with hg;subst hg;exact ii
theorem wp_append_A{ops:Array Oper}{rest:List Oper}{o:Oper}{a:Act}{Q:Exit→Act→World→Prop}(hgd:o.guard=none)(x y:Operand)(t:TypeId)
  (ho:o.op=.call {callee:=.builtin .append,args:=#[x,y],argTypes:=#[t,t]}) {e:TypeId} {s bytes:Nat} (ht:P.underlying t=some (.slice e)) (hE:El P e s bytes)
  {D:Gh} {B:Nat} {v:Value} {n:Nat} {xs:List Value} (hx:a.eval x=v) (h:VT.Own w D B e s v n xs) [hk:Keeps D w]
  {ad:Addr} {m c:Nat} {news:List Value} (hy:a.eval y=.slice (some ad) m c) (hl:news.length=m*s) (hc:∀j u,news[j]? =some u→w.cell? (ad.add j)=some u) (h1:∀u∈news,u.oneCell'=true)
  (h63:n+m≤maxLen) (hbytes:(n+m)*bytes≤140737488355328) (hB:B≤w.heap.size)
  (hK:∀v' w',VT.Own w' D B e s v' (n+m) (xs++news)→Cll v.ownBlock w w'→wpList P ops Q rest (a.put o.dst v') w'):wpList P ops Q (o::rest) a w:=by
 refine wpList_plain hgd fun K hk'=>?_
 obtain⟨v',w',hrun,h2,h3⟩:=run_append_A (P:=P) (ty:=o.type) ht hE h ad (c:=c) hl hc h1 h63 hbytes hB
 unfold Oper.wp execOp
 simp only[ho,resolve,invoke,builtin,Sem.run_bind,Sem.run_pure,Result.andThen_ok,List.map_toArray,List.map_cons,List.map_nil,hx,hy,hrun]
 exact hk' _ _ (hK v' w' h2 h3)
end
theorem clone_c(w:World)(D:Gh)(n:Nat)(v:Value)(ps:List (Int×Int))[hk:Keeps D w](hs:SlN D 2 v n (ps.flatMap prow))(hn:n≤64):
  Calls prog 13 #[v] w fun e w'=>∃v',e=.returned v'∧VT.Own w' D w.heap.size 50 2 v' n (ps.flatMap prow)∧Cll none w w':=by
 obtain⟨hl,a,c,rfl,h1,h2,h3,h4⟩:=hs
 cases a with
 |none=>
  have hn0:n=0:=by
   rcases Nat.eq_zero_or_pos n with h|h
   ·exact h
   ·obtain⟨b,o,h,_⟩:=h4 h;cases h
  subst hn0
  obtain rfl:c=0:=h3 rfl
  have hp:ps.flatMap prow=[]:=List.eq_nil_of_length_eq_zero (by omega)
  have HP:=hid hp
  have q25:∀(w:World),(binOp .eql 25 (.slice none 0 0) (.slice none 0 0)).run prog w=.ok (.bool true) w:=fun w=>Lib.run_eql_slice_nil w _ _ none 0 0 0 0 underlying25
  clear hp h1 h2 h3 h4 hl
  go_enter func13,ntmps13
  go_wp2
  go_ret
  refine⟨_,rfl,?_,⟨Bl.refl _ _⟩⟩
  rw[HP.out];exact VT.Own.nil w D 50 2
 |some a=>
  have q25:∀(w:World),(binOp .eql 25 (.slice (some a) n c) (.slice none 0 0)).run prog w=.ok (.bool false) w:=fun w=>Lib.run_eql_slice_nil w _ _ (some a) n c 0 0 underlying25
  have hc':∀W,Keeps D W→∀j u,(ps.flatMap prow)[j]? =some u→W.cell? (a.add j)=some u:=fun W hW j u hu=>by
   have hj:j<n*2:=by rw[←hl];exact(List.getElem?_eq_some_iff.1 hu).1
   obtain⟨b,o,ha,hx⟩:=h4 (by omega)
   cases ha
   rw[Addr.add_lit]
   exact hW.out _ _ _ (hx j u hu)
  have HC:=hid hc'
  have HL:=hid hl
  clear hc' h1 h2 h3 h4 hl
  have hNx:Box (w.alloc (.cells #[] 50)) D w.heap.size 50 #[]:=ii
  have hO0:VT.Own (w.alloc (.cells #[] 50)) D w.heap.size 50 2 (.slice (some ⟨w.heap.size,0,none⟩) 0 0) 0 []:=VT.Own.lit hNx (by simp) (by simp[maxLen]) (Nat.le_refl _)
  go_enter func13,ntmps13
  go_wp2_with (at_builtin;refine wp_append_A rfl (.tmp 5) (.tmp 6) 25 rfl underlying25 el50 rfl hO0 rfl HL.out (HC.out _ ii) (own_strs50 ps) (by unfold maxLen;omega) (by omega) (by simp) ?_;intro v' w' hO1 hc1)
  go_ret
  exact⟨v',rfl,by simpa using hO1,⟨by
   have:=hc1.out
   refine⟨this.os,this.tape,this.output,Nat.le_trans (by simp) this.size,fun k hk _=>(this.block k (by simp;omega) ?_).trans (Below.heap_alloc w _ k hk)⟩
   intro e
   have e':some k=some w.heap.size:=e
   have:=Option.some.inj e'
   omega⟩⟩
class ML(w:World)(m:Nat)(l:outParam (List (Bs×Value))):Prop where
 out:∃es c,w.heap[m]? =some (.map es c)∧es.toList.map (fun e=>(e.key,e.val))=l.map fun x=>(Value.string (str x.1),x.2)
theorem ML.lt{w:World}{m:Nat}{l:List (Bs×Value)}(h:ML w m l):m<w.heap.size:=by
 obtain⟨es,c,h,_⟩:=h.out
 rcases Nat.lt_or_ge m w.heap.size with hl|hl
 ·exact hl
 ·rw[Array.getElem?_eq_none hl]at h;cases h
theorem ML.of{w w':World}{m:Nat}{l:List (Bs×Value)}(h:ML w m l)(e:w'.heap[m]? =w.heap[m]?):ML w' m l:=by
 obtain⟨es,c,h,k⟩:=h.out
 exact⟨es,c,e.trans h,k⟩
theorem ML.new(w:World):ML (w.alloc (.map #[] 0)) w.heap.size []:=⟨#[],0,World.alloc_heap_new w _,rfl⟩
theorem Bl.putX{w:World}{r:Nat}(o:Obj):Bl (some r) w (w.putObj r o):=⟨rfl,rfl,rfl,by simp,fun k _ hne=>World.putObj_heap_other (fun e=>hne (by rw[e]))⟩
theorem run_insert_new{P:Program}{mty kt et:TypeId}(hm:P.underlying mty=some (.map kt et))(hk:P.underlying kt=some .string){w:World}{r:Nat}{l:List (Bs×Value)}(h:ML w r l){s:Bs}(hn:lookS l s=none)(v:Value):
  ∃w',(Instr.mapUpdate mty (.map (some r)) (.string (str s)) v).run P w=.ok () w'∧ML w' r (l++[(s,v)])∧Cll (some r) w w':=by
 have hlt:=h.lt
 obtain⟨es,c,hb,he⟩:=h.out
 obtain⟨j,hj⟩:=findNow_str l s es.toList 0 he
 rw[hn]at hj
 have hc:(Instr.checkKey false 10000 kt (.string (str s))).run P w=.ok () w:=MapKept.run_checkKey (k:=.string (str s)) hk (by simp[MapKept.IsKey]) false 9999
 refine⟨w.putObj r (.map (es.push {key:=.string (str s),val:=v,born:=c}) (c+1)),?_,⟨_,_,World.putObj_heap_same hlt,by simp[he]⟩,⟨Bl.putX _⟩⟩
 simp[Instr.mapUpdate,run_underlying hm,MapKept.run_getObj_map hb,hc,MapKept.run_findKey hk hj,MapKept.run_setObj_map _ hb,Result.andThen,World.putObj]
theorem wpList_insert_new{P:Program}{ops:Array Oper}{rest:List Oper}{o:Oper}{a:Act}{w:World}{Q:Exit→Act→World→Prop}(hgd:o.guard=none)(mty:TypeId)(m k x:Operand)(ho:o.op=.insert mty m k x)(hd:o.dst=none){kt et:TypeId}(hm:P.underlying mty=some (.map kt et))(hk:P.underlying kt=some .string)
  {r:Nat} (hx1:a.eval m=.map (some r)) {l:List (Bs×Value)} (h:ML w r l) (s:Bs) (hx2:a.eval k=.string (str s)) {v:Value} (hx3:a.eval x=v) (hn:lookS l s=none)
  (hK:∀w',ML w' r (l++[(s,v)])→Cll (some r) w w'→wpList P ops Q rest a w'):wpList P ops Q (o::rest) a w:=by
 refine wpList_plain hgd fun K hk'=>?_
 obtain⟨w',hrun,h2,h3⟩:=run_insert_new (P:=P) hm hk h hn v
 unfold Oper.wp execOp
 simp only[ho,hx1,hx2,hx3,Sem.run_bind,Sem.run_pure,Result.andThen_ok,hrun]
 exact hk' _ _ (by rw[hd];exact hK w' h2 h3)
theorem newParser_c(w:World)(D:Gh)(a:Option Addr)(n c:Nat)[hk:Keeps D w]:
  Calls prog 14 #[.slice a n c] w fun e w'=>∃(g m:Nat)(es:Array MapEntry),e=.returned (.pointer (some ⟨g,0,none⟩))∧Box w' D g 101 #[.slice a n c,.int .i64 0,.map (some m)]∧MB w' m es∧m≠g∧w.heap.size≤g∧
   es.toList.map (fun e=>(e.key,e.val))=[(w_domain,38),(w_role,39),(w_chain,40),(w_reflexive,41),(w_type,42),(w_link,43)].map (fun x=>(Value.string (str x.1),Value.func (Fn.func x.2) #[.pointer (some ⟨g,0,none⟩)] #[]))∧Cll none w w':=by
 have hML0:ML ((w.alloc (.cells #[.slice a n c,.int .i64 0,.map none] 101)).alloc (.map #[] 0)) (w.heap.size+1) []:=by
  have:=ML.new (w.alloc (.cells #[.slice a n c,.int .i64 0,.map none] 101));simpa using this
 have hB0:Box ((w.alloc (.cells #[.slice a n c,.int .i64 0,.map none] 101)).alloc (.map #[] 0)) D w.heap.size 101 #[.slice a n c,.int .i64 0,.map none]:=ii
 have hG0:Gr none w D ((w.alloc (.cells #[.slice a n c,.int .i64 0,.map none] 101)).alloc (.map #[] 0)) D:=ii
 have hmm:∀(w:World),(Instr.makeMap 99 none).run prog w=.ok (.map (some w.heap.size)) (w.alloc (.map #[] 0)):=fun _=>rfl
 have hmf:∀(fn:Fn)(first cap:Array Value)(w:World),(Instr.makeFunc fn first cap).run prog w=.ok (.func fn first cap) w:=fun _ _ _ _=>rfl
 obtain⟨W0,hW0⟩:∃W,W=(w.alloc (.cells #[.slice a n c,.int .i64 0,.map none] 101)).alloc (.map #[] 0):=⟨_,rfl⟩
 rw[←hW0]at hML0 hB0 hG0
 have HW0:=hid hW0
 clear hW0
 have hne:NeX w.heap.size (some (w.heap.size+1)):=neGt (by omega)
 have hnw:New w (w.heap.size+1):=⟨by omega⟩
 go_enter func14,ntmps14
 go_wp2_with (first|(((with_reducible show wpList _ _ _ ((⟨some 10,_,_,_,_,_⟩:Oper)::_) _ _);refine stopL ?_);rw[←HW0.out]))
 unfold Stop
 go_wp2_with (first|((with_reducible show wpList _ _ _ ((⟨none,.insert _ _ _ _,_,_,_,_⟩:Oper)::_) _ _);refine wpList_insert_new rfl 99 _ _ _ rfl rfl underlying99 underlying9 rfl hML0 w_domain rfl rfl (by rfl) ?_;intro W1 hML1 hc1;refine stopL ?_))
 unfold Stop
 have hB1:Box W1 D w.heap.size 101 #[.slice a n c,.int .i64 0,.map none]:=ii
 go_wp2_with (first|((with_reducible show wpList _ _ _ ((⟨none,.insert _ _ _ _,_,_,_,_⟩:Oper)::_) _ _);refine wpList_insert_new rfl 99 _ _ _ rfl rfl underlying99 underlying9 rfl hML1 w_role rfl rfl (by rfl) ?_;intro W2 hML2 hc2;refine stopL ?_))
 unfold Stop
 have hB2:Box W2 D w.heap.size 101 #[.slice a n c,.int .i64 0,.map none]:=ii
 go_wp2_with (first|((with_reducible show wpList _ _ _ ((⟨none,.insert _ _ _ _,_,_,_,_⟩:Oper)::_) _ _);refine wpList_insert_new rfl 99 _ _ _ rfl rfl underlying99 underlying9 rfl hML2 w_chain rfl rfl (by rfl) ?_;intro W3 hML3 hc3;refine stopL ?_))
 unfold Stop
 have hB3:Box W3 D w.heap.size 101 #[.slice a n c,.int .i64 0,.map none]:=ii
 go_wp2_with (first|((with_reducible show wpList _ _ _ ((⟨none,.insert _ _ _ _,_,_,_,_⟩:Oper)::_) _ _);refine wpList_insert_new rfl 99 _ _ _ rfl rfl underlying99 underlying9 rfl hML3 w_reflexive rfl rfl (by rfl) ?_;intro W4 hML4 hc4;refine stopL ?_))
 unfold Stop
 have hB4:Box W4 D w.heap.size 101 #[.slice a n c,.int .i64 0,.map none]:=ii
 go_wp2_with (first|((with_reducible show wpList _ _ _ ((⟨none,.insert _ _ _ _,_,_,_,_⟩:Oper)::_) _ _);refine wpList_insert_new rfl 99 _ _ _ rfl rfl underlying99 underlying9 rfl hML4 w_type rfl rfl (by rfl) ?_;intro W5 hML5 hc5;refine stopL ?_))
 unfold Stop
 have hB5:Box W5 D w.heap.size 101 #[.slice a n c,.int .i64 0,.map none]:=ii
 go_wp2_with (first|((with_reducible show wpList _ _ _ ((⟨none,.insert _ _ _ _,_,_,_,_⟩:Oper)::_) _ _);refine wpList_insert_new rfl 99 _ _ _ rfl rfl underlying99 underlying9 rfl hML5 w_link rfl rfl (by rfl) ?_;intro W6 hML6 hc6;refine stopL ?_))
 unfold Stop
 have hB6:Box W6 D w.heap.size 101 #[.slice a n c,.int .i64 0,.map none]:=ii
 have hG6:Gr none w D W6 D:=ii
 have e0:=hB6.held (i:=2) rfl
 have lb:=hB6.lt
 have:=hB6.off
 have hBz:Box (W6.setCell ⟨w.heap.size,2,none⟩ (.map (some (w.heap.size+1)))) D w.heap.size 101 #[.slice a n c,.int .i64 0,.map (some (w.heap.size+1))]:=by simpa using@Box.set_ W6 D w.heap.size 101 _ 2 (.map (some (w.heap.size+1))) hB6
 have hGz:Gr none w D (W6.setCell ⟨w.heap.size,2,none⟩ (.map (some (w.heap.size+1)))) D:=ii
 go_wp2_with fail
 go_ret
 obtain⟨es,c',hh,hes⟩:=hML6.out
 have hhz:(W6.setCell ⟨w.heap.size,2,none⟩ (.map (some (w.heap.size+1)))).heap[w.heap.size+1]? =some (.map es c'):=(Below.heap_setCell W6 _ _ _ (by simp)).trans hh
 exact⟨w.heap.size,w.heap.size+1,es,rfl,hBz,⟨c',hhz⟩,by omega,Nat.le_refl _,by rw[hes];rfl,⟨hGz.bl⟩⟩
end Go.Proofs.YticgonfhjcaohaaGreatDoor
namespace Go.Proofs.YticgonfhjcaohaaGreatDoor
open Go.RowKit Go.VT _root_.Go.Proofs.Tryz
def Ot(b:Bs)(ts:List KT):Prop:=∃l,ts=l++[(5,[])]∧OLex b l
def OSt(D:Gh)(p:OC)(pk:Bool)(i:Nat)(av:Value)(ts:List KT):Prop:=i≤p.n∧(match pk with
 |true=>∃b k s r a,av=.slice (some ⟨b,0,none⟩) 1 1∧D b 0=some (.int .i64 k)∧D b 1=some (.string (str s))∧D b 2=some (.int .i64 a)∧ts=(k,s)::r∧(r=[]∨Ot (p.bs.drop i) r)
 |false=>av=.slice none 0 0∧Ot (p.bs.drop i) ts)
def pmOf(ks:List Bs):List (Bs×Value):=ks.map fun x=>(x,.bool true)
def itemsO(p:OC):List (Bs×Value):=[([68,101,99,108,97,114,97,116,105,111,110],88),(o_sub,89),(o_equiv,90),(o_disj,91),(o_dom,92),(o_rsub,93),(o_refl,94),(o_typ,95),(o_link,96)].map fun x=>(x.1,Value.func (Fn.func x.2) #[p.ptr] #[])
def concsO(p:OC):List (Bs×Value):=[(o_thing,97),(o_nothing,98),(o_inter,99),(o_somev,100),(o_oneof,101),(o_datas,102)].map fun x=>(x.1,Value.func (Fn.func x.2) #[p.ptr] #[])
structure OS(w:World)(D:Gh)(p:OC)(ks:List Bs)(pk:Bool)(ts:List KT)(iri:Value)(op:Bool)(ax:Value):Prop where
 st:∃(i:Nat)(av:Value),OSt D p pk i av ts∧Box w D p.g 93 (orow p i av iri op ax)
 mp:ML w p.mp (pmOf ks)
 mi:ML w p.mi (itemsO p)
 mc:ML w p.mc (concsO p)
 hn:p.n=p.bs.length
 lim:p.n≤p.c∧p.c≤9223372036854775807∧p.n≤1099511627776
 byt:Byt D p.b p.o p.bs
section
variable{w w':World}{D D':Gh}{p:OC}{ks:List Bs}{pk:Bool}{ts:List KT}{iri:Value}{op:Bool}{ax:Value}
theorem ML.ne{w:World}{D:Gh}{g m:Nat}{t:TypeId}{cs:Array Value}{l:List (Bs×Value)}(h:ML w m l)(hb:Box w D g t cs):m≠g:=by
 rintro rfl
 obtain⟨es,c,h,_⟩:=h.out
 rw[hb.heap]at h;cases h
theorem OSt.le[hd:Le D D']{i:Nat}{av:Value}(h:OSt D p pk i av ts):OSt D' p pk i av ts:=by
 cases pk with
 |false=>exact h
 |true=>
  obtain⟨h1,b,k,s,r,a,h2,h3,h4,h5,h6⟩:=h
  exact⟨h1,b,k,s,r,a,h2,hd.out _ _ _ h3,hd.out _ _ _ h4,hd.out _ _ _ h5,h6⟩
theorem OS.to(h:OS w D p ks pk ts iri op ax)(hc:Gro (some p.g) w D w' D'){pk':Bool}{ts':List KT}{iri':Value}{op':Bool}{ax':Value}{i:Nat}{av:Value}(hs:OSt D' p pk' i av ts')(hb:Box w' D' p.g 93 (orow p i av iri' op' ax')):OS w' D' p ks pk' ts' iri' op' ax':=by
 obtain⟨_,_,_,hb0⟩:=h.st
 have key:∀{m:Nat}{l:List (Bs×Value)},ML w m l→ML w' m l:=fun hm=>hm.of (hc.bl.block _ hm.lt (fun e=>hm.ne hb0 (Option.some.inj e)))
 have:=hc.le
 have:=h.byt
 exact⟨⟨i,av,hs,hb⟩,key h.mp,key h.mi,key h.mc,h.hn,h.lim,ii⟩
theorem OS.gro(h:OS w D p ks pk ts iri op ax)(hc:Gro none w D w' D'):OS w' D' p ks pk ts iri op ax:=by
 obtain⟨i,av,hs,hb⟩:=h.st
 have key:∀{m:Nat}{l:List (Bs×Value)},ML w m l→ML w' m l:=fun hm=>hm.of (hc.bl.block _ hm.lt (by simp))
 have:=hc.le
 have:=h.byt
 exact⟨⟨i,av,hs.le,Box.gro w w' D D' p.g 93 _ none⟩,key h.mp,key h.mi,key h.mc,h.hn,h.lim,ii⟩
theorem OS.far(h:OS w D p ks pk ts iri op ax){X:Option Nat}(hc:Gro X w D w' D')(h1:some p.g≠X)(h2:some p.mp≠X)(h3:some p.mi≠X)(h4:some p.mc≠X):OS w' D' p ks pk ts iri op ax:=by
 obtain⟨i,av,hs,hb⟩:=h.st
 have:=hc.le
 have:=h.byt
 have:NeX p.g X:=⟨h1⟩
 exact⟨⟨i,av,hs.le,Box.gro w w' D D' p.g 93 _ X⟩,h.mp.of (hc.bl.block _ h.mp.lt h2),h.mi.of (hc.bl.block _ h.mi.lt h3),h.mc.of (hc.bl.block _ h.mc.lt h4),h.hn,h.lim,ii⟩
theorem OS.n0[hk:Keeps D w](h:OS w D p ks pk ts iri op ax)(hc:Cll none w w'):OS w' D p ks pk ts iri op ax:=h.gro Gr.g
theorem OS.off(h:OS w D p ks pk ts iri op ax):Off D p.g:=let⟨_,_,_,hb⟩:=h.st;hb.off
theorem OS.lt(h:OS w D p ks pk ts iri op ax):p.g<w.heap.size:=let⟨_,_,_,hb⟩:=h.st;hb.lt
end
theorem Ot.nx{b:Bs}{k:Int}{s:Bs}{r:List KT}(h:Ot b ((k,s)::r)):(k=5∧s=[]∧r=[]∧b.all blkB=true)∨(∃pre q,Nx b pre k s q∧Ot q r):=by
 obtain⟨l,hl,hx⟩:=h
 cases hx with
 |nil _ hb=>
  simp only[List.nil_append,List.cons.injEq,Prod.mk.injEq]at hl
  exact .inl ⟨hl.1.1,hl.1.2,hl.2,hb⟩
 |cons _ pre k' s' q l' hn hq=>
  simp only[List.cons_append,List.cons.injEq,Prod.mk.injEq]at hl
  obtain⟨⟨rfl,rfl⟩,rfl⟩:=hl
  exact .inr ⟨pre,q,hn,l',rfl,hq⟩
theorem peek_o(w:World)(D:Gh)(p:OC)(ks:List Bs)(pk:Bool)(k:Int)(s:Bs)(r:List KT)(iri:Value)(op:Bool)(ax:Value)[hk:Keeps D w](h:OS w D p ks pk ((k,s)::r) iri op ax):
  Calls prog 108 #[p.ptr] w fun e w'=>∃(a:Int)(D':Gh),e=.returned (.agg #[.int .i64 k,.string (str s),.int .i64 a])∧Gro (some p.g) w D w' D'∧OS w' D' p ks true ((k,s)::r) iri op ax:=by
 obtain⟨i,av,⟨hi,hs⟩,hb⟩:=h.st
 have:=h.byt
 have:=h.off
 cases pk with
 |true=>
  obtain⟨b,k',s',r',a,rfl,h0,h1,h2,he,hr⟩:=hs
  simp only[List.cons.injEq,Prod.mk.injEq]at he
  obtain⟨⟨rfl,rfl⟩,rfl⟩:=he
  refine(peek_yes w D p i iri op ax b k a (str s) h0 h1 h2 hb).mono ?_
  rintro e w' ⟨rfl,hc⟩
  exact⟨a,D,rfl,Gr.g,h.n0 hc⟩
 |false=>
  obtain⟨rfl,ho⟩:=hs
  rcases ho.nx with⟨rfl,rfl,rfl,hbl⟩|⟨pre,q,hN,hq⟩
  ·refine(peek_end w D p i iri op ax _ h.hn h.lim hi rfl hbl hb).mono ?_
   rintro e w' ⟨a,D',tb,rfl,hg,h0,h1,h2,hb'⟩
   exact⟨a,D',rfl,hg,h.to hg ⟨by rw[List.length_drop,h.hn];have:=h.hn;omega,tb,5,[],[],a,rfl,h0,h1,h2,rfl,.inl rfl⟩ hb'⟩
  ·refine(peek_no w D p i iri op ax pre s q k h.hn h.lim hi hN hb).mono ?_
   rintro e w' ⟨a,D',tb,rfl,hg,h0,h1,h2,hb'⟩
   have hlen:=congrArg List.length hN.eq
   simp only[List.length_drop,List.length_append]at hlen
   have hd:p.bs.drop (i+pre.length+s.length)=q:=by
    rw[Nat.add_assoc,←List.drop_drop,hN.eq,←List.drop_drop,List.drop_left,List.drop_left]
   exact⟨a,D',rfl,hg,h.to hg ⟨by have:=h.hn;omega,tb,k,s,r,a,rfl,h0,h1,h2,rfl,.inr (by rw[hd];exact hq)⟩ hb'⟩
theorem pass_o(w:World)(D:Gh)(p:OC)(ks:List Bs)(k:Int)(s:Bs)(r:List KT)(hr:r≠[])(iri:Value)(op:Bool)(ax:Value)[hk:Keeps D w](h:OS w D p ks true ((k,s)::r) iri op ax):
  Calls prog 106 #[p.ptr] w fun e w'=>e=.returned (.tuple #[])∧Gro (some p.g) w D w' D∧OS w' D p ks false r iri op ax:=by
 obtain⟨i,av,⟨hi,b,k',s',r',a,rfl,h0,h1,h2,he,hr'⟩,hb⟩:=h.st
 simp only[List.cons.injEq,Prod.mk.injEq]at he
 obtain⟨⟨rfl,rfl⟩,rfl⟩:=he
 have ho:=hr'.resolve_left hr
 have:=h.off
 have z:=hb.held (i:=2) rfl
 have lb:=hb.lt
 have hb':Box (w.setCell ⟨p.g,2,none⟩ (.slice none 0 0)) D p.g 93 (orow p i (.slice none 0 0) iri op ax):=by simpa using@Box.set_ _ D p.g 93 _ 2 (.slice none 0 0) hb
 have hg:Gro (some p.g) w D (w.setCell ⟨p.g,2,none⟩ (.slice none 0 0)) D:=Gr.g
 have H:=hid (h.to hg (pk':=false) (ts':=r) ⟨hi,rfl,ho⟩ hb')
 clear h hb hb' h0 h1 h2 hr' ho hr
 go_enter func106,ntmps106
 go_wp2_with fail
 go_end0
 exact⟨rfl,hg,H.out⟩
theorem fail_ok(w:World)(v:Value):Calls prog 105 #[v,.bool true] w fun e w'=>e=.returned (.tuple #[])∧w'=w:=by
 go_enter func105,ntmps105
 go_wp2_with fail
 go_end0
 exact⟨rfl,rfl⟩
theorem fld152_0(a b c:Value)(w:World):Sem.run prog (Instr.field 152 (.agg #[a,b,c]) 0) w=.ok a w:=by kernel_rfl
theorem fld152_1(a b c:Value)(w:World):Sem.run prog (Instr.field 152 (.agg #[a,b,c]) 1) w=.ok b w:=by kernel_rfl
theorem is_o(w:World)(D:Gh)(p:OC)(ks:List Bs)(pk:Bool)(k:Int)(s x:Bs)(r:List KT)(iri:Value)(op:Bool)(ax:Value)[hk:Keeps D w](h:OS w D p ks pk ((k,s)::r) iri op ax):
  Calls prog 103 #[p.ptr,.string (str x)] w fun e w'=>∃D':Gh,e=.returned (.bool (decide (s=x)))∧Gro (some p.g) w D w' D'∧OS w' D' p ks true ((k,s)::r) iri op ax:=by
 have H:=hid (peek_o w D p ks pk k s r iri op ax h)
 clear h
 go_enter func103,ntmps103
 go_wp2_with fail
 refine H.out.mono ?_
 rintro e w1 ⟨a,D1,rfl,hg,hO⟩
 have f1:=fld152_1
 go_wp2
 go_ret
 exact⟨D1,by rw[str_beq];rfl,hg,hO⟩
theorem is_yes(w:World)(D:Gh)(p:OC)(ks:List Bs)(pk:Bool)(k:Int)(s:Bs)(r:List KT)(iri:Value)(op:Bool)(ax:Value)[hk:Keeps D w](h:OS w D p ks pk ((k,s)::r) iri op ax):
  Calls prog 103 #[p.ptr,.string (str s)] w fun e w'=>∃D':Gh,e=.returned (.bool true)∧Gro (some p.g) w D w' D'∧OS w' D' p ks true ((k,s)::r) iri op ax:=
 (is_o w D p ks pk k s s r iri op ax h).mono fun e w' ⟨D',he,h1,h2⟩=>⟨D',by rw[he];simp,h1,h2⟩
theorem is_not(w:World)(D:Gh)(p:OC)(ks:List Bs)(pk:Bool)(k:Int)(s x:Bs)(hsx:s≠x)(r:List KT)(iri:Value)(op:Bool)(ax:Value)[hk:Keeps D w](h:OS w D p ks pk ((k,s)::r) iri op ax):
  Calls prog 103 #[p.ptr,.string (str x)] w fun e w'=>∃D':Gh,e=.returned (.bool false)∧Gro (some p.g) w D w' D'∧OS w' D' p ks true ((k,s)::r) iri op ax:=
 (is_o w D p ks pk k s x r iri op ax h).mono fun e w' ⟨D',he,h1,h2⟩=>⟨D',by rw[he];simp[hsx],h1,h2⟩
theorem want_o(w:World)(D:Gh)(p:OC)(ks:List Bs)(pk:Bool)(k:Int)(s:Bs)(r:List KT)(hr:r≠[])(iri:Value)(op:Bool)(ax:Value)[hk:Keeps D w](h:OS w D p ks pk ((k,s)::r) iri op ax):
  Calls prog 107 #[p.ptr,.string (str s)] w fun e w'=>∃D':Gh,e=.returned (.tuple #[])∧Gro (some p.g) w D w' D'∧OS w' D' p ks false r iri op ax:=by
 have H:=hid (is_yes w D p ks pk k s r iri op ax h)
 have hof:=h.off
 clear h
 go_enter func107,ntmps107
 go_wp2_with fail
 refine H.out.mono ?_
 rintro e w1 ⟨D1,rfl,hg,hO⟩
 have:=hg.keeps
 have HP:=hid (fun(_:Unit)=>pass_o w1 D1 p ks k s r hr iri op ax hO)
 clear hO hr
 go_wp2_with fail
 refine(fail_ok _ _).mono ?_
 rintro e w2 ⟨rfl,rfl⟩
 go_wp2_with fail
 refine(HP.out ()).mono ?_
 rintro e w3 ⟨rfl,hg3,hO3⟩
 go_wp2_with fail
 go_end0
 exact⟨D1,rfl,Gr.g,hO3⟩
theorem lookS_pm{ks:List Bs}{s:Bs}(h:s∈ks):lookS (pmOf ks) s=some (.bool true):=by
 induction ks with
 |nil=>cases h
 |cons a r ih=>
  show(if a=s then some (Value.bool true)else lookS (pmOf r) s)=_
  by_cases ha:a=s
  ·rw[if_pos ha]
  ·rw[if_neg ha]
   rcases List.mem_cons.1 h with h|h
   ·exact absurd h.symm ha
   ·exact ih h
theorem lookS_pm_no{ks:List Bs}{s:Bs}(h:¬s∈ks):lookS (pmOf ks) s=none:=by
 induction ks with
 |nil=>rfl
 |cons a r ih=>
  show(if a=s then some (Value.bool true)else lookS (pmOf r) s)=_
  rw[if_neg (fun e=>h (by rw[e];simp))]
  exact ih (fun e=>h (by simp[e]))
theorem run_look_S{P:Program}{t k e:TypeId}(ht:P.underlying t=some (.map k e))(hk:P.underlying k=some .string){z:Value}(hz:∀w,(zeroValue e).run P w=.ok z w)
  {w:World} {m:Nat} {l:List (Bs×Value)} (hm:ML w m l) (s:Bs):
  (Instr.lookup t (.map (some m)) (.string (str s)) false).run P w=.ok ((lookS l s).getD z) w:=by
 obtain⟨es,c,hm,hes⟩:=hm.out
 obtain⟨j,hj⟩:=findNow_str l s es.toList 0 hes
 have hck:∀e,(Instr.checkKey e 10000 k (.string (str s))).run P w=.ok () w:=fun e=>MapKept.run_checkKey hk (by simp[MapKept.IsKey]) e 9999
 cases hl:lookS l s with
 |none=>
  rw[hl]at hj
  simp[Instr.lookup,run_underlying ht,MapKept.run_getObj_map hm,hck,MapKept.run_findKey hk hj,hz,Result.andThen]
 |some v=>
  rw[hl]at hj
  simp[Instr.lookup,run_underlying ht,MapKept.run_getObj_map hm,hck,MapKept.run_findKey hk hj,Result.andThen]
theorem look_pm{w:World}{m:Nat}{ks:List Bs}(hm:ML w m (pmOf ks)){s:Bs}(hs:s∈ks):(Instr.lookup 89 (.map (some m)) (.string (str s)) false).run prog w=.ok (.bool true) w:=by
 have:=run_look_S (P:=prog) underlying89 underlying9 (z:=.bool false) (fun _=>by kernel_rfl) hm s
 rw[lookS_pm hs]at this
 exact this
theorem look_pm_no{w:World}{m:Nat}{ks:List Bs}(hm:ML w m (pmOf ks)){s:Bs}(hs:¬s∈ks):(Instr.lookup 89 (.map (some m)) (.string (str s)) false).run prog w=.ok (.bool false) w:=by
 have:=run_look_S (P:=prog) underlying89 underlying9 (z:=.bool false) (fun _=>by kernel_rfl) hm s
 rw[lookS_pm_no hs]at this
 exact this
theorem OS.cells{w:World}{D:Gh}{p:OC}{ks:List Bs}{pk:Bool}{ts:List KT}{iri:Value}{op:Bool}{ax:Value}(h:OS w D p ks pk ts iri op ax):w.cell? ⟨p.g,3,none⟩=some (.map (some p.mp))∧w.cell? ⟨p.g,5,none⟩=some (.bool op)∧w.cell? ⟨p.g,6,none⟩=some ax∧w.cell? ⟨p.g,7,none⟩=some (.map (some p.mi))∧w.cell? ⟨p.g,8,none⟩=some (.map (some p.mc)):=by
 obtain⟨_,_,_,hb⟩:=h.st
 exact⟨Box.cell (h:=hb) 3,Box.cell (h:=hb) 5,Box.cell (h:=hb) 6,Box.cell (h:=hb) 7,Box.cell (h:=hb) 8⟩
theorem fixed_o(w:World)(D:Gh)(p:OC)(ks:List Bs)(pk:Bool)(k:Int)(s x:Bs)(r:List KT)(hr:r≠[])(hx:x∈ks)(iri:Value)(op:Bool)(ax:Value)[hk:Keeps D w](h:OS w D p ks pk ((k,s)::r) iri op ax):
  Calls prog 154 #[p.ptr,.string (str s),.string (str x)] w fun e w'=>∃D':Gh,e=.returned (.tuple #[])∧Gro (some p.g) w D w' D'∧OS w' D' p ks false r iri op ax:=by
 have H:=hid (is_yes w D p ks pk k s r iri op ax h)
 have hof:=h.off
 clear h
 go_enter func154,ntmps154
 go_wp2_with fail
 refine H.out.mono ?_
 rintro e w1 ⟨D1,rfl,hg,hO⟩
 have:=hg.keeps
 have HP:=hid (fun(_:Unit)=>pass_o w1 D1 p ks k s r hr iri op ax hO)
 have c3:=hO.cells.1
 have hl:=look_pm hO.mp hx
 clear hO hr hx
 go_wp2_with fail
 refine(fail_ok _ _).mono ?_
 rintro e w2 ⟨rfl,rfl⟩
 go_wp2_with fail
 refine(HP.out ()).mono ?_
 rintro e w3 ⟨rfl,hg3,hO3⟩
 go_wp2_with fail
 go_end0
 exact⟨D1,rfl,Gr.g,hO3⟩
end Go.Proofs.YticgonfhjcaohaaGreatDoor
namespace Go.Proofs.YticgonfhjcaohaaGreatDoor
open Go.RowKit Go.VT _root_.Go.Proofs.Tryz
class MI(w:World)(m:Nat)(l:outParam (List (Int×Value))):Prop where
 out:∃es c,w.heap[m]? =some (.map es c)∧es.toList.map (fun e=>(e.key,e.val))=l.map fun x=>(Value.int .i64 x.1,x.2)
section
variable{w w':World}{m:Nat}{l:List (Int×Value)}
theorem MI.lt(h:MI w m l):m<w.heap.size:=by
 obtain⟨es,c,h,_⟩:=h.out
 rcases Nat.lt_or_ge m w.heap.size with hl|hl
 ·exact hl
 ·rw[Array.getElem?_eq_none hl]at h;cases h
theorem MI.of(h:MI w m l)(e:w'.heap[m]? =w.heap[m]?):MI w' m l:=by
 obtain⟨es,c,h,k⟩:=h.out
 exact⟨es,c,e.trans h,k⟩
theorem MI.new(w:World):MI (w.alloc (.map #[] 0)) w.heap.size []:=⟨#[],0,World.alloc_heap_new w _,rfl⟩
instance MI.drew[h:MI w m l]:MI w.drew m l:=h.of rfl
instance MI.drewN(n:Nat)[h:MI w m l]:MI (w.drewN n) m l:=h.of rfl
instance MI.alloc(o:Obj)[h:MI w m l]:MI (w.alloc o) m l:=h.of (Below.heap_alloc w o m h.lt)
instance MI.set(a:Addr)(u:Value)[h:MI w m l]:MI (w.setCell a u) m l:=by
 obtain⟨es,c,h,k⟩:=h.out
 refine⟨es,c,?_,k⟩
 by_cases e:a.block=m
 ·subst e;simp[World.setCell,Array.getElem?_modify,h]
 ·exact(Below.heap_setCell w a u m (fun q=>e q.symm)).trans h
instance MI.row(g:Nat)(cs:Array Value)[h:MI w m l]:MI (w.setRow g cs) m l:=by
 obtain⟨es,c,h,k⟩:=h.out
 refine⟨es,c,?_,k⟩
 by_cases e:m=g
 ·subst e;simp[World.setRow,Array.getElem?_modify,h]
 ·exact(setRow_other w g m cs e).trans h
instance MI.call(X:Option Nat)[hc:Cll X w w'][h:MI w m l][hn:NeX m X]:MI w' m l:=h.of (hc.out.block m h.lt hn.out)
end
def lookI:List (Int×Value)→Int→Option Value
 |[],_=>none
 |x::r,s=>if x.1=s then some x.2 else lookI r s
theorem findNow_int(l:List (Int×Value))(s:Int):∀(es:List MapEntry)(i:Nat),es.map (fun e=>(e.key,e.val))=l.map (fun x=>(Value.int .i64 x.1,x.2))→
  ∃j,Instr.findNow (.int .i64) (.int .i64 s) es i=some ((lookI l s).map fun v=>(j,v)):=by
 induction l with
 |nil=>
  intro es i h
  cases es with
  |nil=>exact⟨0,rfl⟩
  |cons e r=>simp at h
 |cons x r ih=>
  intro es i h
  cases es with
  |nil=>simp at h
  |cons e es=>
   simp only[List.map_cons,List.cons.injEq,Prod.mk.injEq]at h
   obtain⟨⟨h1,h2⟩,h3⟩:=h
   simp only[Instr.findNow,h1,Instr.sameNow,lookI]
   by_cases hx:x.1=s
   ·rw[hx,if_pos rfl]
    refine⟨i,?_⟩
    simp[h2]
   ·rw[if_neg hx]
    have hne:(s==x.1)=false:=by
     rw[beq_eq_false_iff_ne];intro q;exact hx q.symm
    simp only[hne]
    exact ih es (i+1) h3
theorem run_lookup_int{P:Program}{t k e:TypeId}(ht:P.underlying t=some (.map k e))(hk:P.underlying k=some (.int .i64))
  {w:World} {m:Nat} {l:List (Int×Value)} (hm:MI w m l) (s:Int) {v:Value} (hl:lookI l s=some v):
  (Instr.lookup t (.map (some m)) (.int .i64 s) false).run P w=.ok v w:=by
 obtain⟨es,c,hm,hes⟩:=hm.out
 obtain⟨j,hj⟩:=findNow_int l s es.toList 0 hes
 have hck:∀e,(Instr.checkKey e 10000 k (.int .i64 s)).run P w=.ok () w:=fun e=>MapKept.run_checkKey hk (by simp[MapKept.IsKey]) e 9999
 rw[hl]at hj
 simp[Instr.lookup,run_underlying ht,MapKept.run_getObj_map hm,hck,MapKept.run_findKey hk hj,Result.andThen]
theorem wpList_insert_newI{P:Program}{ops:Array Oper}{rest:List Oper}{o:Oper}{a:Act}{w:World}{Q:Exit→Act→World→Prop}(hgd:o.guard=none)(mty:TypeId)(m k x:Operand)(ho:o.op=.insert mty m k x)(hd:o.dst=none){kt et:TypeId}(hm:P.underlying mty=some (.map kt et))(hk:P.underlying kt=some (.int .i64))
  {r:Nat} (hx1:a.eval m=.map (some r)) {l:List (Int×Value)} (h:MI w r l) (s:Int) (hx2:a.eval k=.int .i64 s) {v:Value} (hx3:a.eval x=v) (hn:lookI l s=none)
  (hK:∀w',MI w' r (l++[(s,v)])→Cll (some r) w w'→wpList P ops Q rest a w'):wpList P ops Q (o::rest) a w:=by
 refine wpList_plain hgd fun K hk'=>?_
 have hlt:=h.lt
 obtain⟨es,c,hb,he⟩:=h.out
 obtain⟨j,hj⟩:=findNow_int l s es.toList 0 he
 rw[hn]at hj
 have hc:(Instr.checkKey false 10000 kt (.int .i64 s)).run P w=.ok () w:=MapKept.run_checkKey (k:=.int .i64 s) hk (by simp[MapKept.IsKey]) false 9999
 have hrun:(Instr.mapUpdate mty (.map (some r)) (.int .i64 s) v).run P w=.ok () (w.putObj r (.map (es.push {key:=.int .i64 s,val:=v,born:=c}) (c+1))):=by
  simp[Instr.mapUpdate,run_underlying hm,MapKept.run_getObj_map hb,hc,MapKept.run_findKey hk hj,MapKept.run_setObj_map _ hb,Result.andThen,World.putObj]
 unfold Oper.wp execOp
 simp only[ho,hx1,hx2,hx3,Sem.run_bind,Sem.run_pure,Result.andThen_ok,hrun]
 exact hk' _ _ (by rw[hd];exact hK _ ⟨_,_,World.putObj_heap_same hlt,by simp[he]⟩ ⟨Bl.putX _⟩)
end Go.Proofs.YticgonfhjcaohaaGreatDoor
