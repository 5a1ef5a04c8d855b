/- TopParsed, part 16. -/
import Derived.Shelf.SlSortCmp.NoneTotal
import Derived.Test.YticgonfhjcaohaaGreatDoorP13
set_option maxRecDepth 100000
set_option maxHeartbeats 32000000
namespace Go.Proofs.YticgonfhjcaohaaGreatDoor
open Go.RowKit Go.VT _root_.Go.Proofs.Tryz
theorem yieldsIf_row{P:Program}{ops:Array Oper}{S:World→Prop}{op:Oper}{a:Act}(hw:Region.wanted op (yielded ops a.tmps)=true)(ty:TypeId)(x:Operand)(ho:op.op=.load ty x)
  (g:Nat) (hx:a.eval x=.pointer (some ⟨g,0,none⟩)) (t:TypeId) (cs:Array Value) (d:TypeDesc) (hS:∀w,S w→w.heap[g]? =some (.cells cs t (0,0)))
  (hu:P.underlying ty=some d) (hd:(match d with|.struct _|.array _ _=>true|_=>false)=true) (hi:(P.info? ty).map (·.size)=some cs.size):YieldsIf P ops S op (.agg cs) a:=
 .inl ⟨hw,fun w hw'=>by
  unfold execOp
  simp only[ho,hx,Instr.loadAt,Instr.sureAddr,Sem.run_bind,Sem.run_pure,Result.andThen_ok,run_loadVar_row w g t ty cs (0,0) d (hS w hw') hu hd hi]⟩
theorem hz31:(prog.info? 31).map (·.size)=some (5:Nat):=by kernel_rfl
theorem compare_c(w:World)(D:Gh)(c c':C)(a a':Option Addr)(n m n' m':Nat)(hs:c.size≤1000)(hs':c'.size≤1000)(hp:PV D c.parts (.slice a n m))(hp':PV D c'.parts (.slice a' n' m'))[hk:Keeps D w]:
  Calls prog 21 #[cv c (.slice a n m),cv c' (.slice a' n' m')] w fun e w'=>e=.returned (.int .i64 (cmpC c c'))∧Cll none w w':=by
 obtain⟨W,hW⟩:∃W,W=(w.alloc (.cells #[.int .i64 c.kind,.string (str c.nm),.int .i64 c.lo,.int .i64 c.hi,.slice a n m] 31)).alloc (.cells #[.int .i64 c'.kind,.string (str c'.nm),.int .i64 c'.lo,.int .i64 c'.hi,.slice a' n' m'] 31):=⟨_,rfl⟩
 have hB1:Box W D w.heap.size 31 #[.int .i64 c.kind,.string (str c.nm),.int .i64 c.lo,.int .i64 c.hi,.slice a n m]:=hW▸ii
 have hB2:Box W D (w.heap.size+1) 31 #[.int .i64 c'.kind,.string (str c'.nm),.int .i64 c'.lo,.int .i64 c'.hi,.slice a' n' m']:=by rw[hW];exact Box.newAt (by simp)
 have hK:Keeps D W:=hW▸ii
 have hc0:Gr none w D W D:=hW▸ii
 have SH:Hid (∀W,Box W D w.heap.size 31 #[.int .i64 c.kind,.string (str c.nm),.int .i64 c.lo,.int .i64 c.hi,.slice a n m]→Box W D (w.heap.size+1) 31 #[.int .i64 c'.kind,.string (str c'.nm),.int .i64 c'.lo,.int .i64 c'.hi,.slice a' n' m']→
   W.heap[w.heap.size]? =some (.cells #[.int .i64 c.kind,.string (str c.nm),.int .i64 c.lo,.int .i64 c.hi,.slice a n m] 31 (0,0))∧W.heap[w.heap.size+1]? =some (.cells #[.int .i64 c'.kind,.string (str c'.nm),.int .i64 c'.lo,.int .i64 c'.hi,.slice a' n' m'] 31 (0,0))):=fun W h1 h2=>⟨h1.heap,h2.heap⟩
 have HW:=hid hW
 clear hW
 go_enter func21,ntmps21
 repeat((fail_if_success (with_reducible show Code.wp _ (Code.region 1 _ _) _ _ _));go_step)
 rw[←HW.out]
 refine wp_region_held_drew (S:=fun W=>W.heap[w.heap.size]? =some (.cells #[.int .i64 c.kind,.string (str c.nm),.int .i64 c.lo,.int .i64 c.hi,.slice a n m] 31 (0,0))∧W.heap[w.heap.size+1]? =some (.cells #[.int .i64 c'.kind,.string (str c'.nm),.int .i64 c'.lo,.int .i64 c'.hi,.slice a' n' m'] 31 (0,0))) (by kernel_rfl) (SH.out _ ii ii) (fun hHeld=>?_)
 refine wpAnyH_take (i:=0) rfl (by kernel_rfl) (by kernel_rfl) (by kernel_rfl) (fun _ _ _ h=>h) (yieldsIf_row (by rfl) 31 _ rfl _ rfl 31 _ _ (fun w h=>h.1) (underlying31) rfl (hz31)) hHeld ?_
 simp only[Act.put,List.getElem_toArray,List.getElem_cons_zero,List.setIfInBounds_toArray,List.set_cons_zero,List.set_cons_succ]
 refine wpAnyH_take (i:=2) rfl (by kernel_rfl) (by kernel_rfl) (by kernel_rfl) (fun _ _ _ h=>h) (yieldsIf_row (by rfl) 31 _ rfl _ rfl 31 _ _ (fun w h=>h.2) (underlying31) rfl (hz31)) hHeld ?_
 simp only[Act.put,List.getElem_toArray,List.getElem_cons_zero,List.getElem_cons_succ,List.setIfInBounds_toArray,List.set_cons_zero,List.set_cons_succ]
 refine wpAnyH_ready (rs:=[1]) (by kernel_rfl) (by simp) (AllReadyH.cons rfl (fun K' hK=>?_) AllReadyH.nil)
 go_simp
 refine(grow_c _ D c a n m hs hp).mono ?_
 rintro e w1 ⟨q1,D1,rfl,ht1,hg1⟩
 obtain⟨b1,k1,rfl,_,_⟩:=TV.form ht1
 have:=hg1.keeps
 have:=hg1.le
 refine hK.out _ _ (SH.out _ ii ii) (fun hHeld=>?_)
 clear hK K'
 refine wpAnyH_ready (rs:=[3]) (by kernel_rfl) (by simp) (AllReadyH.cons rfl (fun K' hK=>?_) AllReadyH.nil)
 go_simp
 refine(grow_c _ D1 c' a' n' m' hs' ii).mono ?_
 rintro e w2 ⟨q2,D2,rfl,ht2,hg2⟩
 obtain⟨b2,k2,rfl,_,_⟩:=TV.form ht2
 have:=hg2.keeps
 have:=hg2.le
 have hB1z:Box w2 D w.heap.size 31 _:=@Box.call w1 w2 D _ _ _ none ⟨hg2.bl⟩ (ii:Box w1 D w.heap.size 31 _) _
 have hB2z:Box w2 D (w.heap.size+1) 31 _:=@Box.call w1 w2 D _ _ _ none ⟨hg2.bl⟩ (ii:Box w1 D (w.heap.size+1) 31 _) _
 refine hK.out _ _ (SH.out _ hB1z hB2z) (fun hHeld=>?_)
 clear hK K'
 refine wpAnyH_ready (rs:=[4]) (by kernel_rfl) (by simp) (AllReadyH.cons rfl (fun K' hK=>?_) AllReadyH.nil)
 go_simp
 have hp1:PV D1 c.parts (.slice a n m):=ii
 have hp2:PV D1 c'.parts (.slice a' n' m'):=ii
 refine(cmp_c _ D2 c c' a b1 a' b2 n m _ _ n' m' _ _ ii ii ii ht2).mono ?_
 rintro e w3 ⟨rfl,hlay⟩
 have hB1y:Box w3 D w.heap.size 31 _:=@Box.call w2 w3 D _ _ _ none ⟨hlay.1⟩ hB1z _
 have hB2y:Box w3 D (w.heap.size+1) 31 _:=@Box.call w2 w3 D _ _ _ none ⟨hlay.1⟩ hB2z _
 refine hK.out _ _ (SH.out _ hB1y hB2y) (fun hHeld=>?_)
 clear hK K'
 refine wpAnyH_ready (rs:=[5]) (by kernel_rfl) (by simp) (AllReadyH.cons rfl (fun K' hK=>?_) AllReadyH.nil)
 go_simp
 refine hK.out _ _ (SH.out _ hB1y hB2y) (fun hHeld=>?_)
 clear hK K'
 refine wpAnyH_done (by kernel_rfl) ?_ _
 have hW2:Gr none w D w2 D2:=ii
 have:Bel none w w2:=hW2.toBel
 have:Cll none w2 w3:=⟨hlay.1⟩
 go_wp2
 go_ret
 exact⟨rfl,Bel.c⟩
end Go.Proofs.YticgonfhjcaohaaGreatDoor
namespace Go.Proofs.YticgonfhjcaohaaGreatDoor
open Go.RowKit Go.VT _root_.Go.Proofs.Tryz
open Go.Sort Go.Shelf Go.Proofs
theorem lay_grow{w w':World}(h:Lay w w'):∃q os',w'=grow (w.drewN q) os':=by
 obtain⟨hb,hd⟩:=h
 refine⟨w'.drawn-w.drawn,w'.heap.extract w.heap.size w'.heap.size,?_⟩
 have hh:w'.heap=w.heap++w'.heap.extract w.heap.size w'.heap.size:=by
  apply Array.ext_getElem?
  intro k
  rcases Nat.lt_or_ge k w.heap.size with hk|hk
  ·rw[Array.getElem?_append_left hk,hb.block k hk (by simp)]
  ·rw[Array.getElem?_append_right hk]
   rcases Nat.lt_or_ge k w'.heap.size with hk'|hk'
   ·rw[Array.getElem?_eq_getElem hk',Array.getElem?_eq_getElem (by simp;have:=hb.size;omega)]
    simp;congr 1;omega
   ·rw[Array.getElem?_eq_none hk',Array.getElem?_eq_none (by simp;omega)]
 have hd':w'.drawn=w.drawn+(w'.drawn-w.drawn):=by omega
 obtain⟨h1,h2,h3⟩:=(⟨hb.os,hb.tape,hb.output⟩:w'.os=w.os∧w'.tape=w.tape∧w'.output=w.output)
 cases w'
 cases w
 simp only at hh hd' h1 h2 h3
 subst h1 h2 h3
 show World.mk _ _ _ _ _=World.mk _ _ _ _ _
 congr 1
def OkT(D:Gh)(x:C×Value×Value):Prop:=PV D x.1.parts x.2.1∧TV D x.1.parts x.2.2
abbrev KT_(D:Gh):={x:C×Value×Value//OkT D x}
instance(D:Gh):Inhabited (KT_ D):=⟨⟨(.top,.slice none 0 0,.slice none 0 0),PV.nil,TV.nil⟩⟩
def encT(D:Gh)(x:KT_ D):List Value:=trow x.1
theorem flat_trow{D:Gh}(d:Array (KT_ D)):(flatK (encT D) 7 d).toList=(d.toList.map (·.1)).flatMap trow:=by
 apply List.ext_getElem?
 intro t
 have hl:((d.toList.map (·.1)).flatMap trow).length=d.size*7:=by rw[trow_len];simp
 rcases Nat.lt_or_ge t (d.size*7)with ht|ht
 ·have h7:t/7<d.size:=by omega
  have e1:=trow_at (d.toList.map (·.1)) (t/7) d[t/7].1 (by simp[h7]) (t%7) (trow d[t/7].1)[t%7]! (by
   have:t%7<(trow d[t/7].1).length:=by simp[trow];omega
   rw[List.getElem?_eq_getElem this];congr 1;exact(getElem!_pos (trow d[t/7].1) (t%7) this).symm)
  rw[show t/7*7+t%7=t by omega]at e1
  rw[e1,Array.getElem?_toList,Array.getElem?_eq_getElem (by simpa using ht)]
  have:=get_flatK (encT D) 7 d t ht
  rw[getElem!_pos (flatK (encT D) 7 d) t (by simpa using ht)]at this
  rw[this,getElem!_pos d (t/7) h7];rfl
 ·rw[List.getElem?_eq_none (by simpa using ht),List.getElem?_eq_none (by omega)]
theorem heapK{α:Type}[Inhabited α]{enc:α→List Value}{k:Nat}{w:World}{g n:Nat}{os:Array Obj}{cur:Array Value}{e:TypeId}{fr:Nat×Nat}(d:Array α)(hb:w.heap[g]? =some (.cells cur e fr)):
  (grow (putRowK enc k (Sort.ahead w n) g 0 d) os).heap[g]? =some (.cells (putCells id 0 (flatK enc k d) cur) e fr):=by
 have hg:g<w.heap.size:=(Array.getElem?_eq_some_iff.1 hb).1
 rw[heap_grow_old _ _ (by simpa[putRowK]using hg)]
 simp[putRowK,putRow,mapBlock,Sort.ahead,Array.getElem?_modify,hb,onCells]
theorem grownK{α:Type}[Inhabited α]{enc:α→List Value}{k:Nat}{w:World}{g n:Nat}{os:Array Obj}(d:Array α):Bl (some g) w (grow (putRowK enc k (Sort.ahead w n) g 0 d) os):=by
 refine⟨rfl,rfl,rfl,by simp[putRowK],fun k hk hne=>?_⟩
 rw[heap_grow_old _ _ (by simpa[putRowK]using hk)]
 have:g≠k:=fun e=>hne (by rw[e])
 simp[putRowK,putRow,mapBlock,Sort.ahead,Array.getElem?_modify,this]
theorem take_put(cur:Array Value)(vs:Array Value)(h:vs.size≤cur.size):(putCells id 0 vs cur).toList.take vs.size=vs.toList:=by
 apply List.ext_getElem?
 intro j
 by_cases hj:j<vs.size
 ·rw[List.getElem?_take_of_lt hj,Array.getElem?_toList]
  simp[putCells,hj,show j<cur.size by omega]
 ·rw[List.getElem?_take_eq_none (by omega),List.getElem?_eq_none (by simp;omega)]
end Go.Proofs.YticgonfhjcaohaaGreatDoor
namespace Go.Proofs.YticgonfhjcaohaaGreatDoor
open Go.RowKit Go.VT
open Go.Sort Go.Shelf Go.Proofs
def Tryz.sortTrees_ren:Go.Shelf.Ren:=⟨fun|6=>127|15=>144|14=>166|28=>181|29=>182|20=>196|21=>197|22=>198|23=>199|24=>200|25=>201|26=>202|27=>203|46=>218|47=>211|48=>212|49=>219|50=>220|57=>231|n=>n,fun|22=>113|24=>115|25=>164|3=>3|39=>177|0=>0|53=>205|55=>207|4=>4|46=>198|45=>197|50=>202|5=>5|9=>9|66=>224|70=>161|76=>237|77=>96|n=>n,fun|n=>n⟩
theorem Tryz.sortTrees:Go.Proofs.SlLaysF0.n6 Tryz.prog Tryz.sortTrees_ren:={
 mixed:=by kernel_rfl
 f6:=⟨Tryz.f127.name,by decide,Tryz.func127.trans (congrArg some (by kernel_rfl))⟩
 f14:=⟨Tryz.f166.name,by decide,Tryz.func166.trans (congrArg some (by kernel_rfl))⟩
 f15:=Tryz.func144.trans (congrArg some (by kernel_rfl))
 f20:=⟨Tryz.f196.name,by decide,Tryz.func196.trans (congrArg some (by kernel_rfl))⟩
 f21:=⟨Tryz.f197.name,by decide,Tryz.func197.trans (congrArg some (by kernel_rfl))⟩
 f22:=⟨Tryz.f198.name,by decide,Tryz.func198.trans (congrArg some (by kernel_rfl))⟩
 f23:=⟨Tryz.f199.name,by decide,Tryz.func199.trans (congrArg some (by kernel_rfl))⟩
 f24:=⟨Tryz.f200.name,by decide,Tryz.func200.trans (congrArg some (by kernel_rfl))⟩
 f25:=⟨Tryz.f201.name,by decide,Tryz.func201.trans (congrArg some (by kernel_rfl))⟩
 f26:=⟨Tryz.f202.name,by decide,Tryz.func202.trans (congrArg some (by kernel_rfl))⟩
 f27:=⟨Tryz.f203.name,by decide,Tryz.func203.trans (congrArg some (by kernel_rfl))⟩
 f28:=Tryz.func181.trans (congrArg some (by kernel_rfl))
 f29:=Tryz.func182.trans (congrArg some (by kernel_rfl))
 f46:=⟨Tryz.f218.name,by decide,Tryz.func218.trans (congrArg some (by kernel_rfl))⟩
 f47:=Tryz.func211.trans (congrArg some (by kernel_rfl))
 f48:=Tryz.func212.trans (congrArg some (by kernel_rfl))
 f49:=⟨Tryz.f219.name,by decide,Tryz.func219.trans (congrArg some (by kernel_rfl))⟩
 f50:=⟨Tryz.f220.name,by decide,Tryz.func220.trans (congrArg some (by kernel_rfl))⟩
 f57:=⟨Tryz.f231.name,by decide,Tryz.func231.trans (congrArg some (by kernel_rfl))⟩
 t0:=Tryz.underlying0
 a0:=Tryz.isAgg0
 z0:=Tryz.sizeOf0
 v0:=Tryz.zeroValue0
 t3:=Tryz.underlying3
 a3:=Tryz.isAgg3
 z3:=Tryz.sizeOf3
 v3:=Tryz.zeroValue3
 t4:=Tryz.underlying4
 a4:=Tryz.isAgg4
 z4:=Tryz.sizeOf4
 v4:=Tryz.zeroValue4
 t5:=Tryz.underlying5
 a5:=Tryz.isAgg5
 z5:=Tryz.sizeOf5
 v5:=Tryz.zeroValue5
 t9:=Tryz.underlying9
 a9:=Tryz.isAgg9
 z9:=Tryz.sizeOf9
 v9:=Tryz.zeroValue9
 t22:=Tryz.underlying113
 a22:=Tryz.isAgg113
 z22:=Tryz.sizeOf113
 v22:=Tryz.zeroValue113
 t25:=Tryz.underlying164
 a25:=Tryz.isAgg164
 z25:=Tryz.sizeOf164
 v25:=Tryz.zeroValue164
 t39:=Tryz.underlying177
 a39:=Tryz.isAgg177
 z39:=Tryz.sizeOf177
 v39:=Tryz.zeroValue177
 t45:=Tryz.underlying197
 a45:=Tryz.isAgg197
 z45:=Tryz.sizeOf197
 v45:=Tryz.zeroValue197
 t46:=Tryz.underlying198
 a46:=Tryz.isAgg198
 z46:=Tryz.sizeOf198
 v46:=Tryz.zeroValue198
 t50:=Tryz.underlying202
 a50:=Tryz.isAgg202
 z50:=Tryz.sizeOf202
 v50:=Tryz.zeroValue202
 t53:=Tryz.underlying205
 a53:=Tryz.isAgg205
 z53:=Tryz.sizeOf205
 v53:=Tryz.zeroValue205
 t55:=Tryz.underlying207
 a55:=Tryz.isAgg207
 z55:=Tryz.sizeOf207
 v55:=Tryz.zeroValue207
 t66:=Tryz.underlying224
 a66:=Tryz.isAgg224
 z66:=Tryz.sizeOf224
 v66:=Tryz.zeroValue224
 t70:=Tryz.underlying161
 a70:=Tryz.isAgg161
 z70:=Tryz.sizeOf161
 v70:=Tryz.zeroValue161
 t76:=Tryz.underlying237
 a76:=Tryz.isAgg237
 z76:=Tryz.sizeOf237
 v76:=Tryz.zeroValue237
 t77:=Tryz.underlying96
 a77:=Tryz.isAgg96
 z77:=Tryz.sizeOf96
 v77:=Tryz.zeroValue96}
theorem cmpLaysT(D:Gh)(w:World)[hk:Keeps D w](g size:Nat)[hg:Off D g]:CmpLays Tryz.prog 56 #[] (encT D) 7 (fun x y=>cmpC x.1.1 y.1.1) g 0 size w:=by
 intro m os dk _ x y
 have:Keeps D (sortWorldK (encT D) 7 w g 0 m dk os):=Keeps.of_bl (X:=some g) (grownK dk)
 obtain⟨⟨c,p,q⟩,hp,hq⟩:=x
 obtain⟨⟨c',p',q'⟩,hp',hq'⟩:=y
 change PV D c.parts p at hp
 change TV D c.parts q at hq
 change PV D c'.parts p' at hp'
 change TV D c'.parts q' at hq'
 obtain⟨a,k,rfl,_,_⟩:=PV.form hp
 obtain⟨b,l,rfl,_,_⟩:=TV.form hq
 obtain⟨a',k',rfl,_,_⟩:=PV.form hp'
 obtain⟨b',l',rfl,_,_⟩:=TV.form hq'
 exact(cmp_c _ D c c' a b a' b' _ _ _ _ _ _ _ _ hp hq hp' hq').mono fun e w' h=>⟨h.1,lay_grow h.2⟩
theorem lift_all{α:Type}{P:α→Prop}:∀xs:List α,(∀x∈xs,P x)→∃ds:List {x//P x},ds.map (·.1)=xs
 |[],_=>⟨[],rfl⟩
 |x::r,h=>let⟨ds,e⟩:=lift_all r (fun y hy=>h y (List.mem_cons_of_mem _ hy));⟨⟨x,h x List.mem_cons_self⟩::ds,by rw[List.map_cons,e]⟩
theorem sort_c(w:World)(D:Gh)[hk:Keeps D w](B n:Nat)(v:Value)(xs:List (C×Value×Value))(hO:Own w D B 115 7 v n (xs.flatMap trow))(hx:∀x∈xs,OkT D x)(hn:n<4611686018427387904):
  Calls Tryz.prog 127 #[v,.func (.func 56) #[] #[]] w fun e w'=>e=.returned (.tuple #[])∧∃ys:List (C×Value×Value),ys.Perm xs∧ys.map (·.1)=sortC (xs.map (·.1))∧Own w' D B 115 7 v n (ys.flatMap trow)∧Cll v.ownBlock w w':=by
 have hl:n=xs.length:=by have:=hO.own.1;rw[trow_len]at this;omega
 rcases hO.own.2 with⟨rfl,rfl⟩|⟨g,cap,cur,rfl,hB,hh,h1,h2,h3,h4⟩
 ·obtain rfl:xs=[]:=List.eq_nil_of_length_eq_zero hl.symm
  refine(AnyF.slices_SortFunc_none Tryz.sortTrees none 0 (.func (.func 56) #[] #[]) w).mono ?_
  rintro e w' ⟨rfl,rfl⟩
  exact⟨rfl,[],.refl _,by simp[sortC],hO,⟨Bl.refl _ _⟩⟩
 ·have hoff:Off D g:=hO.off.out g rfl
  obtain⟨ds,hds⟩:∃ds:List (KT_ D),ds.map (·.1)=xs:=lift_all xs hx
  have hsz:ds.toArray.size=n:=by rw[hl,←hds];simp
  have hcur:cur.toList.take (n*7)=(flatK (encT D) 7 ds.toArray).toList:=by rw[h4,flat_trow,hds]
  have hH:HoldsK (encT D) 7 w g 0 ds.toArray:=by
   intro j hj
   rw[size_flatK,hsz]at hj
   refine⟨?_,by simp[World.frozen?,hh]⟩
   have e1:(cur.toList.take (n*7))[j]? =(flatK (encT D) 7 ds.toArray).toList[j]? :=by rw[hcur]
   rw[List.getElem?_take_of_lt hj]at e1
   simp only[World.cell?,hh,Nat.zero_add]
   simp only[Option.isSome_none,Bool.false_eq_true,if_false]
   rw[←Array.getElem?_toList,e1,Array.getElem?_toList]
   have hj2:j<(flatK (encT D) 7 ds.toArray).size:=by rw[size_flatK,hsz];exact hj
   rw[Array.getElem?_eq_getElem hj2,getElem!_pos (flatK (encT D) 7 ds.toArray) j hj2];rfl
  have eg:∀args w,(callFunc 56 args).run Tryz.prog w=.ok (.enter 56 args) w:=enters_of Tryz.func56 (by kernel_rfl) rfl
  have hg:g<w.heap.size:=(Array.getElem?_eq_some_iff.1 hh).1
  have key:=AnyQ.slices_SortFunc Tryz.sortTrees 7 Tryz.isAgg115 Tryz.sizeOf115 (encT D) (fun _=>rfl) (fun x u hu=>by
   obtain⟨⟨c,p,q⟩,hp,hq⟩:=x
   change PV D c.parts p at hp
   change TV D c.parts q at hq
   obtain⟨a,k,rfl,_,_⟩:=PV.form hp
   obtain⟨b,l,rfl,_,_⟩:=TV.form hq
   simp only[encT,trow,List.mem_cons,List.not_mem_nil,or_false]at hu
   rcases hu with rfl|rfl|rfl|rfl|rfl|rfl|rfl<;>rfl) (fun x y:KT_ D=>cmpC x.1.1 y.1.1) (swoC fun x:KT_ D=>x.1.1) 56 #[] g 0 cap ds.toArray w eg (cmpLaysT D w g _) hH hg (by rw[hsz];exact hn)
  rw[hsz]at key
  refine Calls.mono key ?_
  rintro e w' ⟨rfl,d',m,os,hp,hs,rfl⟩
  obtain⟨hp1,_,hp3⟩:=hp
  have hsz':d'.size=n:=by rw[hp1,hsz]
  have hperm:d'.toList.Perm ds:=by
   have e1:d'.extract 0 n=d':=by rw[←hsz'];simp
   have e2:ds.toArray.extract 0 n=ds.toArray:=by rw[←hsz];simp
   rw[e1,e2]at hp3;exact hp3
  refine⟨rfl,d'.toList.map (·.1),?_,?_,⟨⟨?_,.inr ⟨g,cap,_,rfl,hB,heapK d' hh,h1,h2,?_,?_⟩⟩,hO.off⟩,⟨grownK d'⟩⟩
  ·rw[←hds];exact hperm.map _
  ·refine sortC_unique ?_ ?_
   ·rw[←hds,List.map_map,List.map_map];exact hperm.map _
   ·rw[List.map_map,List.pairwise_map,List.pairwise_iff_getElem]
    intro i j hi hj hij
    have:=hs i j (Nat.zero_le _) hij (by simpa[hsz']using hj)
    simp only[Array.length_toList]at hi hj
    rw[getElem!_pos d' i hi,getElem!_pos d' j hj]at this
    have h9:¬cmpC d'[j].1.1 d'[i].1.1<0:=of_decide_eq_false this
    have h8:=cmpC_anti d'[i].1.1 d'[j].1.1
    simp only[Array.getElem_toList,Function.comp_apply]
    omega
  ·rw[trow_len];simp[hsz']
  ·simp[putCells,h3]
  ·have:=take_put cur (flatK (encT D) 7 d') (by rw[size_flatK,hsz',h3];exact Nat.mul_le_mul_right _ h1)
   rw[size_flatK,hsz',flat_trow]at this
   exact this
end Go.Proofs.YticgonfhjcaohaaGreatDoor
namespace Go.Proofs.YticgonfhjcaohaaGreatDoor
open Go.RowKit Go.VT _root_.Go.Proofs.Tryz
def setL(xs:List Value)(o:Nat):List Value→List Value
 |[]=>xs
 |u::r=>setL (xs.set o u) (o+1) r
theorem setL_eq:∀(us xs:List Value)(o:Nat),o+us.length≤xs.length→setL xs o us=xs.take o++us++xs.drop (o+us.length)
 |[],xs,o,_=>by simp[setL]
 |u::r,xs,o,h=>by
  simp only[List.length_cons]at h
  have hlt:o<xs.length:=by omega
  rw[setL,setL_eq r (xs.set o u) (o+1) (by simp;omega),List.set_eq_take_append_cons_drop,if_pos hlt]
  have e1:(xs.take o).length=o:=by simp;omega
  rw[show o+1=(xs.take o).length+1 by rw[e1],List.take_append,List.take_of_length_le (by omega:(xs.take o).length≤(xs.take o).length+1)]
  simp only[Nat.add_sub_cancel_left,List.take_succ_cons,List.take_zero]
  rw[show(xs.take o).length+1+r.length=(xs.take o).length+(1+r.length)by omega,List.drop_append,List.drop_of_length_le (by omega:(xs.take o).length≤(xs.take o).length+(1+r.length))]
  simp only[Nat.add_sub_cancel_left,List.nil_append,List.length_cons]
  rw[show 1+r.length=r.length+1 by omega,List.drop_succ_cons,List.drop_drop,e1,show o+1+r.length=o+(r.length+1)by omega]
  simp
section
variable{w:World}{D:Gh}{B:Nat}{e:TypeId}{s n cap g:Nat}{xs:List Value}
theorem _root_.Go.VT.Own.set1(h:Own w D B e s (.slice (some ⟨g,0,none⟩) n cap) n xs){o:Nat}(_ho:o<xs.length)(u:Value):Own (w.setCell ⟨g,o,none⟩ u) D B e s (.slice (some ⟨g,0,none⟩) n cap) n (xs.set o u):=by
 rcases h.own.2 with⟨hv,_⟩|⟨g',cap',cur,hv,hB,hh,h1,h2,h3,h4⟩
 ·cases hv
 ·cases hv
  refine⟨⟨by rw[List.length_set];exact h.own.1,.inr ⟨g,cap,cur.setIfInBounds o u,rfl,hB,?_,h1,h2,by simpa using h3,?_⟩⟩,h.off⟩
  ·simp[World.setCell,Array.getElem?_modify,hh]
  ·rw[←h4,Array.toList_setIfInBounds,List.take_set]
theorem _root_.Go.VT.Own.setCells:∀(us:List Value){w:World}{xs:List Value}(o:Nat),Own w D B e s (.slice (some ⟨g,0,none⟩) n cap) n xs→o+us.length≤xs.length→Own (w.setCells g o us) D B e s (.slice (some ⟨g,0,none⟩) n cap) n (setL xs o us)
 |[],_,_,_,h,_=>h
 |u::r,w,xs,o,h,hl=>by
  simp only[List.length_cons]at hl
  exact Go.VT.Own.setCells r (o+1) (h.set1 (by omega) u) (by rw[List.length_set];omega)
theorem _root_.Go.VT.Own.shrink(h:Own w D B e s (.slice (some ⟨g,0,none⟩) n cap) n xs){m:Nat}(hm:m≤n):Own w D B e s (.slice (some ⟨g,0,none⟩) m cap) m (xs.take (m*s)):=by
 rcases h.own.2 with⟨hv,_⟩|⟨g',cap',cur,hv,hB,hh,h1,h2,h3,h4⟩
 ·cases hv
 ·cases hv
  have hl:=h.own.1
  have hms:=Nat.mul_le_mul_right s hm
  refine⟨⟨by rw[List.length_take];omega,.inr ⟨g,cap,cur,rfl,hB,hh,by omega,h2,h3,?_⟩⟩,⟨fun k hk=>h.off.out k hk⟩⟩
  rw[←h4,List.take_take,Nat.min_eq_left hms]
theorem _root_.Go.VT.Own.at(h:Own w D B e s (.slice (some ⟨g,0,none⟩) n cap) n xs){j:Nat}{u:Value}(hu:xs[j]? =some u):w.cell? ⟨g,j,none⟩=some u:=by
 have:=h.own.cells (g:=g) rfl j u hu
 simpa[Addr.add_lit]using this
theorem _root_.Go.VT.Own.frozen(h:Own w D B e s (.slice (some ⟨g,0,none⟩) n cap) n xs)(j:Nat):w.frozen? ⟨g,j,none⟩=false:=by
 rcases h.own.2 with⟨hv,_⟩|⟨g',cap',cur,hv,hB,hh,h1,h2,h3,h4⟩
 ·cases hv
 ·cases hv;simp[World.frozen?,hh]
end
theorem _root_.Go.VT.Bl.setCells{g:Nat}{a:World}:∀(us:List Value)(o:Nat){w:World},Bl (some g) a w→Bl (some g) a (w.setCells g o us)
 |[],_,_,h=>h
 |u::r,o,_,h=>Go.VT.Bl.setCells r (o+1) (h.setX (p:=⟨g,o,none⟩) rfl u)
theorem _root_.Go.VT.Bl.setCellsNew{X:Option Nat}{g:Nat}{a:World}(hg:a.heap.size≤g):∀(us:List Value)(o:Nat){w:World},Bl X a w→Bl X a (w.setCells g o us)
 |[],_,_,h=>h
 |u::r,o,_,h=>Go.VT.Bl.setCellsNew hg r (o+1) (h.setNew (p:=⟨g,o,none⟩) hg u)
theorem flat_take(zs:List (C×Value×Value))(i:Nat):(zs.flatMap trow).take (i*7)=(zs.take i).flatMap trow:=by
 induction zs generalizing i with
 |nil=>simp
 |cons z r ih=>
  cases i with
  |zero=>simp
  |succ i=>
   rw[List.flatMap_cons,List.take_succ_cons,List.flatMap_cons,←ih,List.take_append]
   have:(trow z).length=7:=rfl
   rw[List.take_of_length_le (by omega),this,show(i+1)*7-7=i*7 by omega]
theorem flat_drop(zs:List (C×Value×Value))(i:Nat):(zs.flatMap trow).drop (i*7)=(zs.drop i).flatMap trow:=by
 induction zs generalizing i with
 |nil=>simp
 |cons z r ih=>
  cases i with
  |zero=>simp
  |succ i=>
   rw[List.flatMap_cons,List.drop_succ_cons,←ih,List.drop_append]
   have:(trow z).length=7:=rfl
   rw[List.drop_of_length_le (by omega),this,show(i+1)*7-7=i*7 by omega,List.nil_append]
theorem flat_set(zs:List (C×Value×Value)){i:Nat}(hi:i<zs.length)(x:C×Value×Value):setL (zs.flatMap trow) (i*7) (trow x)=(zs.set i x).flatMap trow:=by
 have h7:(trow x).length=7:=rfl
 rw[setL_eq _ _ _ (by rw[trow_len,h7];omega),h7,show i*7+7=(i+1)*7 by omega,flat_take,flat_drop,List.set_eq_take_append_cons_drop,if_pos hi,List.flatMap_append,List.flatMap_cons,List.append_assoc]
theorem meet1_c(w:World)(D:Gh)(c c':C)(a b a' b':Option Addr)(n m k l n' m' k' l':Nat)(hp:PV D c.parts (.slice a n m))(hq:TV D c.parts (.slice b k l))(hp':PV D c'.parts (.slice a' n' m'))(hq':TV D c'.parts (.slice b' k' l'))[hk:Keeps D w]:
  Calls prog 129 #[tv c (.slice a n m) (.slice b k l),tv c' (.slice a' n' m') (.slice b' k' l')] w fun e w'=>e=.returned (.bool (cmpC c c'==0))∧Cll none w w':=by
 go_enter func129,ntmps129
 go_wp2_with fail
 refine(cmp_c _ D c c' a b a' b' n m k l n' m' k' l' hp hq hp' hq').mono ?_
 rintro e w1 ⟨rfl,hlay⟩
 have:Cll none _ w1:=⟨hlay.1⟩
 go_wp2
 go_ret
 exact⟨rfl,Bel.c⟩
end Go.Proofs.YticgonfhjcaohaaGreatDoor
namespace Go.Proofs.YticgonfhjcaohaaGreatDoor
open Go.RowKit Go.VT _root_.Go.Proofs.Tryz
theorem pNum_rest{p:PC}{n:Nat}{least v:Int}{r:List Tk}(h:pNum least (p.ts n)=some (v,r)):r=p.ts (n+1):=by
 rcases Nat.lt_or_ge n p.toks.length with hl|hl
 ·have ht:=List.getElem?_eq_getElem hl
  rw[p.ts_cons ht]at h
  simp only[pNum]at h
  split at h
  ·cases h;rfl
  ·cases h
 ·rw[PC.ts,List.drop_eq_nil_of_le hl]at h;cases h
theorem PSpec.ok{w w':World}{D:Gh}{p:PC}{k:Nat}{e:Ending}{R:Option (C×List Tk)}{c:C}{r:List Tk}(h:PSpec w D p k R e w')(hR:R=some (c,r)):CRet w D p k c r e w':=by rw[hR]at h;exact h
theorem PSpec.no{w w':World}{D:Gh}{p:PC}{k:Nat}{e:Ending}{R:Option (C×List Tk)}(h:PSpec w D p k R e w')(hR:R=none):Bad w D p k e w':=by rw[hR]at h;exact h
theorem hd_low{p:PC}{k:Nat}{s:Bs}(h:hd (p.ts k)=s)(hs:s≠[]):k<p.toks.length:=by
 rcases Nat.lt_or_ge k p.toks.length with hl|hl
 ·exact hl
 ·simp[PC.ts,List.drop_eq_nil_of_le hl,hd]at h
  exact absurd h hs
theorem pName_low{p:PC}{k:Nat}{x:Bs×List Tk}(h:pName (p.ts k)=some x):k<p.toks.length:=by
 rcases Nat.lt_or_ge k p.toks.length with hl|hl
 ·exact hl
 ·simp[PC.ts,List.drop_eq_nil_of_le hl,pName]at h
theorem single_s(n:Nat)(w:World)(D:Gh)(p:PC)(k:Nat)(hf:2*(p.toks.length-k)+1≤n+1)
  (ihS:∀(w:World)(D:Gh)(k' m:Nat)[Keeps D w][PS w D p k'][TS D p],k<k'→m≤n→2*(p.toks.length-k')+1≤m→Calls prog 160 #[p.ptr] w (PSpec w D p k' (pSingle m (p.ts k'))))
  (ihC:∀(w:World)(D:Gh)(k' m:Nat)[Keeps D w][PS w D p k'][TS D p],k<k'→m≤n→2*(p.toks.length-k')+2≤m→Calls prog 113 #[p.ptr] w (PSpec w D p k' (pConcept m (p.ts k'))))
  [Keeps D w] [hP:PS w D p k] [hT:TS D p]:Calls prog 160 #[p.ptr] w (PSpec w D p k (pSingle (n+1) (p.ts k))):=by
 have hlt:=hP.lt
 unfold pSingle
 by_cases h1:hd (p.ts k)=w_everything
 ·rw[if_pos h1,p.tail_ts];exact(single_top w D p k h1)
 by_cases h2:hd (p.ts k)=w_nothing
 ·rw[if_neg h1,if_pos h2,p.tail_ts];exact(single_bot w D p k h2)
 by_cases h3:hd (p.ts k)=[123]
 ·rw[if_neg h1,if_neg h2,if_pos h3,p.tail_ts]
  cases hn:pName (p.ts (k+1))with
  |none=>exact single_nom1 w D p k h3 hn
  |some x=>
   obtain⟨s,r⟩:=x
   obtain rfl:r=p.ts (k+1+1):=(pName_some hn).choose_spec.2.2.2.2.2
   simp only[Option.bind_some,wantT,p.tail_ts]
   by_cases h4:hd (p.ts (k+1+1))=[125]
   ·rw[if_pos h4];exact single_nom w D p k h3 s _ hn h4
   ·rw[if_neg h4];exact single_nom2 w D p k h3 s _ hn h4
 by_cases h4:hd (p.ts k)=w_some
 ·rw[if_neg h1,if_neg h2,if_neg h3,if_pos h4,p.tail_ts]
  cases hn:pName (p.ts (k+1))with
  |none=>exact single_some1 w D p k h4 hn
  |some x=>
   obtain⟨s,r⟩:=x
   have hl2:=pName_low hn
   obtain rfl:r=p.ts (k+1+1):=(pName_some hn).choose_spec.2.2.2.2.2
   have ih:∀(w:World)(D:Gh)[Keeps D w][PS w D p (k+1+1)][TS D p],Calls prog 160 #[p.ptr] w (PSpec w D p (k+1+1) (pSingle n (p.ts (k+1+1)))):=fun w D _ _ _=>ihS w D (k+1+1) n (by omega) (Nat.le_refl _) (by omega)
   simp only[Option.bind_some]
   cases hs:pSingle n (p.ts (k+1+1))with
   |none=>exact single_some2 w D p k h4 s _ hn (fun w D _ _ _=>(ih w D).mono fun e w' q=>q.no hs)
   |some y=>exact single_some w D p k h4 s _ y.2 y.1 hn (fun w D _ _ _=>(ih w D).mono fun e w' q=>q.ok hs)
 by_cases h5:hd (p.ts k)=[40]
 ·rw[if_neg h1,if_neg h2,if_neg h3,if_neg h4,if_pos h5,p.tail_ts]
  have ih:∀(w:World)(D:Gh)[Keeps D w][PS w D p (k+1)][TS D p],Calls prog 113 #[p.ptr] w (PSpec w D p (k+1) (pConcept n (p.ts (k+1)))):=fun w D _ _ _=>ihC w D (k+1) n (by omega) (Nat.le_refl _) (by omega)
  cases hs:pConcept n (p.ts (k+1))with
  |none=>exact single_par2 w D p k h5 (fun w D _ _ _=>(ih w D).mono fun e w' q=>q.no hs)
  |some y=>
   simp only[Option.bind_some,wantT]
   by_cases h6:hd y.2=[41]
   ·rw[if_pos h6];exact single_par w D p k h5 y.2 y.1 h6 (fun w D _ _ _=>(ih w D).mono fun e w' q=>q.ok hs)
   ·rw[if_neg h6];exact single_par1 w D p k h5 y.2 y.1 h6 (fun w D _ _ _=>(ih w D).mono fun e w' q=>q.ok hs)
 rw[if_neg h1,if_neg h2,if_neg h3,if_neg h4,if_neg h5]
 have hno:=And.intro h1 (And.intro h2 (And.intro h3 (And.intro h4 h5)))
 cases hn:pName (p.ts k)with
 |none=>exact single_name1 w D p k hno hn
 |some x=>
  obtain⟨s,r⟩:=x
  obtain rfl:r=p.ts (k+1):=(pName_some hn).choose_spec.2.2.2.2.2
  simp only[Option.bind_some,p.tail_ts]
  by_cases h6:hd (p.ts (k+1))=w_in
  ·rw[if_pos h6]
   cases hlo:pNum (-maxN) (p.ts (k+1+1))with
   |none=>exact single_rng1 w D p k hno s _ hn h6 hlo
   |some x=>
    obtain⟨lo,r⟩:=x
    obtain rfl:=pNum_rest hlo
    simp only[Option.bind_some,wantT,p.tail_ts]
    by_cases h7:hd (p.ts (k+1+1+1))=w_to
    ·rw[if_pos h7]
     simp only[Option.bind_some]
     cases hhi:pNum lo (p.ts (k+1+1+1+1))with
     |none=>exact single_rng3 w D p k hno s _ hn h6 lo _ hlo h7 hhi
     |some x=>
      obtain⟨hi,r⟩:=x
      obtain rfl:=pNum_rest hhi
      exact single_rng w D p k hno s _ hn h6 lo _ hlo h7 hi _ hhi
    ·rw[if_neg h7];exact single_rng2 w D p k hno s _ hn h6 lo _ hlo h7
  ·rw[if_neg h6];exact single_named w D p k hno s _ hn h6
theorem single_all(n:Nat):∀(w:World)(D:Gh)(p:PC)(k:Nat)[Keeps D w][PS w D p k][TS D p],2*(p.toks.length-k)+1≤n→Calls prog 160 #[p.ptr] w (PSpec w D p k (pSingle n (p.ts k))):=by
 induction n using Nat.strongRecOn with
 |_ n ih=>
  intro w D p k _ hP _ hf
  obtain⟨n,rfl⟩:∃m,n=m+1:=⟨n-1,by omega⟩
  refine single_s n w D p k hf (fun w D k' m _ _ _ _ hm h=>ih m (by omega) w D p k' h) (fun w D k' m _ _ _ _ hm h=>?_)
  obtain⟨m,rfl⟩:∃m',m=m'+1:=⟨m-1,by omega⟩
  exact concept_s m w D p k' (by omega) (fun w D k2 m2 _ _ _ _ hm2 h2=>ih m2 (by omega) w D p k2 h2)
theorem concept_c(n:Nat)(w:World)(D:Gh)(p:PC)(k:Nat)[Keeps D w][PS w D p k][TS D p](hf:2*(p.toks.length-k)+2≤n):Calls prog 113 #[p.ptr] w (PSpec w D p k (pConcept n (p.ts k))):=by
 obtain⟨n,rfl⟩:∃m,n=m+1:=⟨n-1,by omega⟩
 exact concept_s n w D p k (by omega) (fun w D k' m _ _ _ _ _ h=>single_all m w D p k' h)
end Go.Proofs.YticgonfhjcaohaaGreatDoor
namespace Go.Proofs.YticgonfhjcaohaaGreatDoor
open Go.RowKit Go.VT _root_.Go.Proofs.Tryz
theorem same_s(n:Nat)(w:World)(D:Gh)(c:C)(a a2:Option Addr)(len m len2 m2:Nat)(hn:c.size≤n+1)
  (ih:∀(w:World)(D:Gh)(c:C)(a a2:Option Addr)(len m len2 m2:Nat),c.size≤n→PV D c.parts (.slice a len m)→PV D c.parts (.slice a2 len2 m2)→∀[Keeps D w],
   Calls prog 22 #[cv c (.slice a len m),cv c (.slice a2 len2 m2)] w fun e w'=>e=.returned (.bool true)∧Cll none w w')
  (hp:PV D c.parts (.slice a len m)) (hp2:PV D c.parts (.slice a2 len2 m2)) [Keeps D w]:
  Calls prog 22 #[cv c (.slice a len m),cv c (.slice a2 len2 m2)] w fun e w'=>e=.returned (.bool true)∧Cll none w w':=by
 obtain⟨hlen,hm1,hm2⟩:=PV_len hp
 obtain⟨hlen2,hm21,hm22⟩:=PV_len hp2
 obtain rfl:len2=len:=by omega
 have hsp:=c.size_parts
 have IH:=hid ih
 clear ih
 have HS:=hid hsp
 have HL:=hid hlen
 clear hsp hlen hlen2
 go_enter func22,ntmps22
 go_wp2_with fail
 have hz2:(w.alloc (.cells #[.int .i64 c.kind,.string (str c.nm),.int .i64 c.lo,.int .i64 c.hi,.slice a len2 m] 31)).heap.size=w.heap.size+1:=by simp
 have hA1:Box ((w.alloc (.cells #[.int .i64 c.kind,.string (str c.nm),.int .i64 c.lo,.int .i64 c.hi,.slice a len2 m] 31)).alloc (.cells #[.int .i64 c.kind,.string (str c.nm),.int .i64 c.lo,.int .i64 c.hi,.slice a2 len2 m2] 31)) D w.heap.size 31 #[.int .i64 c.kind,.string (str c.nm),.int .i64 c.lo,.int .i64 c.hi,.slice a len2 m]:=ii
 have hA2:Box ((w.alloc (.cells #[.int .i64 c.kind,.string (str c.nm),.int .i64 c.lo,.int .i64 c.hi,.slice a len2 m] 31)).alloc (.cells #[.int .i64 c.kind,.string (str c.nm),.int .i64 c.lo,.int .i64 c.hi,.slice a2 len2 m2] 31)) D (w.heap.size+1) 31 #[.int .i64 c.kind,.string (str c.nm),.int .i64 c.lo,.int .i64 c.hi,.slice a2 len2 m2]:=Box.newAt hz2
 go_loopg [5] len2 (fun gk v wr=>∃i:Nat,v=.int .i64 i∧gk+i=len2∧Gr none w D wr D∧Box wr D w.heap.size 31 #[.int .i64 c.kind,.string (str c.nm),.int .i64 c.lo,.int .i64 c.hi,.slice a len2 m]∧Box wr D (w.heap.size+1) 31 #[.int .i64 c.kind,.string (str c.nm),.int .i64 c.lo,.int .i64 c.hi,.slice a2 len2 m2])
 case atStart=>exact⟨0,rfl,rfl,ii,hA1,hA2⟩
 case round=>
  clear hA1 hA2 hz2
  obtain⟨i,rfl,hgk,hG,hB1,hB2⟩:=hrel
  have:=hG.keeps
  have hle:=hG.bl.size
  have t1:=hB1.held (i:=4) rfl
  have t2:=hB2.held (i:=4) rfl
  by_cases hi:i<len2
  ·obtain⟨c',b,o,a',n',m',hj,rfl,rfl,hp',r0,r1,r2,r3,r4,r5⟩:=PV_elem (w:=wr) hp (i:=i) (by rw[←HL.out];exact hi)
   obtain⟨c2,b2,o2,a2',n2',m2',hj2,e1,e2,hp2',s0,s1,s2,s3,s4,s5⟩:=PV_elem (w:=wr) hp2 (i:=i) (by rw[←HL.out];exact hi)
   obtain rfl:c2=c':=by rw[hj]at hj2;exact(Option.some.inj hj2).symm
   subst e1 e2
   have HJ:=hid hj
   clear hj hj2
   have hi':(i:Int)<(len2:Int):=by omega
   repeat((fail_if_success (with_reducible show Code.wp _ (Code.region 6 _ _) _ _ _));go_step)
   refine wp_region_still_tail 10 (by kernel_rfl) (by kernel_rfl) ?_
   simp only[List.take_succ_cons,List.take_zero,List.drop_succ_cons,List.drop_zero]
   repeat still_step
   refine wpStill_nil ?_
   change wpList _ _ _ _ _ wr.drew
   go_wp2_with fail
   have hc':c2.size≤n:=by
    have h1:=sizeL_at _ _ _ HJ.out
    have h2:=HS.out
    omega
   refine(IH.out _ D c2 a' a2' _ _ _ _ hc' hp' hp2').mono ?_
   rintro e w3 ⟨rfl,hc3⟩
   go_wp2_with fail
   go_roundg (gk-1)
   case measure=>omega
   case rel=>exact⟨i+1,by simp,by omega,ii,ii,ii⟩
  ·go_wp2_with fail
   go_ret
   have:=hG.toBel
   exact⟨rfl,Bel.c⟩
theorem same_c(w:World)(D:Gh)(c:C)(a a2:Option Addr)(len m len2 m2:Nat)(hp:PV D c.parts (.slice a len m))(hp2:PV D c.parts (.slice a2 len2 m2))[Keeps D w]:
  Calls prog 22 #[cv c (.slice a len m),cv c (.slice a2 len2 m2)] w fun e w'=>e=.returned (.bool true)∧Cll none w w':=by
 suffices h:∀(n:Nat)(w:World)(D:Gh)(c:C)(a a2:Option Addr)(len m len2 m2:Nat),c.size≤n→PV D c.parts (.slice a len m)→PV D c.parts (.slice a2 len2 m2)→∀[Keeps D w],
   Calls prog 22 #[cv c (.slice a len m),cv c (.slice a2 len2 m2)] w fun e w'=>e=.returned (.bool true)∧Cll none w w' from
  h c.size w D c a a2 len m len2 m2 (Nat.le_refl _) hp hp2
 intro n
 induction n with
 |zero=>intro w D c a a2 len m len2 m2 hn;have:=C.size_pos c;omega
 |succ n ih=>intro w D c a a2 len m len2 m2 hn hp hp2 hk;exact same_s n w D c a a2 len m len2 m2 hn (fun w D c a a2 len m len2 m2 hn hp hp2 hk=>ih w D c a a2 len m len2 m2 hn hp hp2) hp hp2
end Go.Proofs.YticgonfhjcaohaaGreatDoor
