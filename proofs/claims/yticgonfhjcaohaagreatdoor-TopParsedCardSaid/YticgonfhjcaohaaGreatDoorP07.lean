/- TopParsed, part 7. -/
import Derived.RangeFuncWrites
import Derived.RangeFuncCalls
import Derived.Shelf.SlIter.Nil
import Derived.Shelf.SortM.Plain
import Derived.Shelf.SortM.SortNone
import Derived.Test.YticgonfhjcaohaaGreatDoorP03
set_option maxRecDepth 100000
set_option maxHeartbeats 32000000
namespace Go.VT
open Go.RowKit
def SeqV{α:Type}(P:Program)(g:Nat)(lb:Array Value)(Rd:α→Value→Prop)(xs:List α)(D0:Gh):Prop:=
 ∀(l:Nat)(J Jx:List α→Gh→World→Prop)(W:World)(D:Gh),Le D0 D→
  (∀s D W,J s D W→Keeps D W)→
  (∀s D W D' W',J s D W→Gro none W D W' D'→J s D' W')→
  (∀s D W D' W',Jx s D W→Gro none W D W' D'→Jx s D' W')→
  (∀pre x D1 W1 v,J pre D1 W1→(pre++[x])<+:xs→Rd x v→YieldAt Fence.wide 0 P l #[v] W1 fun e W'=>
   (e=.returned (.bool true)∧∃D',Le D1 D'∧J (pre++[x]) D' W')∨(e=.returned (.bool false)∧∃D',Le D1 D'∧Jx (pre++[x]) D' W'))→
  J [] D W→
  Calls P g (#[.func (.yield l) #[] #[]]++lb) W fun e W'=>(∃v,e=.returned v)∧((∃D',Le D D'∧J xs D' W')∨(∃pre D',Le D D'∧pre<+:xs∧Jx pre D' W'))
def roundV{α:Type}(B:Nat)(I:List α→Gh→World→Prop)(Ix:Code→List α→Gh→World→Prop)(xs:List α)(D1:Gh)(W:World):Exit→Act→World→Prop
 |.normal,_,W'=>KeepsFrom B W W'∧∃D',Le D1 D'∧I xs D' W'
 |.ret,_,W'=>KeepsFrom B W W'∧∃D',Le D1 D'∧Ix .ret xs D' W'
 |.exit id,_,W'=>KeepsFrom B W W'∧∃D',Le D1 D'∧Ix (.exit id) xs D' W'
 |.goto t,_,W'=>KeepsFrom B W W'∧∃D',Le D1 D'∧Ix (.goto t) xs D' W'
 |.panic _,_,_=>False
 |.outgrown,_,_=>False
theorem wideDepth(n:Nat):Fence.wide.depth.isSome=true→1≤n:=fun h=>by simp[Fence.wide]at h
theorem wp_rangeFunc_V{α:Type}{P:Program}{g:Operand}{p:Tmp}{assign body:Code}{Q:Exit→Act→World→Prop}{a:Act}{w:World}{gf:Nat}{lb:Array Value}
  {Rd:α→Value→Prop} {recs:List α} {D0 D:Gh}
  (hg:a.eval g=.func (.func gf) #[] lb) (eg:∀args w,(callFunc gf args).run P w=.ok (.enter gf args) w)
  (hseq:SeqV P gf lb Rd recs D0) (hD:Le D0 D)
  (I:List α→Gh→World→Prop) (Ix:Code→List α→Gh→World→Prop)
  (hK:∀s D W,I s D W→Keeps D W)
  (hI:∀s D W D' W',I s D W→Gro none W D W' D'→I s D' W')
  (hIc:∀c s D W D' W',Ix c s D W→Gro none W D W' D'→Ix c s D' W')
  (hIp:∀s D W l o o',I s D W→w.heap.size≤l→W.heap[l]? =some o→o.isCells=false→I s D (W.putObj l o'))
  (hIx:∀c s D W l o o',Ix c s D W→w.heap.size≤l→W.heap[l]? =some o→o.isCells=false→Ix c s D (W.putObj l o'))
  (h0:I [] D w) (A1:List α→α→Value→Gh→Act→World→Prop)
  (hAp:∀pre x v D1 a1 W l o o',A1 pre x v D1 a1 W→w.heap.size≤l→W.heap[l]? =some o→o.isCells=false→A1 pre x v D1 a1 (W.putObj l o'))
  (hassign:∀(l:Nat)(pre:List α)(x:α)(v:Value)(D1:Gh)(W:World)(K:Act→World→Prop),I pre D1 W→Rd x v→(pre++[x])<+:recs→(∀a1 W',KeepsFrom w.heap.size W W'→A1 pre x v D1 a1 W'→K a1 W')→
   assign.wpIn (Fence.wide.inRound l) 0 P (Exit.then K (fun _ _ _=>False)) {tmps:=a.tmps.setIfInBounds p v,defers:=[]} W)
  (hbody:∀(l:Nat)(pre:List α)(x:α)(v:Value)(D1:Gh)(a1:Act)(W:World),A1 pre x v D1 a1 W→(pre++[x])<+:recs→Rd x v→
   body.wpIn (Fence.wide.inRound l) 0 P (roundV w.heap.size I Ix (pre++[x]) D1 W) a1 W)
  (hdone:∀(L:Nat)(D':Gh)(W:World),I recs D' W→Le D D'→w.heap.size≤L→W.heap[L]? =some (.deferred (some []))→Q .normal {a with defers:={target:=.collected L,args:=#[]}::a.defers} W)
  (hstop:∀(L:Nat)(c:Code)(pre:List α)(D':Gh)(W:World),pre<+:recs→Ix c pre D' W→Le D D'→w.heap.size≤L→W.heap[L]? =some (.deferred (some []))→
   c.wp P Q {a with defers:={target:=.collected L,args:=#[]}::a.defers} W):
  (Code.rangeFunc g #[p] assign body).wp P Q a w:=by
 refine(wpIn_wide (n:=0)).1 (wpIn_rangeFunc ?_)
 intro fn hfn
 obtain⟨rec,hrec⟩:∃rec:LoopState→Option Code→Loop,rec=fun st pe=>{state:=st,pending:=pe,fn,tmps:=a.tmps,params:=#[p],assign,body,defers:=w.heap.size}:=⟨_,rfl⟩
 obtain⟨W1,hW1⟩:∃W1,(w.alloc (.deferred (some []))).alloc (.loop (rec .ready none))=W1:=⟨_,rfl⟩
 have hL1:W1.heap[w.heap.size+1]? =some (.loop (rec .ready none)):=by
  rw[←hW1];have:=World.alloc_heap_new (w.alloc (.deferred (some []))) (.loop (rec .ready none));rwa[World.size_alloc]at this
 have hK1:W1.heap[w.heap.size]? =some (.deferred (some [])):=by
  rw[←hW1];exact(Below.heap_alloc _ _ _ (by simp)).trans (World.alloc_heap_new w _)
 have hgr:Gro none w D W1 D:=by rw[←hW1];have:=hK _ _ _ h0;exact Gr.g
 have hI1:I [] D W1:=hI _ _ _ _ _ h0 hgr
 refine⟨w.heap.size+1,[{target:=.collected w.heap.size,args:=#[]}],W1,{target:=.fn (.func gf) lb,args:=#[.func (.yield (w.heap.size+1)) #[] #[]]},W1,gf,
  #[.func (.yield (w.heap.size+1)) #[] #[]]++lb,W1,?_,?_,?_,?_,wideDepth _,?_⟩
 ·rw[←hW1,hrec];exact run_enterLoop_outer _ _ _ _ _
 ·simp only[resolve,hg]
  simp[go_sem]
 ·intro f' _;trivial
 ·simp[invoke,go_sem,eg]
 ·refine callsIn_wide.2 ?_
  refine(hseq (w.heap.size+1)
   (fun pre D W=>I pre D W∧W.heap[w.heap.size+1]? =some (.loop (rec .ready none))∧W.heap[w.heap.size]? =some (.deferred (some [])))
   (fun pre D W=>∃c,Ix c pre D W∧W.heap[w.heap.size+1]? =some (.loop (rec .done (some c)))∧W.heap[w.heap.size]? =some (.deferred (some [])))
   W1 D hD (fun s D W h=>hK s D W h.1)
   (fun s D W D' W' h hc=>⟨hI s D W D' W' h.1 hc,(hc.bl.block _ (Array.getElem?_eq_some_iff.1 h.2.1).1 (by simp)).trans h.2.1,(hc.bl.block _ (Array.getElem?_eq_some_iff.1 h.2.2).1 (by simp)).trans h.2.2⟩)
   (fun s D W D' W' h hc=>let⟨c,h1,h2,h3⟩:=h;⟨c,hIc c s D W D' W' h1 hc,(hc.bl.block _ (Array.getElem?_eq_some_iff.1 h2).1 (by simp)).trans h2,(hc.bl.block _ (Array.getElem?_eq_some_iff.1 h3).1 (by simp)).trans h3⟩)
   ?_ ⟨hI1,hL1,hK1⟩).mono ?_
  ·rintro pre x D1 W v ⟨hi,hl,hk⟩ hpre hv
   have hy:=run_yield (P:=P) (args:=#[v]) hl (by rw[hrec];rfl)
   rw[hrec]at hy
   refine⟨fn,_,assign,body,hy,roundIn_of_wpIn hfn ?_⟩
   have hz:((#[p]:Array Tmp).zip #[v]).foldl (fun t(x:Tmp×Value)=>t.setIfInBounds x.1 x.2) a.tmps=a.tmps.setIfInBounds p v:=by
    simp
   refine Eq.mp (congrArg (fun t=>Code.wpIn (Fence.wide.inRound (w.heap.size+1)) 0 P assign _ {tmps:=t,defers:=[]} W) hz.symm) (hassign _ pre x v D1 W _ hi hv hpre ?_)
   intro a1 W2 hkf hA
   have hl':W2.heap[w.heap.size+1]? =some (.loop (rec .ready none)):=hkf.same _ _ (by omega) hl rfl
   have hk':W2.heap[w.heap.size]? =some (.deferred (some [])):=hkf.same _ _ (by omega) hk rfl
   have hlt:w.heap.size+1<W2.heap.size:=(Array.getElem?_eq_some_iff.1 hl').1
   refine⟨_,run_beginRound hl' (by rw[hrec]),?_⟩
   have hl2:(W2.putObj (w.heap.size+1) (.loop {rec .ready none with state:=.busy})).heap[w.heap.size+1]? =some (.loop {rec .ready none with state:=.busy}):=World.putObj_heap_same hlt
   have hk2:(W2.putObj (w.heap.size+1) (.loop {rec .ready none with state:=.busy})).heap[w.heap.size]? =some (.deferred (some [])):=(World.putObj_heap_other (by omega)).trans hk'
   refine wpIn_mono (hbody _ pre x v D1 a1 _ (hAp _ _ _ _ _ _ _ _ _ hA (by omega) hl' rfl) hpre hv) ?_
   have fin:∀(jump:Option Code)(W3:World),KeepsFrom w.heap.size (W2.putObj (w.heap.size+1) (.loop {rec .ready none with state:=.busy})) W3→
     (Instr.endRound (w.heap.size+1) jump).run P W3=.ok (.bool jump.isNone) (W3.putObj (w.heap.size+1) (.loop (rec (if jump.isNone then .ready else .done) jump)))∧
     W3.heap[w.heap.size+1]? =some (.loop {rec .ready none with state:=.busy})∧
     (W3.putObj (w.heap.size+1) (.loop (rec (if jump.isNone then .ready else .done) jump))).heap[w.heap.size+1]? =some (.loop (rec (if jump.isNone then .ready else .done) jump))∧
     (W3.putObj (w.heap.size+1) (.loop (rec (if jump.isNone then .ready else .done) jump))).heap[w.heap.size]? =some (.deferred (some [])):=fun jump W3 hk3=>by
    have hl3:=hk3.same _ _ (by omega) hl2 rfl
    have:=run_endRound (P:=P) jump hl3
    rw[hrec]at this⊢
    exact⟨this,by rw[hrec]at hl3;exact hl3,World.putObj_heap_same (Array.getElem?_eq_some_iff.1 hl3).1,(World.putObj_heap_other (by omega)).trans (hk3.same _ _ (by omega) hk2 rfl)⟩
   rintro e a3 W3 hp
   cases e with
   |normal=>
    obtain⟨hk3,D2,hd,hi3⟩:=hp
    obtain⟨hr,hl3,hl4,hk4⟩:=fin none W3 hk3
    exact⟨_,_,hr,.inl ⟨rfl,D2,hd,hIp _ _ _ _ _ _ hi3 (by omega) hl3 rfl,hl4,hk4⟩⟩
   |ret=>
    obtain⟨hk3,D2,hd,hi3⟩:=hp
    obtain⟨hr,hl3,hl4,hk4⟩:=fin (some .ret) W3 hk3
    exact⟨_,_,hr,.inr ⟨rfl,D2,hd,.ret,hIx _ _ _ _ _ _ _ hi3 (by omega) hl3 rfl,hl4,hk4⟩⟩
   |exit id=>
    obtain⟨hk3,D2,hd,hi3⟩:=hp
    obtain⟨hr,hl3,hl4,hk4⟩:=fin (some (.exit id)) W3 hk3
    exact⟨_,_,hr,.inr ⟨rfl,D2,hd,.exit id,hIx _ _ _ _ _ _ _ hi3 (by omega) hl3 rfl,hl4,hk4⟩⟩
   |goto t=>
    obtain⟨hk3,D2,hd,hi3⟩:=hp
    obtain⟨hr,hl3,hl4,hk4⟩:=fin (some (.goto t)) W3 hk3
    exact⟨_,_,hr,.inr ⟨rfl,D2,hd,.goto t,hIx _ _ _ _ _ _ _ hi3 (by omega) hl3 rfl,hl4,hk4⟩⟩
   |panic ch=>exact hp.elim
   |outgrown=>exact hp.elim
  ·rintro e W2 ⟨⟨v,rfl⟩,(⟨D2,hd,hi,hl,hk⟩|⟨pre,D2,hd,hpre,c,hi,hl,hk⟩)⟩
   ·exact⟨none,_,by have:=run_endLoop (P:=P) hl (by rw[hrec];simp);rw[hrec]at this;exact this,hdone _ D2 _ (hIp _ _ _ _ _ _ hi (by omega) hl rfl) hd (Nat.le_refl _) ((World.putObj_heap_other (by omega)).trans hk)⟩
   ·exact⟨some c,_,by have:=run_endLoop (P:=P) hl (by rw[hrec];simp);rw[hrec]at this;exact this,(wpIn_wide (n:=0)).2 (hstop _ c pre D2 _ hpre (hIx _ _ _ _ _ _ _ hi (by omega) hl rfl) hd (Nat.le_refl _) ((World.putObj_heap_other (by omega)).trans hk))⟩
theorem calls_of_marks{P:Program}{f:FuncId}{fn:Func}{c:Code}{args:Array Value}{w:World}{R:Ending→World→Prop}
  (hf:P.funcs[f]? =some fn) (hb:fn.body=some c)
  (h:c.wp P (bodyPostM Fence.wide 0 P fn R) {tmps:=args++Array.replicate (fn.ntmps-args.size) undef,defers:=[]} w):Calls P f args w R:=
 (callsIn_wide (n:=0)).1 (callsIn_of_wp_marks hf hb trivial ((wpIn_wide (n:=0)).2 h) rfl)
theorem marks_ret{P:Program}{fn:Func}{R:Ending→World→Prop}{tmps:Array Value}{L:Nat}{W:World}{v:Value}(hWL:W.heap[L]? =some (.deferred (some [])))
  (hr:(results fn tmps).run P (W.putObj L (.deferred none))=.ok v (W.putObj L (.deferred none))) (hR:R (.returned v) (W.putObj L (.deferred none))):
  bodyPostM Fence.wide 0 P fn R .ret {tmps:=tmps,defers:=[{target:=.collected L,args:=#[]}]} W:=
 ⟨by simp,.inl ⟨_,_,rfl,run_takeDeferred hWL,v,hr,hR⟩⟩
theorem Keeps.put{D:Gh}{W:World}(h:Keeps D W){l:Nat}{o:Obj}(o':Obj)(hl:W.heap[l]? =some o)(ho:o.isCells=false):Keeps D (W.putObj l o'):=⟨fun b i v e=>by
 have hc:=h.out b i v e
 obtain⟨ob,hb,hcc⟩:=cells_of_cell hc
 have hne:b≠l:=by rintro rfl;rw[show W.heap[b]? =_ from hb]at hl;cases hl;rw[hcc]at ho;cases ho
 exact(World.cell?_of_block (a:=⟨b,i,none⟩) (World.putObj_heap_other hne)).trans hc⟩
theorem Box.put{W:World}{D:Gh}{g:Nat}{t:TypeId}{cs:Array Value}(h:Box W D g t cs){l:Nat}{o:Obj}(o':Obj)(hl:W.heap[l]? =some o)(ho:o.isCells=false):Box (W.putObj l o') D g t cs:=
 ⟨(World.putObj_heap_other (by rintro rfl;rw[h.heap]at hl;cases hl;cases ho)).trans h.heap,h.off⟩
theorem Bl.put{X:Option Nat}{w W:World}{l:Nat}(h:Bl X w W)(hl:w.heap.size≤l)(o':Obj):Bl X w (W.putObj l o'):=
 ⟨h.os,h.tape,h.output,by simpa using h.size,fun i hi hx=>(World.putObj_heap_other (by omega)).trans (h.block i hi hx)⟩
theorem prefix_snoc{α:Type}{pre rs:List α}{x:α}(h:pre<+:rs):pre++[x]<+:rs↔rs[pre.length]? =some x:=by
 obtain⟨r,rfl⟩:=h
 rw[List.prefix_append_right_inj]
 cases r with
 |nil=>simp
 |cons y r=>simp[eq_comm]
theorem KeepsFrom.cll{B:Nat}{X:Option Nat}{W W':World}(h:Cll X W W')(hX:∀j,X=some j→j<B):KeepsFrom B W W':=
 ⟨h.out.size,fun k o hB hk _=>(h.out.block k (Array.getElem?_eq_some_iff.1 hk).1 (fun e=>by have:=hX k e.symm;omega)).trans hk⟩
theorem neLt{a b:Nat}(h:a<b):NeX b (some a):=⟨fun e=>by have:=Option.some.inj e;omega⟩
theorem neGt{a b:Nat}(h:a<b):NeX a (some b):=⟨fun e=>by have:=Option.some.inj e;omega⟩
end Go.VT
namespace Go.Proofs.YticgonfhjcaohaaGreatDoor
open Go.RowKit Go.VT _root_.Go.Proofs.Tryz
structure MS(w:World)(m n:Nat)(S:List Bs):Prop where
 out:∃D:DataW Unit,w.ownsMap prog 9 (plainElem prog 4) m n D∧∀s:Bs,s.length≤maxLen→(Maps.has D (.string s)=true↔s∈S)
section
variable{w w':World}{m n:Nat}{S:List Bs}
theorem MS.lt(h:MS w m n S):m<w.heap.size:=by
 obtain⟨D,h,_⟩:=h.out
 exact h.lt
theorem MS.of(h:MS w m n S)(e:w'.heap[m]? =w.heap[m]?):MS w' m n S:=by
 obtain⟨D,⟨es,c,h1,h2⟩,h3⟩:=h.out
 exact⟨D,⟨es,c,e.trans h1,h2⟩,h3⟩
theorem MS.new(w:World):MS (w.alloc (.map #[] 0)) w.heap.size 0 []:=⟨_,World.ownsMap_made w _ _ _,fun s _=>by simp[Maps.has]⟩
theorem MS.cll{X:Option Nat}(h:MS w m n S)(hc:Cll X w w')(hn:some m≠X):MS w' m n S:=h.of (hc.out.block m h.lt hn)
theorem MS.put_{l:Nat}(o':Obj)(h:MS w m n S)(hl:m≠l):MS (w.putObj l o') m n S:=h.of (World.putObj_heap_other (fun e=>hl e))
theorem MS.perm{S':List Bs}(h:MS w m n S)(hs:∀s,s∈S↔s∈S'):MS w m n S':=by
 obtain⟨D,h1,h2⟩:=h.out
 exact⟨D,h1,fun s hl=>(h2 s hl).trans (hs s)⟩
theorem str_size_(a:Bs):(str a).size=a.length:=by simp[str,ByteArray.size]
theorem MS.upd(h:MS w m n S)(s:Bs)(hs:s.length≤maxLen)(hn:n<maxLen):∃w',(Instr.mapUpdate 89 (.map (some m)) (.string (str s)) (.bool true)).run prog w=.ok () w'∧MS w' m (n+1) (S++[s])∧Cll (some m) w w':=by
 obtain⟨D,h1,h2⟩:=h.out
 have K:Maps.Keyed prog 9:=Maps.string_keyed underlying9
 obtain⟨w',hr,ho,hg⟩:=h1.update (t:=89) (e:=4) (d:=.lit (.bool true)) (ps:=[]) K underlying89 hn (WideMaps.keyOf_string_mk underlying9 (by rw[str_size_];exact hs)) (plainElem_bool underlying4 true)
 refine⟨w',hr,⟨_,ho,fun t ht=>?_⟩,⟨Bl.grown hg⟩⟩
 show Maps.has (D.put (.string s) _) (.string t)=true↔_
 by_cases e:t=s
 ·subst e
  have:=Maps.has_put_same h1.isMap (k:=.string t) trivial (.lit (.bool true))
  rw[this];simp
 ·rw[Maps.has_put_other (fun q=>e (by injection q))]
  rw[h2 t ht]
  simp[e]
theorem MS.del(h:MS w m n S)(s:Bs)(hs:s.length≤maxLen)(ty:TypeId):∃w',(Builtin.delete_ #[89,9] ty #[.map (some m),.string (str s)]).run prog w=.ok (.tuple #[]) w'∧MS w' m n (S.filter (· != s))∧Cll (some m) w w':=by
 obtain⟨D,h1,h2⟩:=h.out
 have K:Maps.Keyed prog 9:=Maps.string_keyed underlying9
 obtain⟨w',hr,ho,hg⟩:=h1.drop (t:=89) (e:=4) K underlying89 (WideMaps.keyOf_string_mk underlying9 (by rw[str_size_];exact hs)) ty
 refine⟨w',hr,⟨_,ho,fun t ht=>?_⟩,⟨Bl.grown hg.grown⟩⟩
 show Maps.has (D.del (.string s)) (.string t)=true↔_
 by_cases e:t=s
 ·subst e
  rw[Maps.has_del_same];simp
 ·rw[Maps.has_del_other (fun q=>e (by injection q))]
  rw[h2 t ht]
  simp[e]
end
def mark(L:Nat):Deferred:={target:=.collected L,args:=#[]}
structure Dfs(B:Nat)(W:World)(ds:List Deferred):Prop where
 out:∃Ls:List Nat,ds=Ls.map mark∧Ls.Nodup∧∀L∈Ls,B≤L∧W.heap[L]? =some (.deferred (some []))
theorem Dfs.nil(B:Nat)(W:World):Dfs B W []:=⟨[],rfl,.nil,by simp⟩
theorem Dfs.cll{B:Nat}{W W':World}{ds:List Deferred}{X:Option Nat}(h:Dfs B W ds)(hc:Cll X W W')(hX:∀m,X=some m→m<B):Dfs B W' ds:=by
 obtain⟨Ls,h1,h2,h3⟩:=h.out
 refine⟨Ls,h1,h2,fun L hL=>⟨(h3 L hL).1,(hc.out.block L ?_ ?_).trans (h3 L hL).2⟩⟩
 ·exact(Array.getElem?_eq_some_iff.1 (h3 L hL).2).1
 ·intro e;have:=hX L e.symm;have:=(h3 L hL).1;omega
theorem Dfs.lt{B:Nat}{W:World}{ds:List Deferred}(h:Dfs B W ds){n:Nat}(hn:n=W.heap.size):∃Ls:List Nat,ds=Ls.map mark∧Ls.Nodup∧∀L∈Ls,B≤L∧L<n:=by
 obtain⟨Ls,h1,h2,h3⟩:=h.out
 exact⟨Ls,h1,h2,fun L hL=>⟨(h3 L hL).1,by rw[hn];exact(Array.getElem?_eq_some_iff.1 (h3 L hL).2).1⟩⟩
theorem Dfs.from{B C:Nat}{W W':World}{ds:List Deferred}(h:Dfs B W ds)(hk:KeepsFrom C W W')(hC:C≤B):Dfs B W' ds:=by
 obtain⟨Ls,h1,h2,h3⟩:=h.out
 exact⟨Ls,h1,h2,fun L hL=>⟨(h3 L hL).1,hk.same L _ (by have:=(h3 L hL).1;omega) (h3 L hL).2 rfl⟩⟩
theorem Dfs.put{B:Nat}{W:World}{ds:List Deferred}(h:Dfs B W ds){l:Nat}(o':Obj)(hl:∀L:Nat,mark L∈ds→L≠l):Dfs B (W.putObj l o') ds:=by
 obtain⟨Ls,h1,h2,h3⟩:=h.out
 exact⟨Ls,h1,h2,fun L hL=>⟨(h3 L hL).1,(World.putObj_heap_other (hl L (by rw[h1];exact List.mem_map_of_mem hL))).trans (h3 L hL).2⟩⟩
theorem mark_inj{a b:Nat}(h:mark a=mark b):a=b:=by unfold mark at h;injection h with h _;injection h
theorem Dfs.add{B:Nat}{W:World}{ds:List Deferred}(h:Dfs B W ds){L:Nat}(hB:B≤L)(hL:W.heap[L]? =some (.deferred (some [])))(hn:∀k:Nat,mark k∈ds→k≠L):Dfs B W ({target:=.collected L,args:=#[]}::ds):=by
 obtain⟨Ls,h1,h2,h3⟩:=h.out
 refine⟨L::Ls,by rw[h1];rfl,List.nodup_cons.2 ⟨fun hm=>hn L (by rw[h1];exact List.mem_map_of_mem hm) rfl,h2⟩,fun k hk=>?_⟩
 rcases List.mem_cons.1 hk with rfl|hk
 ·exact⟨hB,hL⟩
 ·exact h3 k hk
theorem Dfs.mem{B:Nat}{W:World}{ds:List Deferred}(h:Dfs B W ds){k:Nat}(hk:mark k∈ds):B≤k∧k<W.heap.size:=by
 obtain⟨Ls,rfl,h2,h3⟩:=h.out
 obtain⟨L,hL,e⟩:=List.mem_map.1 hk
 rw[←mark_inj e]
 exact⟨(h3 L hL).1,(Array.getElem?_eq_some_iff.1 (h3 L hL).2).1⟩
theorem marks_many{fn:Func}{R:Ending→World→Prop}{tmps:Array Value}{B:Nat}{v:Value}(I:World→Prop)(hI:∀W L o',I W→B≤L→W.heap[L]? =some (.deferred (some []))→I (W.putObj L o'))
  (hend:∀W,I W→(results fn tmps).run prog W=.ok v W∧R (.returned v) W) {W:World} {ds:List Deferred} (h0:I W) (hd:Dfs B W ds):bodyPostM Fence.wide 0 prog fn R .ret {tmps:=tmps,defers:=ds} W:=by
 show LeavesInM Fence.wide 0 prog fn tmps R ds .returning W
 obtain⟨Ls,rfl,h2,h3⟩:=hd.out
 clear hd
 induction Ls generalizing W with
 |nil=>
  obtain⟨h1,h2⟩:=hend W h0
  exact⟨v,h1,h2⟩
 |cons L Ls ih=>
  have hL:=h3 L (by simp)
  refine⟨by simp,.inl ⟨L,_,rfl,run_takeDeferred hL.2,?_⟩⟩
  refine ih (hI _ _ _ h0 hL.1 hL.2) (List.nodup_cons.1 h2).2 (fun k hk=>?_)
  have:=h3 k (by simp[hk])
  exact⟨this.1,(World.putObj_heap_other (by rintro rfl;exact(List.nodup_cons.1 h2).1 hk)).trans this.2⟩
theorem SeqV.map{α β:Type}{P:Program}{g:Nat}{lb:Array Value}{Rd:α→Value→Prop}{xs:List α}{D0:Gh}(f:α→β)(Rd':β→Value→Prop)(h:SeqV P g lb Rd xs D0)(hR:∀x v,Rd x v→Rd' (f x) v):SeqV P g lb Rd' (xs.map f) D0:=by
 intro l J Jx W D hD h1 h2 h3 h4 h5
 refine(h l (fun s=>J (s.map f)) (fun s=>Jx (s.map f)) W D hD (fun s=>h1 _) (fun s=>h2 _) (fun s=>h3 _) (fun pre x D1 W1 v hJ hp hv=>?_) h5).mono ?_
 ·have:=h4 (pre.map f) (f x) D1 W1 v hJ (by obtain⟨r,rfl⟩:=hp;exact⟨r.map f,by simp⟩) (hR x v hv)
  simpa using this
 ·rintro e W' ⟨hv,(⟨D',hd,hJ⟩|⟨pre,D',hd,hp,hJ⟩)⟩
  ·exact⟨hv,.inl ⟨D',hd,hJ⟩⟩
  ·exact⟨hv,.inr ⟨pre.map f,D',hd,by obtain⟨r,rfl⟩:=hp;exact⟨r.map f,by simp⟩,hJ⟩⟩
end Go.Proofs.YticgonfhjcaohaaGreatDoor
namespace Go.Proofs.YticgonfhjcaohaaGreatDoor
open Go.RowKit Go.VT
open Go.Maps Go.Sort Go.Shelf Go.Proofs
theorem heapS{w:World}{g n:Nat}{os:Array Obj}{cur:Array Value}{e:TypeId}{fr:Nat×Nat}(d:Array Bs)(hb:w.heap[g]? =some (.cells cur e fr)):
  (Sort.grow (Sort.putRow encStr (Sort.ahead w n) g 0 d) os).heap[g]? =some (.cells (Sort.putCells encStr 0 d cur) e fr):=by
 have hg:g<w.heap.size:=(Array.getElem?_eq_some_iff.1 hb).1
 rw[Sort.heap_grow_old _ _ (by simpa[Sort.putRow,Sort.mapBlock,Sort.ahead]using hg)]
 simp[Sort.putRow,Sort.mapBlock,Sort.ahead,Array.getElem?_modify,hb,Sort.onCells]
theorem grownS{w:World}{g n:Nat}{os:Array Obj}(d:Array Bs):Bl (some g) w (Sort.grow (Sort.putRow encStr (Sort.ahead w n) g 0 d) os):=by
 refine⟨rfl,rfl,rfl,by simp[Sort.putRow,Sort.mapBlock,Sort.ahead],fun k hk hne=>?_⟩
 rw[Sort.heap_grow_old _ _ (by simpa[Sort.putRow,Sort.mapBlock,Sort.ahead]using hk)]
 have:g≠k:=fun e=>hne (by rw[e])
 simp[Sort.putRow,Sort.mapBlock,Sort.ahead,Array.getElem?_modify,this]
theorem takeS(cur:Array Value)(vs:Array Bs)(h:vs.size≤cur.size)(k:Nat)(hk:k≤vs.size):(Sort.putCells encStr 0 vs cur).toList.take k=(vs.toList.take k).map fun s=>.string (str s):=by
 apply List.ext_getElem?
 intro j
 by_cases hj:j<k
 ·rw[List.getElem?_take_of_lt hj,Array.getElem?_toList,List.getElem?_map,List.getElem?_take_of_lt hj,Array.getElem?_toList]
  have h1:j<vs.size:=by omega
  have h2:j<cur.size:=by omega
  simp[Sort.putCells,h1,h2,str]
 ·rw[List.getElem?_take_eq_none (by omega),List.getElem?_eq_none (by simp;omega)]
theorem holdsS{w:World}{g n:Nat}{cur:Array Value}{e:TypeId}{xs:List Bs}(hh:w.heap[g]? =some (.cells cur e (0,0)))(h4:cur.toList.take (n*1)=xs.map fun s=>.string (str s))(hl:n=xs.length):Sort.Holds encStr w g 0 xs.toArray:=by
 intro j hj
 have hj':j<n:=by simpa[hl]using hj
 refine⟨?_,by simp[World.frozen?,hh]⟩
 have e1:(cur.toList.take (n*1))[j]? =(xs.map fun s=>Value.string (str s))[j]? :=by rw[h4]
 rw[List.getElem?_take_of_lt (by omega),List.getElem?_map]at e1
 simp only[World.cell?,hh,Nat.zero_add]
 simp only[Option.isSome_none,Bool.false_eq_true,if_false]
 rw[←Array.getElem?_toList,e1,getElem!_pos xs.toArray j hj,List.getElem?_eq_getElem (by simpa[hl]using hj')]
 rfl
def Tryz.keys76_ren:Go.Shelf.Ren:=⟨fun|7=>76|10=>140|n=>n,fun|23=>89|26=>9|3=>4|28=>129|0=>0|27=>128|33=>106|4=>4|n=>n,fun|n=>n⟩
theorem Tryz.keys76:Go.Proofs.SlLaysZ.n7 Tryz.prog Tryz.keys76_ren:={
 mixed:=by kernel_rfl
 f7:=⟨Tryz.f76.name,by decide,Tryz.func76.trans (congrArg some (by kernel_rfl))⟩
 f10:=⟨Tryz.f140.name,by decide,Tryz.func140.trans (congrArg some (by kernel_rfl))⟩
 t0:=Tryz.underlying0
 a0:=Tryz.isAgg0
 z0:=Tryz.sizeOf0
 v0:=Tryz.zeroValue0
 t4:=Tryz.underlying4
 a4:=Tryz.isAgg4
 z4:=Tryz.sizeOf4
 v4:=Tryz.zeroValue4
 t23:=Tryz.underlying89
 a23:=Tryz.isAgg89
 z23:=Tryz.sizeOf89
 v23:=Tryz.zeroValue89
 t26:=Tryz.underlying9
 a26:=Tryz.isAgg9
 z26:=Tryz.sizeOf9
 v26:=Tryz.zeroValue9
 t27:=Tryz.underlying128
 a27:=Tryz.isAgg128
 z27:=Tryz.sizeOf128
 v27:=Tryz.zeroValue128
 t28:=Tryz.underlying129
 a28:=Tryz.isAgg129
 z28:=Tryz.sizeOf129
 v28:=Tryz.zeroValue129
 t33:=Tryz.underlying106
 a33:=Tryz.isAgg106
 z33:=Tryz.sizeOf106
 v33:=Tryz.zeroValue106}
def Tryz.sorted75_ren:Go.Shelf.Ren:=⟨fun|6=>75|8=>139|9=>79|11=>170|13=>144|12=>143|23=>181|24=>182|14=>172|15=>173|16=>174|17=>175|18=>176|19=>177|20=>178|21=>179|22=>180|25=>210|26=>211|27=>212|28=>213|29=>214|30=>215|31=>227|n=>n,fun|26=>9|28=>129|24=>32|0=>0|3=>3|37=>177|48=>205|50=>207|4=>4|40=>198|39=>197|45=>202|5=>5|9=>9|51=>224|55=>161|57=>237|58=>96|33=>106|n=>n,fun|n=>n⟩
theorem Tryz.sorted75:Go.Proofs.SlLaysZ.n6 Tryz.prog Tryz.sorted75_ren:={
 mixed:=by kernel_rfl
 f6:=⟨Tryz.f75.name,by decide,Tryz.func75.trans (congrArg some (by kernel_rfl))⟩
 f8:=⟨Tryz.f139.name,by decide,Tryz.func139.trans (congrArg some (by kernel_rfl))⟩
 f11:=⟨Tryz.f170.name,by decide,Tryz.func170.trans (congrArg some (by kernel_rfl))⟩
 t0:=Tryz.underlying0
 a0:=Tryz.isAgg0
 z0:=Tryz.sizeOf0
 v0:=Tryz.zeroValue0
 t24:=Tryz.underlying32
 a24:=Tryz.isAgg32
 z24:=Tryz.sizeOf32
 v24:=Tryz.zeroValue32
 t26:=Tryz.underlying9
 a26:=Tryz.isAgg9
 z26:=Tryz.sizeOf9
 v26:=Tryz.zeroValue9
 t28:=Tryz.underlying129
 a28:=Tryz.isAgg129
 z28:=Tryz.sizeOf129
 v28:=Tryz.zeroValue129
 i26:=by kernel_rfl}
def Tryz.sort79_ren:Go.Shelf.Ren:=⟨fun|6=>79|8=>144|9=>143|19=>181|20=>182|21=>172|22=>173|23=>174|24=>175|25=>176|26=>177|27=>178|28=>179|29=>180|36=>210|31=>211|32=>212|37=>213|38=>214|39=>215|41=>227|n=>n,fun|27=>32|29=>9|3=>3|32=>177|26=>32|0=>0|44=>205|46=>207|4=>4|36=>198|35=>197|41=>202|5=>5|9=>9|53=>224|57=>161|63=>237|64=>96|n=>n,fun|n=>n⟩
theorem Tryz.sort79:Go.Proofs.SlLaysM.n6 Tryz.prog Tryz.sort79_ren:={
 mixed:=by kernel_rfl
 f6:=⟨Tryz.f79.name,by decide,Tryz.func79.trans (congrArg some (by kernel_rfl))⟩
 f8:=Tryz.func144.trans (congrArg some (by kernel_rfl))
 f9:=⟨Tryz.f143.name,by decide,Tryz.func143.trans (congrArg some (by kernel_rfl))⟩
 f19:=Tryz.func181.trans (congrArg some (by kernel_rfl))
 f20:=Tryz.func182.trans (congrArg some (by kernel_rfl))
 f21:=⟨Tryz.f172.name,by decide,Tryz.func172.trans (congrArg some (by kernel_rfl))⟩
 f22:=⟨Tryz.f173.name,by decide,Tryz.func173.trans (congrArg some (by kernel_rfl))⟩
 f23:=⟨Tryz.f174.name,by decide,Tryz.func174.trans (congrArg some (by kernel_rfl))⟩
 f24:=⟨Tryz.f175.name,by decide,Tryz.func175.trans (congrArg some (by kernel_rfl))⟩
 f25:=⟨Tryz.f176.name,by decide,Tryz.func176.trans (congrArg some (by kernel_rfl))⟩
 f26:=⟨Tryz.f177.name,by decide,Tryz.func177.trans (congrArg some (by kernel_rfl))⟩
 f27:=⟨Tryz.f178.name,by decide,Tryz.func178.trans (congrArg some (by kernel_rfl))⟩
 f28:=⟨Tryz.f179.name,by decide,Tryz.func179.trans (congrArg some (by kernel_rfl))⟩
 f29:=⟨Tryz.f180.name,by decide,Tryz.func180.trans (congrArg some (by kernel_rfl))⟩
 f31:=Tryz.func211.trans (congrArg some (by kernel_rfl))
 f32:=Tryz.func212.trans (congrArg some (by kernel_rfl))
 f36:=⟨Tryz.f210.name,by decide,Tryz.func210.trans (congrArg some (by kernel_rfl))⟩
 f37:=⟨Tryz.f213.name,by decide,Tryz.func213.trans (congrArg some (by kernel_rfl))⟩
 f38:=⟨Tryz.f214.name,by decide,Tryz.func214.trans (congrArg some (by kernel_rfl))⟩
 f39:=⟨Tryz.f215.name,by decide,Tryz.func215.trans (congrArg some (by kernel_rfl))⟩
 f41:=⟨Tryz.f227.name,by decide,Tryz.func227.trans (congrArg some (by kernel_rfl))⟩
 t0:=Tryz.underlying0
 a0:=Tryz.isAgg0
 z0:=Tryz.sizeOf0
 v0:=Tryz.zeroValue0
 t3:=Tryz.underlying3
 a3:=Tryz.isAgg3
 z3:=Tryz.sizeOf3
 v3:=Tryz.zeroValue3
 t4:=Tryz.underlying4
 a4:=Tryz.isAgg4
 z4:=Tryz.sizeOf4
 v4:=Tryz.zeroValue4
 t5:=Tryz.underlying5
 a5:=Tryz.isAgg5
 z5:=Tryz.sizeOf5
 v5:=Tryz.zeroValue5
 t9:=Tryz.underlying9
 a9:=Tryz.isAgg9
 z9:=Tryz.sizeOf9
 v9:=Tryz.zeroValue9
 t26:=Tryz.underlying32
 a26:=Tryz.isAgg32
 z26:=Tryz.sizeOf32
 v26:=Tryz.zeroValue32
 t27:=Tryz.underlying32
 a27:=Tryz.isAgg32
 z27:=Tryz.sizeOf32
 v27:=Tryz.zeroValue32
 t29:=Tryz.underlying9
 a29:=Tryz.isAgg9
 z29:=Tryz.sizeOf9
 v29:=Tryz.zeroValue9
 t32:=Tryz.underlying177
 a32:=Tryz.isAgg177
 z32:=Tryz.sizeOf177
 v32:=Tryz.zeroValue177
 t35:=Tryz.underlying197
 a35:=Tryz.isAgg197
 z35:=Tryz.sizeOf197
 v35:=Tryz.zeroValue197
 t36:=Tryz.underlying198
 a36:=Tryz.isAgg198
 z36:=Tryz.sizeOf198
 v36:=Tryz.zeroValue198
 t41:=Tryz.underlying202
 a41:=Tryz.isAgg202
 z41:=Tryz.sizeOf202
 v41:=Tryz.zeroValue202
 t44:=Tryz.underlying205
 a44:=Tryz.isAgg205
 z44:=Tryz.sizeOf205
 v44:=Tryz.zeroValue205
 t46:=Tryz.underlying207
 a46:=Tryz.isAgg207
 z46:=Tryz.sizeOf207
 v46:=Tryz.zeroValue207
 t53:=Tryz.underlying224
 a53:=Tryz.isAgg224
 z53:=Tryz.sizeOf224
 v53:=Tryz.zeroValue224
 t57:=Tryz.underlying161
 a57:=Tryz.isAgg161
 z57:=Tryz.sizeOf161
 v57:=Tryz.zeroValue161
 t63:=Tryz.underlying237
 a63:=Tryz.isAgg237
 z63:=Tryz.sizeOf237
 v63:=Tryz.zeroValue237
 t64:=Tryz.underlying96
 a64:=Tryz.isAgg96
 z64:=Tryz.sizeOf96
 v64:=Tryz.zeroValue96}
theorem Tryz.sorts75(m:Nat):AnyZ.SortsIn Tryz.prog Tryz.sorted75_ren Fence.wide m:=
 ⟨fun blk off cap ss W hH hblk hsz=>callsIn_wide.2 (AnyM.slices_Sort_string Tryz.sort79 blk off cap ss W hH hblk hsz),fun p cap W=>callsIn_wide.2 (AnyM.slices_Sort_string_none Tryz.sort79 p cap W)⟩
theorem keys_c(W:World)(mb:Option Nat):Calls Tryz.prog 76 #[.map mb] W fun e w'=>e=.returned (.func (.func 140) #[] #[.pointer (some ⟨W.heap.size,0,none⟩)])∧w'=W.alloc (.cells #[.map mb] 89):=
 (callsIn_wide (n:=5)).1 (AnyZ.keys_in Tryz.keys76 Fence.wide 5 trivial rfl mb W)
theorem strKeys_has{D:DataW Unit}{w:World}{m n:Nat}(h:w.ownsMap Tryz.prog 9 (plainElem Tryz.prog 4) m n D)(s:Bs):s∈strKeys D↔s.length≤maxLen∧Maps.has D (.string s)=true:=by
 obtain⟨es,rfl,hk⟩:=h.keysOf
 have hx:∀p∈es,∃x:List UInt8,p.1=.string x∧x.length≤maxLen:=fun p hp=>by
  obtain⟨v,hv⟩:=hk p hp
  obtain⟨x,_,e,hl⟩:=Maps.keyOf_str Tryz.underlying9 hv
  exact⟨x,e,hl⟩
 rw[Maps.has_eq,List.any_eq_true]
 show s∈es.map (fun p=>strOf p.1)↔_
 rw[List.mem_map]
 constructor
 ·rintro⟨p,hp,rfl⟩
  obtain⟨x,e,hl⟩:=hx p hp
  rw[e]
  exact⟨hl,p,hp,by rw[e];exact WideAt.sameKey_self trivial⟩
 ·rintro⟨_,p,hp,hs⟩
  have:=WideAt.sameKey_eq hs
  exact⟨p,hp,by rw[this];rfl⟩
theorem sortedKeys_c(w:World)(D:Gh)[hk:Keeps D w](m n:Nat)(S:List Bs)(hS:MS w m n S)(hn:n*16≤140737488355328)(hsh:∀s∈S,s.length≤maxLen):
  Calls Tryz.prog 75 #[.func (.func 140) #[] #[.pointer (some ⟨w.heap.size,0,none⟩)]] (w.alloc (.cells #[.map (some m)] 89)) fun e w'=>∃(v:Value)(ss:List Bs),e=.returned v∧(∀s,s∈ss↔s∈S)∧ss.length≤n∧VT.Own w' D (w.heap.size+1) 9 1 v ss.length (ss.map fun s=>.string (str s))∧Cll none w w':=by
 obtain⟨D0,hown,hmem⟩:=hS.out
 have hbl:=hown.lt
 have hsz:=hown.size_le
 have hseq:SeqGives Fence.wide 2 Tryz.prog 140 #[.pointer (some ⟨w.heap.size,0,none⟩)] encStr (fun ss=>ss.Perm (strKeys D0)) (Maps.size D0) (w.alloc (.cells #[.map (some m)] 89)):=
  AnyZ.keys_gives (ρ:=Tryz.keys76_ren) {Tryz.keys76 with} Fence.wide _ trivial rfl (by omega) w.heap.size m n D0 _ (by simp) (by simp) (by
   obtain⟨es,clock,hb,Ft,hs,hD⟩:=hown
   exact⟨es,clock,(Below.heap_alloc _ _ m hbl).trans hb,Ft,hs,hD⟩)
 refine((callsIn_wide (n:=5)).1 (AnyZ.sorted_in Tryz.sorted75 Fence.wide 5 trivial trivial trivial trivial rfl (by omega) (Tryz.sorts75 _) (enters_of Tryz.func79 (by kernel_rfl) rfl) 140 #[.pointer (some ⟨w.heap.size,0,none⟩)] trivial (enters_of Tryz.func140 (by kernel_rfl) rfl) _ _ (by unfold maxLen;omega) (by omega) _ hseq)).mono ?_
 rintro e w' ⟨v,ss,rfl,hp,hrow,_,hb⟩
 have hz:(w.alloc (.cells #[.map (some m)] 89)).heap.size=w.heap.size+1:=by simp
 rw[hz]at hrow hb
 have hl:(ss.mergeSort (fun x y=>decide (x≤y))).length=ss.length:=List.length_mergeSort ss
 refine⟨v,ss.mergeSort (fun x y=>decide (x≤y)),rfl,fun s=>?_,?_,?_,?_⟩
 ·rw[(List.mergeSort_perm ss _).mem_iff,hp.mem_iff,strKeys_has hown]
  constructor
  ·rintro⟨h1,h2⟩;exact(hmem s h1).1 h2
  ·intro h;exact⟨hsh s h,(hmem s (hsh s h)).2 h⟩
 ·rw[hl,hp.length_eq]
  obtain⟨es,rfl,_⟩:=hown.keysOf
  simpa[strKeys,Maps.size]using hsz
 ·rw[hl]
  refine⟨hrow,⟨fun g hg=>?_⟩⟩
  have:=(own_lt hrow g hg).1
  exact Keeps.offNew (w:=w) (by omega)
 ·have h1:Cll none w (w.alloc (.cells #[.map (some m)] 89)):=Bel.c
  exact⟨h1.out.trans (Bl.of_below (by rw[hz];exact hb))⟩
theorem sortS_c(w:World)(D:Gh)(B n:Nat)(v:Value)(xs:List Bs)(hO:VT.Own w D B 9 1 v n (xs.map fun s=>.string (str s)))(hn:n<4611686018427387904):
  Calls Tryz.prog 79 #[v] w fun e w'=>e=.returned (.tuple #[])∧VT.Own w' D B 9 1 v n ((xs.mergeSort fun x y=>decide (x≤y)).map fun s=>.string (str s))∧Cll v.ownBlock w w':=by
 have hl:n=xs.length:=by have:=hO.own.1;simpa using this.symm
 rcases hO.own.2 with⟨rfl,rfl⟩|⟨g,cap,cur,rfl,hB,hh,h1,h2,h3,h4⟩
 ·obtain rfl:xs=[]:=List.eq_nil_of_length_eq_zero hl.symm
  refine(AnyM.slices_Sort_string_none Tryz.sort79 none 0 w).mono ?_
  rintro e w' ⟨rfl,rfl⟩
  exact⟨rfl,by simpa using hO,⟨Bl.refl _ _⟩⟩
 ·have hH:=holdsS hh h4 hl
  have hg:g<w.heap.size:=(Array.getElem?_eq_some_iff.1 hh).1
  have key:=AnyM.slices_Sort_string Tryz.sort79 g 0 cap xs w hH hg (by rw[←hl];exact hn)
  rw[←hl]at key
  refine Calls.mono key ?_
  rintro e w' ⟨rfl,k,os,rfl⟩
  have hms:(xs.mergeSort (fun x y=>decide (x≤y))).length=n:=by rw[List.length_mergeSort,hl]
  have hcs:cur.size=cap:=by simpa using h3
  refine⟨rfl,⟨⟨by simp[hms],.inr ⟨g,cap,_,rfl,hB,heapS _ hh,h1,h2,by simp[Sort.putCells,hcs],?_⟩⟩,hO.off⟩,⟨grownS _⟩⟩
  have:=takeS cur (xs.mergeSort (fun x y=>decide (x≤y))).toArray (by simp[hms,hcs];exact h1) n (by simp[hms])
  rw[Nat.mul_one,this]
  simp[List.take_of_length_le,hms]
theorem compactS_c(w:World)(D:Gh)(B n:Nat)(v:Value)(xs:List Bs)(hO:VT.Own w D B 9 1 v n (xs.map fun s=>.string (str s)))(hn:n<4611686018427387904):
  Calls Tryz.prog 80 #[v] w fun e w'=>∃v',e=.returned v'∧VT.Own w' D B 9 1 v' (Lib.compact xs).length ((Lib.compact xs).map fun s=>.string (str s))∧Cll v.ownBlock w w':=by
 have hl:n=xs.length:=by have:=hO.own.1;simpa using this.symm
 rcases hO.own.2 with⟨rfl,rfl⟩|⟨g,cap,cur,rfl,hB,hh,h1,h2,h3,h4⟩
 ·obtain rfl:xs=[]:=List.eq_nil_of_length_eq_zero hl.symm
  refine(Tryz.slices_Compact_string_empty none 0 w).mono ?_
  rintro e w' ⟨rfl,rfl⟩
  exact⟨_,rfl,hO,⟨Bl.refl _ _⟩⟩
 ·have hH:=holdsS hh h4 hl
  have key:=Tryz.slices_Compact_string g 0 cap xs w hH (by omega) (by omega)
  rw[←hl]at key
  refine Calls.mono key ?_
  rintro e w' ⟨rfl,k,rfl⟩
  have hcl:(Lib.compact xs).length≤n:=by
   rw[hl];unfold Lib.compact Lib.compactUpTo
   rw[List.length_map]
   refine Nat.le_trans (List.length_filter_le _ _) ?_
   simp
  have hcs:cur.size=cap:=by simpa using h3
  have hgr:Sort.putRow encStr (Sort.ahead w k) g 0 (Lib.compact xs++List.replicate (n-(Lib.compact xs).length) []).toArray=Sort.grow (Sort.putRow encStr (Sort.ahead w k) g 0 (Lib.compact xs++List.replicate (n-(Lib.compact xs).length) []).toArray) #[]:=by
   unfold Sort.grow;rw[Array.append_empty]
  rw[hgr]
  refine⟨_,rfl,⟨⟨by simp,.inr ⟨g,cap,_,rfl,hB,heapS _ hh,by omega,h2,by simp[Sort.putCells,hcs],?_⟩⟩,hO.off⟩,⟨grownS _⟩⟩
  have:=takeS cur (Lib.compact xs++List.replicate (n-(Lib.compact xs).length) []).toArray (by simp;omega) (Lib.compact xs).length (by simp)
  rw[Nat.mul_one,this]
  simp
theorem compact_sorted(xs:List Bs)(h:xs.Pairwise (· ≤ ·)):(Lib.compact xs).Nodup∧∀s,s∈Lib.compact xs↔s∈xs:=by
 have key:∀m,m≤xs.length→(Lib.compactUpTo xs.toArray m).Nodup∧(∀s,s∈Lib.compactUpTo xs.toArray m↔s∈xs.take m):=by
  intro m
  induction m with
  |zero=>intro _;simp[Lib.compactUpTo]
  |succ m ih=>
   intro hm
   obtain⟨i1,i2⟩:=ih (by omega)
   have hg:xs.toArray[m]! =xs[m]:=by rw[getElem!_pos xs.toArray m (by simp;omega)];rfl
   rw[Lib.compactUpTo_succ,hg,List.take_add_one,List.getElem?_eq_getElem hm]
   cases hkp:Lib.keeps xs.toArray m with
   |false=>
    simp only[Lib.keeps,decide_eq_false_iff_not,not_or,Decidable.not_not]at hkp
    have hg1:xs.toArray[m-1]! =xs[m-1]:=by rw[getElem!_pos xs.toArray (m-1) (by simp;omega)];rfl
    rw[hg,hg1]at hkp
    refine⟨by simpa using i1,fun s=>?_⟩
    simp only[if_neg,Bool.false_eq_true,List.append_nil,not_false_eq_true,Option.toList_some,List.mem_append,List.mem_singleton,i2]
    constructor
    ·exact .inl
    ·rintro(h|rfl)
     ·exact h
     ·rw[hkp.2,List.mem_take_iff_getElem]
      exact⟨m-1,by omega,rfl⟩
   |true=>
    simp only[Lib.keeps,decide_eq_true_eq]at hkp
    refine⟨?_,fun s=>?_⟩
    rotate_left
    ·rw[if_pos rfl,List.mem_append,List.mem_append,i2];simp only[Option.toList_some]
    rw[if_pos rfl]
    refine List.nodup_append.2 ⟨i1,by simp,?_⟩
    intro a ha b hb
    obtain rfl:=List.mem_singleton.1 hb
    rw[i2,List.mem_take_iff_getElem]at ha
    obtain⟨j,hj,rfl⟩:=ha
    have hjm:j<m:=by omega
    rintro e
    rcases hkp with rfl|hne
    ·omega
    ·have hg1:xs.toArray[m-1]! =xs[m-1]:=by rw[getElem!_pos xs.toArray (m-1) (by simp;omega)];rfl
     rw[hg,hg1]at hne
     have p1:xs[m-1]≤xs[m]:=List.pairwise_iff_getElem.1 h (m-1) m (by omega) hm (by omega)
     have p2:xs[j]≤xs[m-1]:=by
      rcases Nat.lt_or_ge j (m-1)with hlt|hge
      ·exact List.pairwise_iff_getElem.1 h j (m-1) (by omega) (by omega) hlt
      ·have:j=m-1:=by omega
       subst this;exact List.le_refl _
     exact hne (List.le_antisymm (e▸p2) p1)
 obtain⟨k1,k2⟩:=key xs.length (Nat.le_refl _)
 exact⟨k1,fun s=>by rw[Lib.compact,k2,List.take_length]⟩
theorem sort_sorted(xs:List Bs):(xs.mergeSort fun x y=>decide (x≤y)).Pairwise (· ≤ ·):=by
 have tr:∀a b c:Bs,decide (a≤b)=true→decide (b≤c)=true→decide (a≤c)=true:=fun a b c h1 h2=>by simp only[decide_eq_true_eq]at*;exact List.le_trans h1 h2
 have tt:∀a b:Bs,(decide (a≤b)||decide (b≤a))=true:=fun a b=>by simp only[Bool.or_eq_true,decide_eq_true_eq];exact List.le_total a b
 exact(List.pairwise_mergeSort tr tt xs).imp fun h=>by simpa using h
end Go.Proofs.YticgonfhjcaohaaGreatDoor
