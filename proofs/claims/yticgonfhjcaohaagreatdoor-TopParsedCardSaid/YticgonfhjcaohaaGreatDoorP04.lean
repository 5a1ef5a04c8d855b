/- TopParsed, part 4. -/
import Derived.Lib.Bytealg
import Derived.Lib.Small
import Derived.Sort.Statements
import Derived.Test.YticgonfhjcaohaaGreatDoorP01
set_option maxRecDepth 100000
set_option maxHeartbeats 32000000
namespace Go.VT
def lexI(a b:Int):Int:=if a=0 then b else a
theorem lexI_zero{a b:Int}:lexI a b=0↔a=0∧b=0:=by unfold lexI;split<;>omega
structure POn{α:Type}(S:α→Prop)(f:α→α→Int):Prop where
 anti:∀a b,S a→S b→f b a= -f a b
 trans:∀a b c,S a→S b→S c→f a b≤0→f b c≤0→f a c≤0
theorem POn.lex{α:Type}{S:α→Prop}{f g:α→α→Int}(hf:POn S f)(hg:POn S g):POn S (fun a b=>lexI (f a b) (g a b)) where
 anti a b ha hb:=by
  have h1:=hf.anti a b ha hb
  have h2:=hg.anti a b ha hb
  unfold lexI;split<;>split<;>omega
 trans a b c ha hb hc h1 h2:=by
  have k1:=hf.anti a b ha hb
  have k2:=hf.anti b c hb hc
  have k3:=hf.anti a c ha hc
  have t1:=hf.trans a b c ha hb hc
  have t2:=hf.trans c a b hc ha hb
  have t3:=hf.trans b c a hb hc ha
  have t4:=hg.trans a b c ha hb hc
  unfold lexI at h1 h2⊢
  split at h1<;>split at h2<;>split<;>omega
theorem POn.key{α β:Type}{S:α→Prop}{T:β→Prop}{f:β→β→Int}(k:α→β)(h:POn T f)(hk:∀a,S a→T (k a)):POn S (fun a b=>f (k a) (k b)) where
 anti a b ha hb:=h.anti _ _ (hk a ha) (hk b hb)
 trans a b c ha hb hc:=h.trans _ _ _ (hk a ha) (hk b hb) (hk c hc)
theorem pon_int:POn (fun _=>True) Lib.compareInt where
 anti a b _ _:=by unfold Lib.compareInt;split<;>split<;>(try split)<;>(try split)<;>omega
 trans a b c _ _ _ h1 h2:=by
  unfold Lib.compareInt at*
  by_cases x1:a<b<;>by_cases x2:b<c<;>by_cases x3:a<c<;>by_cases x4:a>b<;>by_cases x5:b>c<;>by_cases x6:a>c<;>simp_all<;>omega
theorem cmpI_zero{a b:Int}:Lib.compareInt a b=0↔a=b:=by unfold Lib.compareInt;split<;>(try split)<;>omega
theorem cmpB_zero:∀{a b:Bs},Lib.compareBytes a b=0↔a=b
 |[],[]=>by simp[Lib.compareBytes]
 |[],_::_=>by simp[Lib.compareBytes]
 |_::_,[]=>by simp[Lib.compareBytes]
 |x::a,y::b=>by
  simp only[Lib.compareBytes,List.cons.injEq,←cmpB_zero (a:=a) (b:=b)]
  by_cases h1:x<y
  ·have:x≠y:=by rintro rfl;exact UInt8.lt_irrefl _ h1
   simp[h1,this]
  ·by_cases h2:y<x
   ·have:x≠y:=by rintro rfl;exact UInt8.lt_irrefl _ h2
    simp[h1,h2,this]
   ·have:x=y:=UInt8.le_antisymm (UInt8.not_lt.1 h2) (UInt8.not_lt.1 h1)
    simp[this]
theorem cmpB_cons(x y:UInt8)(a b:Bs):Lib.compareBytes (x::a) (y::b)=lexI (Lib.compareInt x.toNat y.toNat) (Lib.compareBytes a b):=by
 simp only[Lib.compareBytes,lexI,Lib.compareInt,UInt8.lt_iff_toNat_lt]
 by_cases h1:x.toNat<y.toNat
 ·have:(x.toNat:Int)<y.toNat:=by omega
  simp[h1,this]
 ·by_cases h2:y.toNat<x.toNat
  ·have h3:(y.toNat:Int)<x.toNat:=by omega
   have h4:¬(x.toNat:Int)<y.toNat:=by omega
   simp[h1,h2,h3,h4]
  ·have h3:¬(y.toNat:Int)<x.toNat:=by omega
   have h4:¬(x.toNat:Int)<y.toNat:=by omega
   simp[h1,h2,h3,h4]
theorem cmpB_anti:∀(a b:Bs),Lib.compareBytes b a= -Lib.compareBytes a b
 |[],[]=>rfl
 |[],_::_=>rfl
 |_::_,[]=>rfl
 |x::a,y::b=>by
  rw[cmpB_cons,cmpB_cons]
  have h:=cmpB_anti a b
  have:=pon_int.anti x.toNat y.toNat trivial trivial
  unfold lexI;split<;>split<;>omega
theorem cmpB_trans:∀(a b c:Bs),Lib.compareBytes a b≤0→Lib.compareBytes b c≤0→Lib.compareBytes a c≤0
 |[],b,[]=>fun _ _=>by decide
 |[],b,_::_=>fun _ _=>by simp[Lib.compareBytes]
 |_::_,[],c=>fun h=>by simp[Lib.compareBytes]at h
 |_::_,_::_,[]=>fun _ h=>by simp[Lib.compareBytes]at h
 |x::a,y::b,z::c=>by
  rw[cmpB_cons,cmpB_cons,cmpB_cons]
  intro h1 h2
  have k1:=pon_int.anti x.toNat y.toNat trivial trivial
  have k2:=pon_int.anti y.toNat z.toNat trivial trivial
  have k3:=pon_int.anti x.toNat z.toNat trivial trivial
  have t1:=pon_int.trans x.toNat y.toNat z.toNat trivial trivial trivial
  have t2:=pon_int.trans z.toNat x.toNat y.toNat trivial trivial trivial
  have t3:=pon_int.trans y.toNat z.toNat x.toNat trivial trivial trivial
  have t4:=cmpB_trans a b c
  unfold lexI at h1 h2⊢
  split at h1<;>split at h2<;>split<;>omega
theorem pon_bytes:POn (fun _=>True) Lib.compareBytes:=⟨fun a b _ _=>cmpB_anti a b,fun a b c _ _ _=>cmpB_trans a b c⟩
def cmpHd(a b:C):Int:=
 lexI (Lib.compareInt a.size b.size) (lexI (Lib.compareInt a.kind b.kind) (lexI (Lib.compareBytes a.nm b.nm) (lexI (Lib.compareInt a.lo b.lo) (Lib.compareInt a.hi b.hi))))
mutual
def cmpC:C→C→Int
 |.and l,d=>lexI (cmpHd (.and l) d) (cmpL l d.parts)
 |.some r c,d=>lexI (cmpHd (.some r c) d) (match d.parts with| []=>1|x::q=>lexI (cmpC c x) (match q with| []=>0|_::_=> -1))
 |.top,d=>lexI (cmpHd .top d) (match d.parts with| []=>0|_::_=> -1)
 |.bot,d=>lexI (cmpHd .bot d) (match d.parts with| []=>0|_::_=> -1)
 |.named s,d=>lexI (cmpHd (.named s) d) (match d.parts with| []=>0|_::_=> -1)
 |.nom s,d=>lexI (cmpHd (.nom s) d) (match d.parts with| []=>0|_::_=> -1)
 |.range s x y,d=>lexI (cmpHd (.range s x y) d) (match d.parts with| []=>0|_::_=> -1)
def cmpL:List C→List C→Int
 |[],[]=>0
 |[],_::_=> -1
 |_::_,[]=>1
 |a::l,b::m=>lexI (cmpC a b) (cmpL l m)
end
theorem cmpL_nil(m:List C):cmpL [] m=match m with| []=>0|_::_=> -1:=by cases m<;>simp[cmpL]
theorem cmpL_one(c:C)(m:List C):cmpL [c] m=match m with| []=>1|x::q=>lexI (cmpC c x) (match q with| []=>0|_::_=> -1):=by
 cases m with
 |nil=>simp only[cmpL]
 |cons x q=>simp only[cmpL,cmpL_nil]
theorem cmpC_eq(a b:C):cmpC a b=lexI (cmpHd a b) (cmpL a.parts b.parts):=by
 cases a with
 |some r c=>rw[show(C.some r c).parts=[c]from rfl,cmpL_one,cmpC]
 |and l=>rw[cmpC];rfl
 |_=>simp only[cmpC];rw[←cmpL_nil];rfl
theorem pon_L{S:C→Prop}(h:POn S cmpC):POn (fun l=>∀x∈l,S x) cmpL where
 anti:=by
  intro l
  induction l with
  |nil=>intro m _ _;cases m<;>simp[cmpL]
  |cons a l ih=>
   intro m hl hm
   cases m with
   |nil=>simp[cmpL]
   |cons b m=>
    have h1:=h.anti a b (hl a (by simp)) (hm b (by simp))
    have h2:=ih m (fun x hx=>hl x (by simp[hx])) (fun x hx=>hm x (by simp[hx]))
    simp only[cmpL]
    unfold lexI;split<;>split<;>omega
 trans:=by
  intro l
  induction l with
  |nil=>intro m n _ _ _ _ _;cases n<;>simp[cmpL]
  |cons a l ih=>
   intro m n hl hm hn
   cases m with
   |nil=>intro h;simp[cmpL]at h
   |cons b m=>
    cases n with
    |nil=>intro _ h;simp[cmpL]at h
    |cons c n=>
     have ha:=hl a (by simp);have hb:=hm b (by simp);have hc:=hn c (by simp)
     have k1:=h.anti a b ha hb
     have k2:=h.anti b c hb hc
     have k3:=h.anti a c ha hc
     have t1:=h.trans a b c ha hb hc
     have t2:=h.trans c a b hc ha hb
     have t3:=h.trans b c a hb hc ha
     have t4:=ih m n (fun x hx=>hl x (by simp[hx])) (fun x hx=>hm x (by simp[hx])) (fun x hx=>hn x (by simp[hx]))
     simp only[cmpL]
     intro h1 h2
     unfold lexI at h1 h2⊢
     split at h1<;>split at h2<;>split<;>omega
theorem pon_hd(S:C→Prop):POn S cmpHd:=
 (pon_int.key (fun c:C=>(c.size:Int)) (fun _ _=>trivial)).lex ((pon_int.key C.kind (fun _ _=>trivial)).lex ((pon_bytes.key C.nm (fun _ _=>trivial)).lex ((pon_int.key C.lo (fun _ _=>trivial)).lex (pon_int.key C.hi (fun _ _=>trivial)))))
theorem parts_size{c x:C}(h:x∈c.parts):x.size<c.size:=by have:=C.size_parts c;have:=size_mem h;omega
theorem pon_n(n:Nat):POn (fun c:C=>c.size≤n) cmpC:=by
 induction n with
 |zero=>exact⟨fun a _ h=>absurd h (by have:=C.size_pos a;omega),fun a _ _ h=>absurd h (by have:=C.size_pos a;omega)⟩
 |succ n ih=>
  have:=(pon_hd (fun c:C=>c.size≤n+1)).lex ((pon_L ih).key C.parts (fun a ha x hx=>by have:=parts_size hx;omega))
  exact⟨fun a b=>by rw[cmpC_eq,cmpC_eq];exact this.anti a b,fun a b c=>by rw[cmpC_eq,cmpC_eq,cmpC_eq];exact this.trans a b c⟩
theorem pon_C:POn (fun _=>True) cmpC where
 anti a b _ _:=(pon_n (max a.size b.size)).anti a b (Nat.le_max_left _ _) (Nat.le_max_right _ _)
 trans a b c _ _ _:=(pon_n (max a.size (max b.size c.size))).trans a b c (by show _≤_;omega) (by show _≤_;omega) (by show _≤_;omega)
theorem cmpL_zero{S:C→Prop}(h:∀a b,S a→cmpC a b=0→a=b):∀(l m:List C),(∀x∈l,S x)→cmpL l m=0→l=m
 |[],[],_,_=>rfl
 |[],_::_,_,h=>by simp[cmpL]at h
 |_::_,[],_,h=>by simp[cmpL]at h
 |a::l,b::m,hS,h0=>by
  simp only[cmpL,lexI_zero]at h0
  rw[h a b (hS a (by simp)) h0.1,cmpL_zero h l m (fun x hx=>hS x (by simp[hx])) h0.2]
theorem cmpC_refl(a:C):cmpC a a=0:=by have:=pon_C.anti a a trivial trivial;omega
theorem cmpC_zero{a b:C}:cmpC a b=0↔a=b:=by
 refine⟨?_,fun h=>h▸cmpC_refl a⟩
 have key:∀n(a b:C),a.size≤n→cmpC a b=0→a=b:=by
  intro n
  induction n with
  |zero=>intro a b h;have:=C.size_pos a;omega
  |succ n ih=>
   intro a b hn h
   rw[cmpC_eq,lexI_zero,cmpHd,lexI_zero,lexI_zero,lexI_zero,lexI_zero]at h
   obtain⟨⟨_,h1,h2,h3,h4⟩,h5⟩:=h
   exact C.ext (cmpI_zero.1 h1) (cmpB_zero.1 h2) (cmpI_zero.1 h3) (cmpI_zero.1 h4) (cmpL_zero (S:=fun c=>c.size≤n) (fun a b=>ih a b) _ _ (fun x hx=>by have:=parts_size hx;omega) h5)
 exact key a.size a b (Nat.le_refl _)
theorem cmpC_anti(a b:C):cmpC b a= -cmpC a b:=pon_C.anti a b trivial trivial
theorem cmpC_le_trans{a b c:C}(h:cmpC a b≤0)(k:cmpC b c≤0):cmpC a c≤0:=pon_C.trans a b c trivial trivial trivial h k
theorem cmpC_lt_trans{a b c:C}(h:cmpC a b<0)(k:cmpC b c<0):cmpC a c<0:=by
 have h1:=cmpC_le_trans (by omega:cmpC a b≤0) (by omega:cmpC b c≤0)
 rcases Int.lt_or_eq_of_le h1 with h2|h2
 ·exact h2
 ·rw[cmpC_zero.1 h2,cmpC_anti]at h;omega
theorem swoC{α:Type}(k:α→C):Sort.SWO (fun x y:α=>decide (cmpC (k x) (k y)<0)) where
 irrefl x:=by simp[cmpC_refl]
 trans x y z h1 h2:=decide_eq_true (cmpC_lt_trans (of_decide_eq_true h1) (of_decide_eq_true h2))
 ntrans x y z h1 h2:=by
  refine decide_eq_false ?_
  have h1:=of_decide_eq_false h1
  have h2:=of_decide_eq_false h2
  have a1:=cmpC_anti (k x) (k y);have a2:=cmpC_anti (k y) (k z);have a3:=cmpC_anti (k x) (k z)
  have:=cmpC_le_trans (a:=k z) (b:=k y) (c:=k x) (by omega) (by omega)
  omega
end Go.VT
namespace Go.VT
def flatC:C→List C
 |.top=>[]|.and l=>l|c=>[c]
def sortC(l:List C):List C:=l.mergeSort (fun x y=>decide (cmpC x y≤0))
def compactC:List C→List C
 |[]=>[]
 |[a]=>[a]
 |a::b::l=>if cmpC b a=0 then compactC (b::l)else a::compactC (b::l)
def isBot:C→Bool|.bot=>true|_=>false
def meetC(q:List C):Option C:=
 let l:=compactC (sortC (q.flatMap flatC))
 if l.any isBot then some .bot else match l with
  |[]=>some .top
  |[x]=>some x
  |l=>if l.length≤8 then some (.and l)else none
mutual
def tidyC:C→Option C
 |.and l=>(tidyL l).bind meetC
 |.some r c=>(tidyC c).map fun x=>if isBot x then .bot else .some r x
 |.top=>some .top
 |.bot=>some .bot
 |.named s=>some (.named s)
 |.nom s=>some (.nom s)
 |.range s x y=>some (.range s x y)
def tidyL:List C→Option (List C)
 |[]=>some []
 |c::r=>(tidyC c).bind fun x=>(tidyL r).map fun q=>x::q
end
def single:C→Bool|.top=>false|.bot=>false|.and _=>false|_=>true
mutual
def isT:C→Prop
 |.and l=>2≤l.length∧l.length≤8∧l.Pairwise (fun x y=>cmpC x y<0)∧l.all single=true∧isTL l
 |.some _ c=>isBot c=false∧isT c
 |_=>True
def isTL:List C→Prop
 |[]=>True
 |c::r=>isT c∧isTL r
end
theorem isTL_mem{l:List C}:isTL l↔∀x∈l,isT x:=by
 induction l with
 |nil=>simp[isTL]
 |cons a r ih=>simp[isTL,ih]
theorem sortC_perm(l:List C):(sortC l).Perm l:=List.mergeSort_perm _ _
theorem sortC_sorted(l:List C):(sortC l).Pairwise (fun x y=>cmpC x y≤0):=by
 have:=List.pairwise_mergeSort (le:=fun x y:C=>decide (cmpC x y≤0)) (fun a b c h k=>decide_eq_true (cmpC_le_trans (of_decide_eq_true h) (of_decide_eq_true k)))
  (fun a b=>by have:=cmpC_anti a b;simp only[Bool.or_eq_true,decide_eq_true_eq];omega) l
 exact this.imp (fun h=>of_decide_eq_true h)
theorem sortC_unique{l m:List C}(hp:m.Perm l)(hs:m.Pairwise (fun x y=>cmpC x y≤0)):m=sortC l:=
 List.Perm.eq_of_pairwise (fun a b _ _ h k=>cmpC_zero.1 (by have:=cmpC_anti a b;omega)) hs (sortC_sorted l) (hp.trans (sortC_perm l).symm)
theorem compactC_sub:∀l:List C,(compactC l).Sublist l
 |[]=>.slnil
 |[a]=>List.Sublist.refl _
 |a::b::l=>by
  rw[compactC]
  split
  ·exact .cons _ (compactC_sub (b::l))
  ·exact .cons_cons _ (compactC_sub (b::l))
theorem compactC_mem:∀(l:List C)(x:C),x∈compactC l↔x∈l
 |[],_=>by simp[compactC]
 |[a],_=>by simp[compactC]
 |a::b::l,x=>by
  rw[compactC]
  split
  ·rename_i h
   rw[compactC_mem (b::l),cmpC_zero.1 h];simp
  ·rw[List.mem_cons,compactC_mem (b::l)];simp
theorem compactC_lt:∀l:List C,l.Pairwise (fun x y=>cmpC x y≤0)→(compactC l).Pairwise (fun x y=>cmpC x y<0)
 |[],_=>by simp[compactC]
 |[a],_=>by simp[compactC]
 |a::b::l,h=>by
  have hr:=compactC_lt (b::l) (List.pairwise_cons.1 h).2
  rw[compactC]
  split
  ·exact hr
  ·rename_i hn
   refine List.pairwise_cons.2 ⟨fun y hy=>?_,hr⟩
   have hy':=(compactC_mem _ _).1 hy
   have h1:=(List.pairwise_cons.1 h).1 b (by simp)
   have h2:cmpC a b<0:=by
    rcases Int.lt_or_eq_of_le h1 with h2|h2
    ·exact h2
    ·rw[cmpC_anti,h2]at hn;exact absurd rfl hn
   rcases List.mem_cons.1 hy' with rfl|hy'
   ·exact h2
   ·have h3:=(List.pairwise_cons.1 (List.pairwise_cons.1 h).2).1 y hy'
    have h4:=(List.pairwise_cons.1 h).1 y (by simp[hy'])
    rcases Int.lt_or_eq_of_le h4 with h5|h5
    ·exact h5
    ·obtain rfl:=cmpC_zero.1 h5
     have:=cmpC_anti a b;omega
theorem compactC_id:∀l:List C,l.Pairwise (fun x y=>cmpC x y<0)→compactC l=l
 |[],_=>by simp[compactC]
 |[a],_=>by simp[compactC]
 |a::b::l,h=>by
  have h1:=(List.pairwise_cons.1 h).1 b (by simp)
  rw[compactC,if_neg (by have:=cmpC_anti a b;omega),compactC_id (b::l) (List.pairwise_cons.1 h).2]
theorem sizeL_append(l m:List C):sizeL (l++m)=sizeL l+sizeL m:=by
 induction l with
 |nil=>simp[sizeL]
 |cons a r ih=>simp only[List.cons_append,sizeL,ih];omega
theorem sizeL_sub{l m:List C}(h:l.Sublist m):sizeL l≤sizeL m:=by
 induction h with
 |slnil=>simp
 |cons a _ ih=>simp only[sizeL];omega
 |cons_cons a _ ih=>simp only[sizeL];omega
theorem sizeL_perm{l m:List C}(h:l.Perm m):sizeL l=sizeL m:=by
 induction h with
 |nil=>rfl
 |cons a _ ih=>simp only[sizeL,ih]
 |swap a b l=>simp only[sizeL];omega
 |trans _ _ ih1 ih2=>exact ih1.trans ih2
theorem depthL_iff{l:List C}{k:Nat}:depthL l≤k↔∀c∈l,1+c.depth≤k:=by
 induction l with
 |nil=>simp[depthL]
 |cons a r ih=>simp only[depthL,List.mem_cons,forall_eq_or_imp,←ih];omega
mutual
def bareB:C→Bool
 |.nom _=>true
 |.and l=>bareL l
 |_=>false
def bareL:List C→Bool
 |[]=>false
 |c::r=>bareB c||bareL r
end
theorem bareL_mem{l:List C}:bareL l=true↔∃x∈l,bareB x=true:=by
 induction l with
 |nil=>simp[bareL]
 |cons a r ih=>simp[bareL,ih]
theorem wfL_mem{l:List C}:C.wf.wfL l↔∀x∈l,x.wf:=by
 induction l with
 |nil=>simp[C.wf.wfL]
 |cons a r ih=>simp[C.wf.wfL,ih]
def partsC(q:List C):List C:=compactC (sortC (q.flatMap flatC))
theorem mem_parts{q:List C}{x:C}:x∈partsC q↔∃y∈q,x∈flatC y:=by
 rw[partsC,compactC_mem,(sortC_perm _).mem_iff,List.mem_flatMap]
theorem size_flat(x:C):sizeL (flatC x)≤x.size:=by
 cases x<;>simp[flatC,sizeL,C.size]
theorem size_parts_le(q:List C):sizeL (partsC q)≤sizeL q:=by
 refine Nat.le_trans (sizeL_sub (compactC_sub _)) ?_
 rw[sizeL_perm (sortC_perm _)]
 induction q with
 |nil=>simp[sizeL]
 |cons a r ih=>rw[List.flatMap_cons,sizeL_append,sizeL];have:=size_flat a;omega
theorem depth_flat{y x:C}(h:x∈flatC y):x.depth≤y.depth:=by
 cases y with
 |and l=>
  have:=(depthL_iff (l:=l)).1 (Nat.le_refl _) x h
  simp only[C.depth];omega
 |top=>simp[flatC]at h
 |_=>simp only[flatC,List.mem_singleton]at h;rw[h];exact Nat.le_refl _
structure TidyOf(c x:C):Prop where
 t:isT x
 size:x.size≤c.size
 depth:x.depth≤c.depth
 wf:c.wf→x.wf
 bare:bareB x=true→bareB c=true
theorem isT_flat{y x:C}(hy:isT y)(h:x∈flatC y):isT x∧(isBot x=true∨single x=true):=by
 cases y with
 |and l=>
  have:=hy.2.2.2.1
  exact⟨isTL_mem.1 hy.2.2.2.2 x h,.inr (List.all_eq_true.1 this x h)⟩
 |top=>simp[flatC]at h
 |_=>simp only[flatC,List.mem_singleton]at h;rw[h];exact⟨hy,by simp[isBot,single]⟩
theorem wf_flat{y x:C}(hy:y.wf)(h:x∈flatC y):x.wf:=by
 cases y with
 |and l=>exact wfL_mem.1 hy.2 x h
 |top=>simp[flatC]at h
 |_=>simp only[flatC,List.mem_singleton]at h;rw[h];exact hy
theorem bare_flat{y x:C}(hx:bareB x=true)(h:x∈flatC y):bareB y=true:=by
 cases y with
 |and l=>exact bareL_mem.2 ⟨x,h,hx⟩
 |top=>simp[flatC]at h
 |_=>simp only[flatC,List.mem_singleton]at h;rw[←h];exact hx
inductive All2{α β:Type}(R:α→β→Prop):List α→List β→Prop where
 |nil:All2 R [] []
 |cons {a:α} {b:β} {l:List α} {m:List β} (h:R a b) (k:All2 R l m):All2 R (a::l) (b::m)
theorem meet_of{l q:List C}{x:C}(hl:All2 TidyOf l q)(h:meetC q=some x):TidyOf (.and l) x:=by
 have hsz:sizeL q≤sizeL l:=by
  clear h
  induction hl with
  |nil=>simp
  |cons a _ ih=>simp only[sizeL];have:=a.size;omega
 have hmem:∀y∈q,∃c∈l,TidyOf c y:=by
  clear h hsz
  induction hl with
  |nil=>simp
  |cons a _ ih=>
   intro y hy
   rcases List.mem_cons.1 hy with rfl|hy
   ·exact⟨_,by simp,a⟩
   ·obtain⟨c,hc,ht⟩:=ih y hy;exact⟨c,by simp[hc],ht⟩
 have key:∀y∈partsC q,isT y∧(isBot y=true∨single y=true)∧1+y.depth≤C.depth (.and l)∧(C.wf (.and l)→y.wf)∧(bareB y=true→bareB (.and l)=true):=by
  intro y hy
  obtain⟨z,hz,hyz⟩:=mem_parts.1 hy
  obtain⟨c,hc,ht⟩:=hmem z hz
  refine⟨(isT_flat ht.t hyz).1,(isT_flat ht.t hyz).2,?_,fun hw=>wf_flat (ht.wf (wfL_mem.1 hw.2 c hc)) hyz,fun hb=>bareL_mem.2 ⟨c,hc,ht.bare (bare_flat hb hyz)⟩⟩
  have h1:=(depthL_iff (l:=l)).1 (Nat.le_refl _) c hc
  have h2:=depth_flat hyz
  have h3:=ht.depth
  simp only[C.depth];omega
 have hps:sizeL (partsC q)≤sizeL l:=Nat.le_trans (size_parts_le q) hsz
 have hlt:(partsC q).Pairwise (fun x y=>cmpC x y<0):=compactC_lt _ (sortC_sorted _)
 have h':(if(partsC q).any isBot then some C.bot else match partsC q with
  |[]=>some C.top
  |[x]=>some x
  |l=>if l.length≤8 then some (.and l)else none)=some x:=h
 generalize partsC q=p at key hps hlt h'
 by_cases hb:p.any isBot=true
 ·rw[if_pos hb]at h'
  obtain rfl:=Option.some.inj h'
  exact⟨trivial,by simp only[C.size];omega,by simp[C.depth],fun _=>trivial,fun h=>by simp[bareB]at h⟩
 ·rw[if_neg hb]at h'
  have hb':∀y∈p,single y=true:=fun y hy=>by
   rcases(key y hy).2.1 with h|h
   ·exact absurd (List.any_eq_true.2 ⟨y,hy,h⟩) hb
   ·exact h
  match p,h' with
  |[],h'=>
   obtain rfl:=Option.some.inj h'
   exact⟨trivial,by simp only[C.size];omega,by simp[C.depth],fun _=>trivial,fun h=>by simp[bareB]at h⟩
  |[y],h'=>
   obtain rfl:=Option.some.inj h'
   have k:=key y (by simp)
   simp only[sizeL]at hps
   exact⟨k.1,by simp only[C.size];omega,by omega,k.2.2.2.1,k.2.2.2.2⟩
  |a::b::r,h'=>
   by_cases h8:(a::b::r).length≤8
   ·simp only[h8,if_true]at h'
    obtain rfl:=Option.some.inj h'
    refine⟨⟨by simp,h8,hlt,List.all_eq_true.2 hb',isTL_mem.2 fun y hy=>(key y hy).1⟩,by simp only[C.size];omega,?_,fun hw=>⟨by simp,wfL_mem.2 fun y hy=>(key y hy).2.2.2.1 hw⟩,fun hh=>?_⟩
    ·show depthL (a::b::r)≤_
     exact depthL_iff.2 fun y hy=>(key y hy).2.2.1
    ·obtain⟨y,hy,hby⟩:=bareL_mem.1 hh
     exact(key y hy).2.2.2.2 hby
   ·simp only[h8,if_false]at h'
    cases h'
theorem tidy_of:∀(n:Nat)(c x:C),c.size≤n→tidyC c=some x→TidyOf c x:=by
 intro n
 induction n with
 |zero=>intro c _ h;have:=C.size_pos c;omega
 |succ n ih=>
  have ihL:∀(l q:List C),sizeL l≤n→tidyL l=some q→All2 TidyOf l q:=by
   intro l
   induction l with
   |nil=>intro q _ h;simp only[tidyL,Option.some.injEq]at h;subst h;exact .nil
   |cons c r ihr=>
    intro q hs h
    simp only[sizeL]at hs
    simp only[tidyL]at h
    obtain⟨x,hx,h⟩:=Option.bind_eq_some_iff.1 h
    obtain⟨q',hq,rfl⟩:=Option.map_eq_some_iff.1 h
    exact .cons (ih c x (by omega) hx) (ihr q' (by omega) hq)
  intro c x hn h
  cases c with
  |and l=>
   simp only[C.size]at hn
   simp only[tidyC]at h
   obtain⟨q,hq,h⟩:=Option.bind_eq_some_iff.1 h
   exact meet_of (ihL l q (by omega) hq) h
  |some r c=>
   simp only[C.size]at hn
   simp only[tidyC]at h
   obtain⟨y,hy,rfl⟩:=Option.map_eq_some_iff.1 h
   have k:=ih c y (by omega) hy
   by_cases hb:isBot y=true
   ·rw[if_pos hb]
    exact⟨trivial,by simp only[C.size];omega,by simp[C.depth],fun _=>trivial,fun h=>by simp[bareB]at h⟩
   ·rw[if_neg hb]
    exact⟨⟨by simpa using hb,k.t⟩,by have:=k.size;simp only[C.size];omega,by have:=k.depth;simp only[C.depth];omega,fun hw=>⟨hw.1,k.wf hw.2⟩,fun h=>by simp[bareB]at h⟩
  |_=>
   simp only[tidyC,Option.some.injEq]at h
   subst h
   exact⟨trivial,Nat.le_refl _,Nat.le_refl _,id,id⟩
theorem flat_single{c:C}(h:single c=true):flatC c=[c]:=by cases c<;>simp[single]at h<;>rfl
theorem single_bot{c:C}(h:single c=true):isBot c=false:=by cases c<;>simp[single]at h<;>rfl
theorem tidy_id:∀(n:Nat)(c:C),c.size≤n→isT c→tidyC c=some c:=by
 intro n
 induction n with
 |zero=>intro c h;have:=C.size_pos c;omega
 |succ n ih=>
  intro c hn h
  cases c with
  |and l=>
   simp only[C.size]at hn
   obtain⟨h2,h8,hp,hs,hT⟩:=h
   have hl:∀m:List C,sizeL m≤n→isTL m→tidyL m=some m:=by
    intro m
    induction m with
    |nil=>intro _ _;rfl
    |cons a r ihr=>
     intro hs ht
     simp only[sizeL]at hs
     simp only[tidyL,ih a (by omega) ht.1,ihr (by omega) ht.2,Option.bind_some,Option.map_some]
   have hf:∀m:List C,m.all single=true→m.flatMap flatC=m:=by
    intro m
    induction m with
    |nil=>intro _;rfl
    |cons a r ihr=>
     intro h
     simp only[List.all_cons,Bool.and_eq_true]at h
     rw[List.flatMap_cons,flat_single h.1,ihr h.2];rfl
   have hnb:l.any isBot=false:=by
    rw[List.any_eq_false]
    intro y hy
    simp[single_bot (List.all_eq_true.1 hs y hy)]
   have hm:partsC l=l:=by
    rw[partsC,hf l hs,←sortC_unique (List.Perm.refl l) (hp.imp (fun h=>by omega)),compactC_id l hp]
   have e:meetC l=some (.and l):=by
    show(if(partsC l).any isBot then some C.bot else match partsC l with
     |[]=>some C.top
     |[x]=>some x
     |l=>if l.length≤8 then some (.and l)else none)=_
    rw[hm,hnb]
    match l,h2 with
    |a::b::r,_=>simp;simpa using h8
   rw[tidyC,hl l (by omega) hT,Option.bind_some,e]
  |some r c=>
   simp only[C.size]at hn
   rw[tidyC,ih c (by omega) h.2,Option.map_some,h.1];rfl
  |_=>rfl
theorem tidyC_of{c x:C}(h:tidyC c=some x):TidyOf c x:=tidy_of c.size c x (Nat.le_refl _) h
theorem tidyC_id{c:C}(h:isT c):tidyC c=some c:=tidy_id c.size c (Nat.le_refl _) h
end Go.VT
namespace Go.VT
mutual
def flat8:C→Bool
 |.and l=>decide (l.length≤8)&&flat8L l
 |.some _ c=>flat8 c
 |_=>true
def flat8L:List C→Bool
 |[]=>true
 |c::r=>flat8 c&&flat8L r
end
theorem flat8L_mem{l:List C}:flat8L l=true↔∀x∈l,flat8 x=true:=by
 induction l with
 |nil=>simp[flat8L]
 |cons a r ih=>simp[flat8L,ih]
theorem isT_flat8:∀(n:Nat)(c:C),c.size≤n→isT c→flat8 c=true:=by
 intro n
 induction n with
 |zero=>intro c h;have:=C.size_pos c;omega
 |succ n ih=>
  intro c hn h
  cases c with
  |and l=>
   simp only[C.size]at hn
   simp only[flat8,Bool.and_eq_true,decide_eq_true_eq]
   exact⟨h.2.1,flat8L_mem.2 fun x hx=>ih x (by have:=size_mem hx;omega) (isTL_mem.1 h.2.2.2.2 x hx)⟩
  |some r c=>simp only[C.size]at hn;exact ih c (by omega) h.2
  |_=>rfl
def okP(c:C):Bool:=decide (c.depth≤8)&&decide (c.size≤64)&&flat8 c
theorem tidy_okP{c x:C}(h:tidyC c=some x)(hc:okP c=true):okP x=true:=by
 have k:=tidyC_of h
 simp only[okP,Bool.and_eq_true,decide_eq_true_eq]at hc⊢
 exact⟨⟨by have:=k.depth;omega,by have:=k.size;omega⟩,isT_flat8 x.size x (Nat.le_refl _) k.t⟩
def okK:K→Bool
 |.sub l r=>okP l&&okP r&& !bareB r
 |.equiv l r=>okP l&&okP r&& !bareB l&& !bareB r
 |.disj l r=>okP l&&okP r
 |.dom _ c=>okP c&& !bareB c
 |.typ _ c=>okP c&& !bareB c
 |_=>true
def tidyK:K→Option K
 |.sub l r=>(tidyC l).bind fun x=>(tidyC r).map fun y=>.sub x y
 |.equiv l r=>(tidyC l).bind fun x=>(tidyC r).map fun y=>if 0<cmpC x y then .equiv y x else .equiv x y
 |.disj l r=>(tidyC l).bind fun x=>(tidyC r).map fun y=>if 0<cmpC x y then .disj y x else .disj x y
 |.dom s c=>(tidyC c).map fun x=>.dom s x
 |.typ s c=>(tidyC c).map fun x=>.typ s x
 |.rsub r s=>some (.rsub r s)
 |.chain l s=>some (.chain l s)
 |.refl s=>some (.refl s)
 |.link a r b=>some (.link a r b)
structure TidyK(k x:K):Prop where
 ok:okK x=true
 wf:k.wf→x.wf
 id:tidyK x=some x
 roley:x.roley=k.roley
theorem nbare{c x:C}(h:tidyC c=some x)(hb:bareB c=false):bareB x=false:=by
 cases hx:bareB x
 ·rfl
 ·rw[(tidyC_of h).bare hx]at hb;cases hb
theorem tidyK_of{k x:K}(hk:okK k=true)(h:tidyK k=some x):TidyK k x:=by
 have idem:∀{c y:C},tidyC c=some y→tidyC y=some y:=fun h=>tidyC_id (tidyC_of h).t
 cases k with
 |sub l r=>
  simp only[okK,Bool.and_eq_true,Bool.not_eq_true']at hk
  simp only[tidyK]at h
  obtain⟨a,ha,h⟩:=Option.bind_eq_some_iff.1 h
  obtain⟨b,hb,rfl⟩:=Option.map_eq_some_iff.1 h
  refine⟨by simp[okK,tidy_okP ha hk.1.1,tidy_okP hb hk.1.2,nbare hb hk.2],fun hw=>⟨(tidyC_of ha).wf hw.1,(tidyC_of hb).wf hw.2⟩,?_,rfl⟩
  simp[tidyK,idem ha,idem hb]
 |equiv l r=>
  simp only[okK,Bool.and_eq_true,Bool.not_eq_true']at hk
  simp only[tidyK]at h
  obtain⟨a,ha,h⟩:=Option.bind_eq_some_iff.1 h
  obtain⟨b,hb,rfl⟩:=Option.map_eq_some_iff.1 h
  have han:=cmpC_anti a b
  have h1:=tidy_okP ha hk.1.1.1;have h2:=tidy_okP hb hk.1.1.2;have h3:=nbare ha hk.1.2;have h4:=nbare hb hk.2
  split
  ·refine⟨by simp[okK,h1,h2,h3,h4],fun hw=>⟨(tidyC_of hb).wf hw.2,(tidyC_of ha).wf hw.1⟩,?_,rfl⟩
   simp only[tidyK,idem ha,idem hb,Option.bind_some,Option.map_some]
   rw[if_neg (by omega)]
  ·refine⟨by simp[okK,h1,h2,h3,h4],fun hw=>⟨(tidyC_of ha).wf hw.1,(tidyC_of hb).wf hw.2⟩,?_,rfl⟩
   simp only[tidyK,idem ha,idem hb,Option.bind_some,Option.map_some]
   rw[if_neg (by omega)]
 |disj l r=>
  simp only[okK,Bool.and_eq_true]at hk
  simp only[tidyK]at h
  obtain⟨a,ha,h⟩:=Option.bind_eq_some_iff.1 h
  obtain⟨b,hb,rfl⟩:=Option.map_eq_some_iff.1 h
  have han:=cmpC_anti a b
  have h1:=tidy_okP ha hk.1;have h2:=tidy_okP hb hk.2
  split
  ·refine⟨by simp[okK,h1,h2],fun hw=>⟨(tidyC_of hb).wf hw.2,(tidyC_of ha).wf hw.1⟩,?_,rfl⟩
   simp only[tidyK,idem ha,idem hb,Option.bind_some,Option.map_some]
   rw[if_neg (by omega)]
  ·refine⟨by simp[okK,h1,h2],fun hw=>⟨(tidyC_of ha).wf hw.1,(tidyC_of hb).wf hw.2⟩,?_,rfl⟩
   simp only[tidyK,idem ha,idem hb,Option.bind_some,Option.map_some]
   rw[if_neg (by omega)]
 |dom s c=>
  simp only[okK,Bool.and_eq_true,Bool.not_eq_true']at hk
  simp only[tidyK]at h
  obtain⟨b,hb,rfl⟩:=Option.map_eq_some_iff.1 h
  exact⟨by simp[okK,tidy_okP hb hk.1,nbare hb hk.2],fun hw=>⟨hw.1,(tidyC_of hb).wf hw.2⟩,by simp[tidyK,idem hb],rfl⟩
 |typ s c=>
  simp only[okK,Bool.and_eq_true,Bool.not_eq_true']at hk
  simp only[tidyK]at h
  obtain⟨b,hb,rfl⟩:=Option.map_eq_some_iff.1 h
  exact⟨by simp[okK,tidy_okP hb hk.1,nbare hb hk.2],fun hw=>⟨hw.1,(tidyC_of hb).wf hw.2⟩,by simp[tidyK,idem hb],rfl⟩
 |_=>
  simp only[tidyK,Option.some.injEq]at h
  subst h
  exact⟨rfl,fun hw=>hw,rfl,rfl⟩
def Ax.tidy(x:Ax):Option Ax:=if okK x.k then(tidyK x.k).map fun k=>⟨x.op,k⟩else none
theorem Ax.tidy_of{x y:Ax}(h:x.tidy=some y):TidyK x.k y.k∧y.op=x.op∧y.tidy=some y:=by
 unfold Ax.tidy at h
 split at h
 ·rename_i hk
  obtain⟨k,hk',rfl⟩:=Option.map_eq_some_iff.1 h
  have t:=tidyK_of hk hk'
  exact⟨t,rfl,by unfold Ax.tidy;rw[if_pos t.ok,t.id];rfl⟩
 ·cases h
end Go.VT
