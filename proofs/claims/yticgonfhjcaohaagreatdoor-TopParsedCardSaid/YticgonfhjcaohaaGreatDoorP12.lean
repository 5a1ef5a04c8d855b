/- TopParsed, part 12. -/
import Derived.Test.YticgonfhjcaohaaGreatDoorP08
set_option maxRecDepth 100000
set_option maxHeartbeats 32000000
namespace Go.VT
mutual
def textC:C→Bs
 |.top=>w_everything
 |.bot=>w_nothing
 |.named s=>s
 |.nom s=>123::s++[125]
 |.and []=>[]
 |.and (c::l)=>textO c++textR l
 |.some r c=>w_some++32::(r++32::textO c)
 |.range f lo hi=>f++32::(w_in++32::(Lib.itoa lo++32::(w_to++32::Lib.itoa hi)))
def textO:C→Bs
 |.and []=>[40,41]
 |.and (c::l)=>40::(textO c++textR l)++[41]
 |.top=>w_everything
 |.bot=>w_nothing
 |.named s=>s
 |.nom s=>123::s++[125]
 |.some r c=>w_some++32::(r++32::textO c)
 |.range f lo hi=>f++32::(w_in++32::(Lib.itoa lo++32::(w_to++32::Lib.itoa hi)))
def textR:List C→Bs
 |[]=>[]
 |c::l=>32::(w_and++32::textO c)++textR l
end
theorem textO_and(l:List C):textO (.and l)=40::textC (.and l)++[41]:=by cases l<;>simp[textO,textC]
theorem textO_no{c:C}(h:isAnd c=false):textO c=textC c:=by cases c<;>simp[isAnd]at h<;>simp[textO,textC]
theorem join_cons(x:Bs)(r:List Bs)(sep:Bs):Lib.join (x::r) sep=x++(r.map (sep++ ·)).flatten:=by
 simp only[Lib.join]
 induction r generalizing x with
 |nil=>simp[List.intercalate]
 |cons y r ih=>
  have:=ih y
  simp only[List.intercalate]at this⊢
  rw[List.intersperse_cons_cons,List.flatten_cons,List.flatten_cons,this]
  simp
theorem join_and(l:List C):Lib.join (l.map textO) (32::w_and++[32])=textC (.and l):=by
 cases l with
 |nil=>simp[Lib.join,List.intercalate,textC]
 |cons c l=>
  rw[List.map_cons,join_cons,textC]
  congr 1
  induction l with
  |nil=>simp[textR]
  |cons a l ih=>rw[List.map_cons,List.map_cons,List.flatten_cons,ih,textR];simp
theorem textR_stop(l:List C)(rest:Bs)(h:stopB rest=true):stopB (textR l++rest)=true:=by
 cases l with
 |nil=>simpa[textR]using h
 |cons c l=>rw[textR];rfl
theorem Lx_text:∀(n:Nat)(c:C),c.size≤n→c.wf→Lx (textC c) (tokC c)∧Lx (textO c) (tokO c):=by
 intro n
 induction n with
 |zero=>intro c h;have:=C.size_pos c;omega
 |succ n ih=>
  intro c hn hw
  have hO:Lx (textC c) (tokC c)→Lx (textO c) (tokO c):=by
   intro h
   cases hA:isAnd c
   ·rw[tokO_no hA,textO_no hA];exact h
   ·cases c with
    |and l=>
     rw[tokO_and,textO_and]
     exact(Lx.sign (by decide) h).close (by decide) (by decide)
    |_=>simp[isAnd]at hA
  have hC:Lx (textC c) (tokC c):=by
   cases c with
   |top=>rw[textC,tokC];exact Lx.key (by decide)
   |bot=>rw[textC,tokC];exact Lx.key (by decide)
   |named s=>rw[textC,tokC];exact Lx.name hw
   |nom s=>
    rw[textC,tokC]
    exact(Lx.sign (by decide) (Lx.name hw)).close (by decide) (by decide)
   |some r c=>
    simp only[C.size]at hn
    rw[textC,tokC]
    exact(Lx.key (s:=w_some) (by decide)).sp ((Lx.name hw.1).sp (ih c (by omega) hw.2).2)
   |range f lo hi=>
    rw[textC,tokC]
    obtain⟨h1,h2,h3,h4⟩:=hw
    exact(Lx.name h1).sp ((Lx.key (s:=w_in) (by decide)).sp ((Lx.num h2 (by omega)).sp ((Lx.key (s:=w_to) (by decide)).sp (Lx.num (by omega) h4))))
   |and l=>
    simp only[C.size]at hn
    have hR:∀l:List C,sizeL l≤n→C.wf.wfL l→Lx (textR l) (tokR l):=by
     intro l
     induction l with
     |nil=>intro _ _;rw[textR,tokR];exact Lx.nil
     |cons a q ihq=>
      intro hs hw
      simp only[sizeL]at hs
      rw[textR,tokR]
      exact(((Lx.key (s:=w_and) (by decide)).sp (ih a (by omega) hw.1).2).blank (by decide)).app (ihq (by omega) hw.2) (textR_stop q)
    cases l with
    |nil=>exact absurd hw.1 (by simp)
    |cons a q=>
     simp only[sizeL]at hn
     rw[textC,tokC]
     exact(ih a (by omega) hw.2.1).2.app (hR q (by omega) hw.2.2) (textR_stop q)
  exact⟨hC,hO hC⟩
theorem Lx_C{c:C}(hw:c.wf):Lx (textC c) (tokC c):=(Lx_text c.size c (Nat.le_refl _) hw).1
def textK:K→Bs
 |.sub l r=>textC l++32::(w_sub++32::textC r)
 |.equiv l r=>textC l++32::(w_same++32::textC r)
 |.disj l r=>textC l++32::(w_disjoint++32::textC r)
 |.dom s c=>w_domain++32::(s++32::textC c)
 |.rsub r s=>w_role++32::(r++32::(w_sub++32::s))
 |.chain l s=>w_chain++32::(Lib.join l [32]++32::(w_sub++32::s))
 |.refl s=>w_reflexive++32::s
 |.typ a c=>w_type++32::(a++32::textC c)
 |.link a r b=>w_link++32::(a++32::(r++32::b))
def preA(x:Ax):Bs:=if x.k.roley then(if x.op then[]else w_private++[32])else if x.op then w_open++[32]else[]
def textA(x:Ax):Bs:=preA x++textK x.k
theorem Lx_join(l:List Bs)(hl:∀x∈l,plainB x=true):Lx (Lib.join l [32]) (l.map fun r=>((1:Int),r)):=by
 cases l with
 |nil=>simp only[Lib.join,List.intercalate];exact Lx.nil
 |cons a l=>
  rw[join_cons,List.map_cons]
  have:∀l:List Bs,(∀x∈l,plainB x=true)→Lx (l.map ([32]++ ·)).flatten (l.map fun r=>((1:Int),r))∧∀rest,stopB rest=true→stopB ((l.map ([32]++ ·)).flatten++rest)=true:=by
   intro l
   induction l with
   |nil=>intro _;exact⟨Lx.nil,fun _ h=>h⟩
   |cons b l ih=>
    intro h
    have k:=ih (fun x hx=>h x (by simp[hx]))
    rw[List.map_cons,List.map_cons,List.flatten_cons]
    exact⟨((Lx.name (h b (by simp))).blank (by decide)).app k.1 k.2,fun _ _=>by rfl⟩
  have k:=this l (fun x hx=>hl x (by simp[hx]))
  exact(Lx.name (hl a (by simp))).app k.1 k.2
theorem Lx_K{k:K}(hw:k.wf):Lx (textK k) (tokK k):=by
 cases k with
 |sub l r=>exact(Lx_C hw.1).sp ((Lx.key (s:=w_sub) (by decide)).sp (Lx_C hw.2))
 |equiv l r=>exact(Lx_C hw.1).sp ((Lx.key (s:=w_same) (by decide)).sp (Lx_C hw.2))
 |disj l r=>exact(Lx_C hw.1).sp ((Lx.key (s:=w_disjoint) (by decide)).sp (Lx_C hw.2))
 |dom s c=>exact(Lx.key (s:=w_domain) (by decide)).sp ((Lx.name hw.1).sp (Lx_C hw.2))
 |typ s c=>exact(Lx.key (s:=w_type) (by decide)).sp ((Lx.name hw.1).sp (Lx_C hw.2))
 |rsub r s=>exact(Lx.key (s:=w_role) (by decide)).sp ((Lx.name hw.1).sp ((Lx.key (s:=w_sub) (by decide)).sp (Lx.name hw.2)))
 |refl s=>exact(Lx.key (s:=w_reflexive) (by decide)).sp (Lx.name hw)
 |link a r b=>exact(Lx.key (s:=w_link) (by decide)).sp ((Lx.name hw.1).sp ((Lx.name hw.2.1).sp (Lx.name hw.2.2)))
 |chain l s=>
  have:=(Lx.key (s:=w_chain) (by decide)).sp ((Lx_join l hw.2.2.1).sp ((Lx.key (s:=w_sub) (by decide)).sp (Lx.name hw.2.2.2)))
  simpa[textK,tokK]using this
theorem Lx_A{x:Ax}(hw:x.k.wf):Lx (textA x) (tokA x):=by
 have h:=Lx_K hw
 have pre:∀s:Bs,s∈kws→Lx (s++[32]++textK x.k) ([(1,s)]++tokK x.k):=fun s hs=>by
  rw[List.append_assoc];exact(Lx.key hs).sp h
 unfold textA tokA preA
 cases x.k.roley<;>cases x.op<;>simp only[Bool.false_eq_true,if_true,if_false]
 ·exact h
 ·exact pre _ (by decide)
 ·exact pre _ (by decide)
 ·exact h
def textD(l:List Ax):Bs:=l.flatMap fun x=>textA x++[46,10]
theorem Lx_D(l:List Ax)(hl:∀x∈l,x.k.wf):∀n,lexF (n+(tokD l).length) (textD l)=(tokD l,true):=by
 induction l with
 |nil=>intro n;cases n<;>rfl
 |cons x l ih=>
  intro n
  have h1:=(Lx_A (hl x (by simp))).close (c:=46) (by decide) (by decide)
  have h2:textD (x::l)=textA x++46::(10::textD l):=by simp[textD]
  have h3:tokD (x::l)=tokA x++(3,[46])::tokD l:=by simp[tokD]
  have k1:=Lx_A (hl x (by simp)) (n+(tokD l).length+1) (46::10::textD l) rfl
  rw[h2,h3,List.length_append,List.length_cons,show n+((tokA x).length+((tokD l).length+1))=n+(tokD l).length+1+(tokA x).length by omega,k1,lex_sign 46 (by decide),lex_blank 10 (by decide),ih (fun y hy=>hl y (by simp[hy]))]
theorem name_len{s:Bs}(h:plainB s=true):s.length≤24:=by simp only[plainB,Bool.and_eq_true,decide_eq_true_eq]at h;exact h.1.1
theorem text_len:∀(n:Nat)(c:C),c.size≤n→c.wf→(textC c).length+1≤25*(tokC c).length∧(textO c).length+1≤25*(tokO c).length:=by
 intro n
 induction n with
 |zero=>intro c h;have:=C.size_pos c;omega
 |succ n ih=>
  intro c hn hw
  have hO:(textC c).length+1≤25*(tokC c).length→(textO c).length+1≤25*(tokO c).length:=by
   intro h
   cases hA:isAnd c
   ·rw[tokO_no hA,textO_no hA];exact h
   ·cases c with
    |and l=>rw[tokO_and,textO_and];simp only[List.length_append,List.length_cons,List.length_nil];omega
    |_=>simp[isAnd]at hA
  have hC:(textC c).length+1≤25*(tokC c).length:=by
   cases c with
   |top=>rw[textC,tokC];decide
   |bot=>rw[textC,tokC];decide
   |named s=>rw[textC,tokC];have:=name_len (s:=s) hw;simp only[List.length_cons,List.length_nil];omega
   |nom s=>rw[textC,tokC];have:=name_len (s:=s) hw;simp only[List.length_append,List.length_cons,List.length_nil];omega
   |some r c=>
    simp only[C.size]at hn
    have h1:=name_len hw.1
    have h2:=(ih c (by omega) hw.2).2
    rw[textC,tokC];simp only[List.length_append,List.length_cons,List.length_nil];omega
   |range f lo hi=>
    obtain⟨h1,h2,h3,h4⟩:=hw
    have k1:=name_len h1
    have k2:=(itoa_num h2 (by omega)).2.2.1
    have k3:=(itoa_num (n:=hi) (by omega) h4).2.2.1
    rw[textC,tokC];simp only[List.length_append,List.length_cons,List.length_nil];omega
   |and l=>
    simp only[C.size]at hn
    have hR:∀l:List C,sizeL l≤n→C.wf.wfL l→(textR l).length≤25*(tokR l).length:=by
     intro l
     induction l with
     |nil=>intro _ _;rw[textR,tokR];decide
     |cons a q ihq=>
      intro hs hw
      simp only[sizeL]at hs
      have h1:=(ih a (by omega) hw.1).2
      have h2:=ihq (by omega) hw.2
      rw[textR,tokR];simp only[List.length_append,List.length_cons,List.length_nil];omega
    cases l with
    |nil=>exact absurd hw.1 (by simp)
    |cons a q=>
     simp only[sizeL]at hn
     have h1:=(ih a (by omega) hw.2.1).2
     have h2:=hR q (by omega) hw.2.2
     rw[textC,tokC];simp only[List.length_append];omega
  exact⟨hC,hO hC⟩
theorem textC_len{c:C}(hw:c.wf):(textC c).length+1≤25*(tokC c).length:=(text_len c.size c (Nat.le_refl _) hw).1
theorem join_len(l:List Bs)(hl:∀x∈l,plainB x=true):(Lib.join l [32]).length≤25*l.length:=by
 cases l with
 |nil=>simp[Lib.join,List.intercalate]
 |cons a l=>
  rw[join_cons]
  have:∀l:List Bs,(∀x∈l,plainB x=true)→((l.map ([32]++ ·)).flatten).length≤25*l.length:=by
   intro l
   induction l with
   |nil=>intro _;simp
   |cons b l ih=>
    intro h
    have k:=ih (fun x hx=>h x (by simp[hx]))
    have:=name_len (h b (by simp))
    rw[List.map_cons,List.flatten_cons]
    simp only[List.length_append,List.length_cons,List.length_nil]at k⊢;omega
  have k:=this l (fun x hx=>hl x (by simp[hx]))
  have:=name_len (hl a (by simp))
  rw[List.length_append]
  refine Nat.le_trans (Nat.add_le_add_left k _) ?_
  simp only[List.length_cons];omega
theorem textA_len{x:Ax}(hw:x.k.wf):(textA x).length≤25*(tokA x).length:=by
 have h:(textK x.k).length≤25*(tokK x.k).length:=by
  revert hw
  cases x.k<;>intro hw<;>simp only[textK,tokK,List.length_append,List.length_cons,List.length_nil,List.length_map]
  ·have:=textC_len hw.1;have:=textC_len hw.2;omega
  ·have:=textC_len hw.1;have:=textC_len hw.2;omega
  ·have:=textC_len hw.1;have:=textC_len hw.2;omega
  ·have:=name_len hw.1;have:=textC_len hw.2;omega
  ·have:=name_len hw.1;have:=name_len hw.2;omega
  ·rename_i l s
   have:=join_len l hw.2.2.1;have:=name_len hw.2.2.2;omega
  ·rename_i s;have:=name_len (s:=s) hw;omega
  ·have:=name_len hw.1;have:=textC_len hw.2;omega
  ·have:=name_len hw.1;have:=name_len hw.2.1;have:=name_len hw.2.2;omega
 unfold textA tokA preA
 cases x.k.roley<;>cases x.op<;>simp<;>omega
theorem textD_len(l:List Ax)(hl:∀x∈l,x.k.wf):(textD l).length≤25*(tokD l).length:=by
 induction l with
 |nil=>simp[textD,tokD]
 |cons x l ih=>
  have h1:=ih (fun y hy=>hl y (by simp[hy]))
  have h2:=textA_len (hl x (by simp))
  simp only[textD,tokD,List.flatMap_cons,List.length_append,List.length_cons,List.length_nil]at h1⊢
  omega
def unitL(l:List C):Nat:=match l with| []=>0|c::r=>(tokO c).length+1+unitL r
theorem unitL_R(l:List C):unitL l=(tokR l).length:=by
 induction l with
 |nil=>simp[unitL,tokR]
 |cons a l ih=>rw[unitL,tokR];simp only[List.length_append,List.length_cons];omega
theorem unitL_and{l:List C}(h:l≠[]):unitL l=(tokC (.and l)).length+1:=by
 cases l with
 |nil=>exact absurd rfl h
 |cons a l=>rw[unitL,tokC,unitL_R];simp only[List.length_append];omega
theorem unitL_app(l m:List C):unitL (l++m)=unitL l+unitL m:=by
 induction l with
 |nil=>simp[unitL]
 |cons a r ih=>simp only[List.cons_append,unitL,ih];omega
theorem unitL_sub{l m:List C}(h:l.Sublist m):unitL l≤unitL m:=by
 induction h with
 |slnil=>simp
 |cons a _ ih=>simp only[unitL];omega
 |cons_cons a _ ih=>simp only[unitL];omega
theorem unitL_perm{l m:List C}(h:l.Perm m):unitL l=unitL m:=by
 induction h with
 |nil=>rfl
 |cons a _ ih=>simp only[unitL,ih]
 |swap a b l=>simp only[unitL];omega
 |trans _ _ ih1 ih2=>exact ih1.trans ih2
theorem unit_flat(y:C):unitL (flatC y)≤(tokO y).length+1:=by
 cases y with
 |top=>simp[flatC,unitL]
 |and l=>
  cases l with
  |nil=>simp[flatC,unitL]
  |cons a l=>rw[flatC,unitL_and (by simp),tokO_and];simp
 |_=>simp[flatC,unitL]
theorem tokO_pos{c:C}(hw:c.wf):1≤(tokC c).length∧1≤(tokO c).length:=by
 have:=(text_len c.size c (Nat.le_refl _) hw)
 omega
theorem tidy_tok:∀(n:Nat)(c x:C),c.size≤n→c.wf→tidyC c=some x→(tokC x).length≤(tokC c).length∧(tokO x).length≤(tokO c).length:=by
 intro n
 induction n with
 |zero=>intro c x h;have:=C.size_pos c;omega
 |succ n ih=>
  intro c x hn hw h
  cases c with
  |some r c=>
   simp only[C.size]at hn
   simp only[tidyC]at h
   obtain⟨y,hy,rfl⟩:=Option.map_eq_some_iff.1 h
   have k:=ih c y (by omega) hw.2 hy
   split<;>simp only[tokC,tokO,List.length_cons,List.length_nil]<;>omega
  |and l=>
   simp only[C.size]at hn
   simp only[tidyC]at h
   obtain⟨q,hq,h⟩:=Option.bind_eq_some_iff.1 h
   have hL:∀(l q:List C),sizeL l≤n→C.wf.wfL l→tidyL l=some q→unitL q≤unitL l:=by
    intro l
    induction l with
    |nil=>intro q _ _ h;simp only[tidyL,Option.some.injEq]at h;subst h;exact Nat.le_refl _
    |cons c r ihr=>
     intro q hs hw h
     simp only[sizeL]at hs
     simp only[tidyL]at h
     obtain⟨x,hx,h⟩:=Option.bind_eq_some_iff.1 h
     obtain⟨q',hq,rfl⟩:=Option.map_eq_some_iff.1 h
     have h1:=(ih c x (by omega) hw.1 hx).2
     have h2:=ihr q' (by omega) hw.2 hq
     simp only[unitL];omega
   have h1:=hL l q (by omega) hw.2 hq
   have h2:unitL (partsC q)≤unitL q:=by
    refine Nat.le_trans (unitL_sub (compactC_sub _)) ?_
    rw[unitL_perm (sortC_perm _)]
    clear h h1 hq
    induction q with
    |nil=>simp[unitL]
    |cons a r ih=>rw[List.flatMap_cons,unitL_app,unitL];have:=unit_flat a;omega
   have hne:l≠[]:=by rintro rfl;exact absurd hw.1 (by simp)
   have h3:=unitL_and hne
   have hpos:=(tokO_pos (c:=.and l) hw).1
   have hO:(tokO (.and l)).length=(tokC (.and l)).length+2:=by rw[tokO_and];simp
   have h':(if(partsC q).any isBot then some C.bot else match partsC q with
    |[]=>some C.top
    |[x]=>some x
    |l=>if l.length≤8 then some (.and l)else none)=some x:=h
   have b1:(tokC C.bot).length=1∧(tokO C.bot).length=1∧(tokC C.top).length=1∧(tokO C.top).length=1:=by rw[tokC,tokO,tokC,tokO];decide
   generalize partsC q=p at h2 h'
   split at h'
   ·obtain rfl:=Option.some.inj h'
    omega
   ·match p,h' with
    |[],h'=>
     obtain rfl:=Option.some.inj h'
     omega
    |[y],h'=>
     obtain rfl:=Option.some.inj h'
     have:=tokC_le y
     simp only[unitL]at h2;omega
    |a::b::r,h'=>
     by_cases h8:(a::b::r).length≤8
     ·simp only[h8,if_true]at h'
      obtain rfl:=Option.some.inj h'
      have h4:=unitL_and (l:=a::b::r) (by simp)
      have h5:(tokO (.and (a::b::r))).length=(tokC (.and (a::b::r))).length+2:=by rw[tokO_and];simp
      omega
     ·simp only[h8,if_false]at h'
      cases h'
  |_=>
   simp only[tidyC,Option.some.injEq]at h
   subst h
   exact⟨Nat.le_refl _,Nat.le_refl _⟩
theorem tidyA_tok{x y:Ax}(hw:x.k.wf)(h:x.tidy=some y):(tokA y).length≤(tokA x).length:=by
 obtain⟨t,ho,_⟩:=Ax.tidy_of h
 have hk:(tokK y.k).length≤(tokK x.k).length:=by
  have tc:∀{c z:C},c.wf→tidyC c=some z→(tokC z).length≤(tokC c).length:=fun hw h=>(tidy_tok _ _ _ (Nat.le_refl _) hw h).1
  unfold Ax.tidy at h
  split at h
  ·obtain⟨k,hk,rfl⟩:=Option.map_eq_some_iff.1 h
   clear h t ho
   revert hw hk
   cases x.k<;>intro hw hk<;>simp only[tidyK]at hk
   ·obtain⟨a,ha,hk⟩:=Option.bind_eq_some_iff.1 hk
    obtain⟨b,hb,rfl⟩:=Option.map_eq_some_iff.1 hk
    have:=tc hw.1 ha;have:=tc hw.2 hb
    simp only[tokK,List.length_append,List.length_cons];omega
   ·obtain⟨a,ha,hk⟩:=Option.bind_eq_some_iff.1 hk
    obtain⟨b,hb,rfl⟩:=Option.map_eq_some_iff.1 hk
    have:=tc hw.1 ha;have:=tc hw.2 hb
    split<;>simp only[tokK,List.length_append,List.length_cons]<;>omega
   ·obtain⟨a,ha,hk⟩:=Option.bind_eq_some_iff.1 hk
    obtain⟨b,hb,rfl⟩:=Option.map_eq_some_iff.1 hk
    have:=tc hw.1 ha;have:=tc hw.2 hb
    split<;>simp only[tokK,List.length_append,List.length_cons]<;>omega
   ·obtain⟨b,hb,rfl⟩:=Option.map_eq_some_iff.1 hk
    have:=tc hw.2 hb
    simp only[tokK,List.length_cons];omega
   ·cases hk;exact Nat.le_refl _
   ·cases hk;exact Nat.le_refl _
   ·cases hk;exact Nat.le_refl _
   ·obtain⟨b,hb,rfl⟩:=Option.map_eq_some_iff.1 hk
    have:=tc hw.2 hb
    simp only[tokK,List.length_cons];omega
   ·cases hk;exact Nat.le_refl _
  ·cases h
 simp only[tokA,List.length_append,t.roley,ho];omega
theorem item_facts{N:Nat}{ts r:List Tk}{y:Ax}(h:pItemT N ts=some (y,r)):Good y∧(tokA y).length+1+r.length≤ts.length:=by
 rw[pItemT]at h
 obtain⟨⟨x,r1⟩,h1,h⟩:=Option.bind_eq_some_iff.1 h
 obtain⟨r2,h2,h⟩:=Option.bind_eq_some_iff.1 h
 obtain⟨z,h3,h⟩:=Option.map_eq_some_iff.1 h
 simp only[Prod.mk.injEq]at h
 obtain⟨rfl,rfl⟩:=h
 have f:=ax_facts h1
 have k2:r2.length+1=r1.length:=wantT_len h2 (by decide)
 have k3:=tidyA_tok f.1 h3
 exact⟨Good.of f.1 h3,by have:=f.2;omega⟩
end Go.VT
namespace Go.VT
abbrev o_thing:Bs:=[111,119,108,58,84,104,105,110,103]
abbrev o_nothing:Bs:=[111,119,108,58,78,111,116,104,105,110,103]
abbrev o_oneof:Bs:=[79,98,106,101,99,116,79,110,101,79,102]
abbrev o_inter:Bs:=[79,98,106,101,99,116,73,110,116,101,114,115,101,99,116,105,111,110,79,102]
abbrev o_somev:Bs:=[79,98,106,101,99,116,83,111,109,101,86,97,108,117,101,115,70,114,111,109]
abbrev o_datas:Bs:=[68,97,116,97,83,111,109,101,86,97,108,117,101,115,70,114,111,109]
abbrev o_restr:Bs:=[68,97,116,97,116,121,112,101,82,101,115,116,114,105,99,116,105,111,110]
abbrev o_xint:Bs:=[120,115,100,58,105,110,116,101,103,101,114]
abbrev o_minc:Bs:=[120,115,100,58,109,105,110,73,110,99,108,117,115,105,118,101]
abbrev o_maxc:Bs:=[120,115,100,58,109,97,120,73,110,99,108,117,115,105,118,101]
abbrev o_sub:Bs:=[83,117,98,67,108,97,115,115,79,102]
abbrev o_equiv:Bs:=[69,113,117,105,118,97,108,101,110,116,67,108,97,115,115,101,115]
abbrev o_disj:Bs:=[68,105,115,106,111,105,110,116,67,108,97,115,115,101,115]
abbrev o_dom:Bs:=[79,98,106,101,99,116,80,114,111,112,101,114,116,121,68,111,109,97,105,110]
abbrev o_rsub:Bs:=[83,117,98,79,98,106,101,99,116,80,114,111,112,101,114,116,121,79,102]
abbrev o_chain:Bs:=[79,98,106,101,99,116,80,114,111,112,101,114,116,121,67,104,97,105,110]
abbrev o_refl:Bs:=[82,101,102,108,101,120,105,118,101,79,98,106,101,99,116,80,114,111,112,101,114,116,121]
abbrev o_typ:Bs:=[67,108,97,115,115,65,115,115,101,114,116,105,111,110]
abbrev o_link:Bs:=[79,98,106,101,99,116,80,114,111,112,101,114,116,121,65,115,115,101,114,116,105,111,110]
abbrev o_ann:Bs:=[65,110,110,111,116,97,116,105,111,110]
abbrev o_prefix:Bs:=[80,114,101,102,105,120]
abbrev o_onto:Bs:=[79,110,116,111,108,111,103,121]
abbrev o_owl:Bs:=[111,119,108]
abbrev o_xsd:Bs:=[120,115,100]
abbrev o_owliri:Bs:=[60,104,116,116,112,58,47,47,119,119,119,46,119,51,46,111,114,103,47,50,48,48,50,47,48,55,47,111,119,108,35,62]
abbrev o_xsdiri:Bs:=[60,104,116,116,112,58,47,47,119,119,119,46,119,51,46,111,114,103,47,50,48,48,49,47,88,77,76,83,99,104,101,109,97,35,62]
abbrev o_copen:Bs:=[58,111,112,101,110]
abbrev o_true:Bs:=[34,116,114,117,101,34]
def nameW(s:Bs):Bs:=if s.contains 58 then s else 58::s
def facetW(w:Bs)(n:Int):Bs:=w++32::34::(Lib.itoa n++34::94::94::o_xint)
def spanW(lo hi:Int):Bs:=o_restr++40::(o_xint++32::(facetW o_minc lo++32::(facetW o_maxc hi++[41])))
mutual
def cW:C→Bs
 |.top=>o_thing
 |.bot=>o_nothing
 |.named s=>nameW s
 |.nom s=>o_oneof++40::(nameW s++[41])
 |.and []=>o_inter++[40,41]
 |.and (c::l)=>o_inter++40::(cW c++(rW l++[41]))
 |.some r c=>o_somev++40::(nameW r++32::(cW c++[41]))
 |.range f lo hi=>o_datas++40::(nameW f++32::(spanW lo hi++[41]))
def rW:List C→Bs
 |[]=>[]
 |c::l=>32::(cW c++rW l)
end
abbrev tL:KT:=(1,[40])
abbrev tR:KT:=(1,[41])
abbrev tN(s:Bs):KT:=(4,nameW s)
def facetT(w:Bs)(n:Int):List KT:=[(4,w),(3,34::(Lib.itoa n++[34])),(1,[94,94]),(4,o_xint)]
def spanT(lo hi:Int):List KT:=(4,o_restr)::tL::(4,o_xint)::(facetT o_minc lo++(facetT o_maxc hi++[tR]))
mutual
def cT:C→List KT
 |.top=>[(4,o_thing)]
 |.bot=>[(4,o_nothing)]
 |.named s=>[tN s]
 |.nom s=>[(4,o_oneof),tL,tN s,tR]
 |.and l=>(4,o_inter)::tL::(rT l++[tR])
 |.some r c=>(4,o_somev)::tL::tN r::(cT c++[tR])
 |.range f lo hi=>(4,o_datas)::tL::tN f::(spanT lo hi++[tR])
def rT:List C→List KT
 |[]=>[]
 |c::l=>cT c++rT l
end
def kW:K→Bs
 |.sub _ _=>o_sub|.equiv _ _=>o_equiv|.disj _ _=>o_disj|.dom _ _=>o_dom|.rsub _ _=>o_rsub|.chain _ _=>o_rsub
 |.refl _=>o_refl|.typ _ _=>o_typ|.link _ _ _=>o_link
def chainW(l:List Bs):Bs:=o_chain++40::(Lib.join (l.map nameW) [32]++[41])
def argsW:K→Bs
 |.sub l r=>cW l++32::cW r|.equiv l r=>cW l++32::cW r|.disj l r=>cW l++32::cW r
 |.dom r c=>nameW r++32::cW c
 |.rsub r s=>nameW r++32::nameW s
 |.chain l s=>chainW l++32::nameW s
 |.refl s=>nameW s
 |.typ a c=>cW c++32::nameW a
 |.link a r b=>nameW r++32::(nameW a++32::nameW b)
def argsT:K→List KT
 |.sub l r=>cT l++cT r|.equiv l r=>cT l++cT r|.disj l r=>cT l++cT r
 |.dom r c=>tN r::cT c
 |.rsub r s=>[tN r,tN s]
 |.chain l s=>(4,o_chain)::tL::(l.map tN++[tR,tN s])
 |.refl s=>[tN s]
 |.typ a c=>cT c++[tN a]
 |.link a r b=>[tN r,tN a,tN b]
def noteW:Bs:=o_ann++40::(o_copen++32::(o_true++[41]))
def noteT:List KT:=[(4,o_ann),tL,(4,o_copen),(3,o_true),tR]
def aW(x:Ax):Bs:=kW x.k++40::((if x.op then noteW++[32]else[])++(argsW x.k++[41]))
def aT(x:Ax):List KT:=(4,kW x.k)::tL::((if x.op then noteT else[])++(argsT x.k++[tR]))
def preW(v iri:Bs):Bs:=o_prefix++40::(v++58::61::(iri++[41]))
def preT(v iri:Bs):List KT:=[(4,o_prefix),tL,(4,v++[58]),(1,[61]),(2,iri),tR]
def iriX(v:Bs):Bs:=60::120::(v++[47,62])
def docW(ws:List Bs)(l:List Ax):Bs:=
 preW [] [60,120,62]++10::(preW o_owl o_owliri++10::(preW o_xsd o_xsdiri++10::(ws.flatMap (fun v=>preW v (iriX v)++[10])++(o_onto++40::10::(l.flatMap (fun x=>aW x++[10])++[41,10])))))
def docT(ws:List Bs)(l:List Ax):List KT:=
 preT [] [60,120,62]++(preT o_owl o_owliri++(preT o_xsd o_xsdiri++(ws.flatMap (fun v=>preT v (iriX v))++((4,o_onto)::tL::(l.flatMap aT++[tR])))))
def iriB(c:UInt8):Bool:=33≤c&&c≤126&&c != 60&&c != 62&&c != 34
def strB(c:UInt8):Bool:=32≤c&&c≤126&&c != 34
def owB(c:UInt8):Bool:=letterB c||digitB c||c==95||c==58
def blkB(c:UInt8):Bool:=c==9||c==10||c==13||c==32
def spanN(p:UInt8→Bool)(b:Bs):Nat:=(b.takeWhile p).length
def enclN(p:UInt8→Bool)(e:UInt8)(b:Bs):Nat:=
 let n:=1+spanN p b.tail
 match b.drop n with
 |c::_=>if c=e then n+1 else 0
 |[]=>0
def measO(b:Bs):Int×Nat:=match b with
 |[]=>(4,0)
 |c::r=>
  if c=40∨c=41∨c=61 then(1,1)
  else if c=94 then(match r with|d::_=>if d=94 then(1,2)else(1,0)| []=>(1,0))
  else if c=60 then(2,enclN iriB 62 b)
  else if c=34 then(3,enclN strB 34 b)
  else(4,spanN owB b)
structure Nx(b p:Bs)(k:Int)(s r:Bs):Prop where
 eq:b=p++(s++r)
 blk:p.all blkB=true
 ne:∃c q,s=c::q∧blkB c=false∧c≠35
 ms:measO (s++r)=(k,s.length)
inductive OLex:Bs→List KT→Prop
 |nil (b:Bs):b.all blkB=true→OLex b []
 |cons (b p:Bs) (k:Int) (s r:Bs) (l:List KT):Nx b p k s r→OLex r l→OLex b ((k,s)::l)
theorem OLex.blank{c:UInt8}(hc:blkB c=true){b:Bs}{l:List KT}(h:OLex b l):OLex (c::b) l:=by
 cases h with
 |nil _ h=>exact .nil _ (by simp[hc,h])
 |cons _ p k s r l h h2=>exact .cons _ (c::p) k s r l ⟨by rw[h.eq];rfl,by simp[hc,h.blk],h.ne,h.ms⟩ h2
def stopO:Bs→Bool
 |[]=>true
 |c::_=> !owB c
def Lo(b:Bs)(p:List KT):Prop:=∀rest q,stopO rest=true→OLex rest q→OLex (b++rest) (p++q)
theorem Lo.nil:Lo [] []:=fun _ _ _ h=>h
theorem Lo.app{a b:Bs}{p q:List KT}(h:Lo a p)(k:Lo b q)(hs:∀rest,stopO rest=true→stopO (b++rest)=true):Lo (a++b) (p++q):=fun rest s hr hl=>by
 rw[List.append_assoc,List.append_assoc]
 exact h _ _ (hs rest hr) (k rest s hr hl)
theorem Lo.blank{c:UInt8}(hc:blkB c=true){b:Bs}{q:List KT}(h:Lo b q):Lo (c::b) q:=fun rest s hr hl=>(h rest s hr hl).blank hc
theorem Lo.tok{s:Bs}{k:Int}(h0:∃c q,s=c::q∧blkB c=false∧c≠35)(hm:∀r,measO (s++r)=(k,s.length)){b:Bs}{q:List KT}(h:Lo b q):Lo (s++b) ((k,s)::q):=fun rest t hr hl=>by
 rw[List.append_assoc]
 exact .cons _ [] k s _ _ ⟨rfl,rfl,h0,hm _⟩ (h rest t hr hl)
theorem Lo.sign{c:UInt8}(hc:c=40∨c=41∨c=61){b:Bs}{q:List KT}(h:Lo b q):Lo (c::b) ((1,[c])::q):=
 Lo.tok (s:=[c]) ⟨c,[],rfl,by rcases hc with rfl|rfl|rfl<;>decide⟩ (fun r=>by simp[measO,hc]) h
theorem Lo.caret{b:Bs}{q:List KT}(h:Lo b q):Lo (94::94::b) ((1,[94,94])::q):=
 Lo.tok (s:=[94,94]) ⟨94,[94],rfl,by decide⟩ (fun r=>by simp[measO]) h
theorem spanN_app{p:UInt8→Bool}{s rest:Bs}(hs:s.all p=true)(hr:∀c r,rest=c::r→p c=false):spanN p (s++rest)=s.length:=by
 unfold spanN
 induction s with
 |nil=>
  cases rest with
  |nil=>rfl
  |cons c r=>simp[hr c r rfl]
 |cons a s ih=>
  simp only[List.all_cons,Bool.and_eq_true]at hs
  simp only[List.cons_append,List.takeWhile_cons,hs.1,if_true,List.length_cons]
  rw[ih hs.2]
theorem encl_app{p:UInt8→Bool}{a e:UInt8}{s r:Bs}(hs:s.all p=true)(he:p e=false):enclN p e (a::(s++e::r))=s.length+2:=by
 have h1:spanN p (s++e::r)=s.length:=spanN_app hs (fun c q h=>by cases h;exact he)
 unfold enclN
 simp only[List.tail_cons,h1]
 have h2:(a::(s++e::r)).drop (1+s.length)=e::r:=by
  rw[Nat.add_comm,List.drop_succ_cons,List.drop_left]
 rw[h2];simp;omega
theorem Lo.iri{s:Bs}(hs:s.all iriB=true){b:Bs}{q:List KT}(h:Lo b q):Lo (60::(s++62::b)) ((2,60::(s++[62]))::q):=by
 have:=Lo.tok (s:=60::(s++[62])) (k:=2) ⟨60,_,rfl,by decide⟩ (fun r=>by
  have:=encl_app (a:=60) (r:=r) (e:=62) hs (by decide)
  simp only[measO,List.cons_append,List.append_assoc,List.nil_append,List.length_cons,List.length_append,List.length_nil]
  rw[this];simp) h
 simpa using this
theorem Lo.str{s:Bs}(hs:s.all strB=true){b:Bs}{q:List KT}(h:Lo b q):Lo (34::(s++34::b)) ((3,34::(s++[34]))::q):=by
 have:=Lo.tok (s:=34::(s++[34])) (k:=3) ⟨34,_,rfl,by decide⟩ (fun r=>by
  have:=encl_app (a:=34) (r:=r) (e:=34) hs (by decide)
  simp only[measO,List.cons_append,List.append_assoc,List.nil_append,List.length_cons,List.length_append,List.length_nil]
  rw[this];simp) h
 simpa using this
theorem ow_not{c:UInt8}(h:owB c=true):blkB c=false∧c≠35∧¬(c=40∨c=41∨c=61)∧c≠94∧c≠60∧c≠34:=by
 have:=all_u8 (fun c=> !owB c||(!blkB c&&c != 35&& !(c==40||c==41||c==61)&&c != 94&&c != 60&&c != 34)) (by decide+kernel) c
 simp only[h,Bool.not_true,Bool.false_or,Bool.and_eq_true,Bool.not_eq_true',bne_iff_ne,Bool.or_eq_false_iff,beq_eq_false_iff_ne]at this
 simp_all
theorem Lo.word{s:Bs}(h0:s≠[])(hs:s.all owB=true):Lo s [(4,s)]:=fun rest q hr hl=>by
 cases s with
 |nil=>exact absurd rfl h0
 |cons c r=>
  have hc:owB c=true:=by simp only[List.all_cons,Bool.and_eq_true]at hs;exact hs.1
  obtain⟨k1,k2,k3,k4,k5,k6⟩:=ow_not hc
  refine .cons _ [] 4 (c::r) rest q ⟨rfl,rfl,⟨c,r,rfl,k1,k2⟩,?_⟩ hl
  have:spanN owB (c::r++rest)=(c::r).length:=spanN_app hs (fun d t e=>by subst e;simpa[stopO]using hr)
  rw[List.cons_append]at this⊢
  simp only[measO,k3,k4,k5,k6,if_false,this]
theorem Lo.call{w a:Bs}{p:List KT}(hw:w≠[])(hs:w.all owB=true)(h:Lo a p):Lo (w++40::(a++[41])) ((4,w)::tL::(p++[tR])):=
 (Lo.word hw hs).app (Lo.sign (.inl rfl) (h.app (Lo.sign (.inr (.inl rfl)) .nil) (fun _ _=>by rfl))) (fun _ _=>by rfl)
theorem Lo.sp{a b:Bs}{p q:List KT}(h:Lo a p)(k:Lo b q):Lo (a++32::b) (p++q):=h.app (k.blank (by decide)) (fun _ _=>by rfl)
theorem Lo.nl{a b:Bs}{p q:List KT}(h:Lo a p)(k:Lo b q):Lo (a++10::b) (p++q):=h.app (k.blank (by decide)) (fun _ _=>by rfl)
theorem inner_ow{c:UInt8}(h:innerB c=true):owB c=true:=by
 have:=all_u8 (fun c=> !innerB c||owB c) (by decide+kernel) c
 simpa[h]using this
theorem word_ow{s:Bs}(h:wordB s=true):s≠[]∧s.all owB=true:=by
 cases s with
 |nil=>simp[wordB]at h
 |cons c r=>
  simp only[wordB,Bool.and_eq_true]at h
  exact⟨by simp,List.all_eq_true.2 fun x hx=>inner_ow (List.all_eq_true.1 h.1.2 x hx)⟩
theorem name_ow{s:Bs}(h:plainB s=true):nameW s≠[]∧(nameW s).all owB=true:=by
 have hp:=h
 simp only[plainB,Bool.and_eq_true,decide_eq_true_eq,Bool.or_eq_true,Bool.not_eq_true']at hp
 obtain⟨⟨_,h1⟩,h2⟩:=hp
 unfold nameW
 cases hc:s.contains 58
 ·rw[cutC_no s hc]at h1
  simp only[Bool.false_eq_true,if_false]
  exact⟨by simp,by rw[List.all_cons,(word_ow h1).2];decide⟩
 ·simp only[if_true]
  have h2:wordB (cutC s).2=true:=by rcases h2 with h2|h2;rw[h2]at hc;cases hc;exact h2
  have:=cutC_app s hc
  refine⟨by rw[this];simp,?_⟩
  rw[this,List.all_append,List.all_cons,(word_ow h1).2,(word_ow h2).2];decide
theorem Lo.name{s:Bs}(h:plainB s=true):Lo (nameW s) [tN s]:=Lo.word (name_ow h).1 (name_ow h).2
theorem digit_str{c:UInt8}(h:digitB c=true):strB c=true:=by
 have:=all_u8 (fun c=> !digitB c||strB c) (by decide+kernel) c
 simpa[h]using this
theorem itoa_str{n:Int}(h1: -maxN≤n)(h2:n≤maxN):(Lib.itoa n).all strB=true:=by
 obtain⟨_,_,_,c,r,e,k⟩:=itoa_num h1 h2
 rw[e]
 rcases k with⟨rfl,k,_⟩|k
 ·rw[List.all_cons]
  have:r.all strB=true:=List.all_eq_true.2 fun x hx=>digit_str (List.all_eq_true.1 k x hx)
  rw[this];decide
 ·exact List.all_eq_true.2 fun x hx=>digit_str (List.all_eq_true.1 k x hx)
theorem Lo.facet{w:Bs}{n:Int}(hw:w≠[])(hs:w.all owB=true)(h1: -maxN≤n)(h2:n≤maxN):Lo (facetW w n) (facetT w n):=
 (Lo.word hw hs).sp (Lo.str (itoa_str h1 h2) (Lo.caret (Lo.word (by decide) (by decide))))
theorem Lo.spanW{lo hi:Int}(h1: -maxN≤lo)(h2:lo≤maxN)(h3: -maxN≤hi)(h4:hi≤maxN):Lo (spanW lo hi) (spanT lo hi):=by
 have:=Lo.call (w:=o_restr) (by decide) (by decide) ((Lo.word (s:=o_xint) (by decide) (by decide)).sp ((Lo.facet (w:=o_minc) (by decide) (by decide) h1 h2).sp (Lo.facet (w:=o_maxc) (by decide) (by decide) h3 h4)))
 simpa[VT.spanW,spanT]using this
theorem rW_stop(l:List C)(rest:Bs)(h:stopO rest=true):stopO (rW l++rest)=true:=by
 cases l with
 |nil=>simpa[rW]using h
 |cons c l=>rw[rW];rfl
theorem Lo_C:∀(n:Nat)(c:C),c.size≤n→c.wf→Lo (cW c) (cT c):=by
 intro n
 induction n with
 |zero=>intro c h;have:=C.size_pos c;omega
 |succ n ih=>
  intro c hn hw
  cases c with
  |top=>rw[cW,cT];exact Lo.word (by decide) (by decide)
  |bot=>rw[cW,cT];exact Lo.word (by decide) (by decide)
  |named s=>rw[cW,cT];exact Lo.name hw
  |nom s=>rw[cW,cT];exact Lo.call (by decide) (by decide) (Lo.name hw)
  |some r c=>
   simp only[C.size]at hn
   have:=Lo.call (w:=o_somev) (by decide) (by decide) ((Lo.name hw.1).sp (ih c (by omega) hw.2))
   rw[cW,cT];simpa using this
  |range f lo hi=>
   obtain⟨h1,h2,h3,h4⟩:=hw
   have:=Lo.call (w:=o_datas) (by decide) (by decide) ((Lo.name h1).sp (Lo.spanW h2 (by omega) (by omega) h4))
   rw[cW,cT];simpa using this
  |and l=>
   simp only[C.size]at hn
   have hR:∀l:List C,sizeL l≤n→C.wf.wfL l→Lo (rW l) (rT l):=by
    intro l
    induction l with
    |nil=>intro _ _;rw[rW,rT];exact Lo.nil
    |cons a q ihq=>
     intro hs hw
     simp only[sizeL]at hs
     rw[rW,rT]
     exact((ih a (by omega) hw.1).app (ihq (by omega) hw.2) (rW_stop q)).blank (by decide)
   cases l with
   |nil=>exact absurd hw.1 (by simp)
   |cons a q=>
    simp only[sizeL]at hn
    rw[cW,cT,rT]
    have:=Lo.call (w:=o_inter) (by decide) (by decide) ((ih a (by omega) hw.2.1).app (hR q (by omega) hw.2.2) (rW_stop q))
    simpa using this
theorem Lo.conc{c:C}(hw:c.wf):Lo (cW c) (cT c):=Lo_C c.size c (Nat.le_refl _) hw
theorem Lo.joinN(l:List Bs)(hl:∀x∈l,plainB x=true):Lo (Lib.join (l.map nameW) [32]) (l.map tN):=by
 cases l with
 |nil=>simp only[Lib.join,List.intercalate];exact Lo.nil
 |cons a l=>
  rw[List.map_cons,join_cons,List.map_cons]
  have:∀l:List Bs,(∀x∈l,plainB x=true)→Lo ((l.map nameW).map ([32]++ ·)).flatten (l.map tN)∧∀rest,stopO rest=true→stopO (((l.map nameW).map ([32]++ ·)).flatten++rest)=true:=by
   intro l
   induction l with
   |nil=>intro _;exact⟨Lo.nil,fun _ h=>h⟩
   |cons b l ih=>
    intro h
    have k:=ih (fun x hx=>h x (by simp[hx]))
    rw[List.map_cons,List.map_cons,List.map_cons,List.flatten_cons]
    exact⟨((Lo.name (h b (by simp))).blank (by decide)).app k.1 k.2,fun _ _=>by rfl⟩
  have k:=this l (fun x hx=>hl x (by simp[hx]))
  exact(Lo.name (hl a (by simp))).app k.1 k.2
theorem Lo.args{k:K}(hw:k.wf):Lo (argsW k) (argsT k):=by
 cases k with
 |sub l r=>exact(Lo.conc hw.1).sp (Lo.conc hw.2)
 |equiv l r=>exact(Lo.conc hw.1).sp (Lo.conc hw.2)
 |disj l r=>exact(Lo.conc hw.1).sp (Lo.conc hw.2)
 |dom s c=>exact(Lo.name hw.1).sp (Lo.conc hw.2)
 |typ s c=>exact(Lo.conc hw.2).sp (Lo.name hw.1)
 |rsub r s=>exact(Lo.name hw.1).sp (Lo.name hw.2)
 |refl s=>exact Lo.name hw
 |link a r b=>exact(Lo.name hw.2.1).sp ((Lo.name hw.1).sp (Lo.name hw.2.2))
 |chain l s=>
  have:=(Lo.call (w:=o_chain) (by decide) (by decide) (Lo.joinN l hw.2.2.1)).sp (Lo.name hw.2.2.2)
  simpa[argsW,argsT,chainW]using this
theorem Lo.note:Lo noteW noteT:=
 Lo.call (w:=o_ann) (by decide) (by decide) ((Lo.word (s:=o_copen) (by decide) (by decide)).sp (Lo.str (s:=[116,114,117,101]) (by decide) .nil))
theorem kW_ow(k:K):kW k≠[]∧(kW k).all owB=true:=by cases k<;>exact⟨List.cons_ne_nil _ _,rfl⟩
theorem Lo.ax{x:Ax}(hw:x.k.wf):Lo (aW x) (aT x):=by
 unfold aW aT
 cases x.op
 ·simpa using Lo.call (kW_ow x.k).1 (kW_ow x.k).2 (Lo.args hw)
 ·simpa using Lo.call (kW_ow x.k).1 (kW_ow x.k).2 (Lo.note.sp (Lo.args hw))
theorem Lo.pre{v s:Bs}(hv:v.all owB=true)(hs:s.all iriB=true):Lo (preW v (60::(s++[62]))) (preT v (60::(s++[62]))):=by
 have h1:=(Lo.word (s:=v++[58]) (by simp) (by rw[List.all_append,hv];decide)).app (Lo.sign (c:=61) (.inr (.inr rfl)) (Lo.iri hs .nil)) (fun _ _=>by rfl)
 have:=Lo.call (w:=o_prefix) (by decide) (by decide) h1
 simpa[preW,preT]using this
theorem ow_iri{c:UInt8}(h:owB c=true):iriB c=true:=by
 have:=all_u8 (fun c=> !owB c||iriB c) (by decide+kernel) c
 simpa[h]using this
theorem lex_doc{ws:List Bs}{l:List Ax}(hws:∀v∈ws,wordB v=true)(hl:∀x∈l,x.k.wf):OLex (docW ws l) (docT ws l):=by
 have hA:∀l:List Ax,(∀x∈l,x.k.wf)→Lo (l.flatMap (fun x=>aW x++[10])++[41,10]) (l.flatMap aT++[tR]):=by
  intro l
  induction l with
  |nil=>intro _;exact Lo.sign (c:=41) (.inr (.inl rfl)) (Lo.blank (by decide) .nil)
  |cons x l ih=>
   intro h
   have:=(Lo.ax (h x (by simp))).nl (ih fun y hy=>h y (by simp[hy]))
   simpa using this
 have hP:∀(ws:List Bs)(b:Bs)(q:List KT),(∀v∈ws,wordB v=true)→Lo b q→Lo (ws.flatMap (fun v=>preW v (iriX v)++[10])++b) (ws.flatMap (fun v=>preT v (iriX v))++q):=by
  intro ws b q
  induction ws with
  |nil=>intro _ h;exact h
  |cons v ws ih=>
   intro h hb
   have hv:=(word_ow (h v (by simp))).2
   have e:iriX v=60::((120::(v++[47]))++[62]):=by simp[iriX]
   have h1:=Lo.pre (v:=v) (s:=120::(v++[47])) hv (by
    rw[List.all_cons,List.all_append,List.all_eq_true.2 fun x hx=>ow_iri (List.all_eq_true.1 hv x hx)];decide)
   rw[←e]at h1
   have:=h1.nl (ih (fun y hy=>h y (by simp[hy])) hb)
   simpa using this
 have h3:=(Lo.word (s:=o_onto) (by decide) (by decide)).app (Lo.sign (c:=40) (.inl rfl) ((hA l hl).blank (c:=10) (by decide))) (fun _ _=>by rfl)
 have h4:=(Lo.pre (v:=[]) (s:=[120]) rfl (by decide)).nl ((Lo.pre (v:=o_owl) (s:=o_owliri.tail.dropLast) (by decide) (by decide+kernel)).nl ((Lo.pre (v:=o_xsd) (s:=o_xsdiri.tail.dropLast) (by decide) (by decide+kernel)).nl (hP ws _ _ hws h3)))
 have:=h4 [] [] rfl (.nil [] rfl)
 simpa[docW,docT]using this
end Go.VT
