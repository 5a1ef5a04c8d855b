/- TopParsed, part 38. -/
import Derived.Test.YticgonfhjcaohaaGreatDoorP35
set_option maxRecDepth 100000
set_option maxHeartbeats 32000000
namespace Go.Proofs.YticgonfhjcaohaaGreatDoor
open Go.RowKit Go.VT _root_.Go.Proofs.Tryz
theorem text136_57(w:World)(m1 m2:Nat)[hM:MI w m1 mapC](c:C)(v:Value)(hv:∃a n m,v=.slice a n m)(hf:lookI mapC c.kind=some (.func (Fn.func 57) #[] #[]))(s:ByteArray)
  (hc:∀w',Cll none w w'→Calls prog 57 #[.agg #[.map (some m1),.map (some m2)],cv c v] w' fun e w''=>e=.returned (.string s)∧Cll none w' w''):
  Calls prog 136 #[.agg #[.map (some m1),.map (some m2)],cv c v] w fun e w'=>e=.returned (.string s)∧Cll none w w':=by
 obtain⟨a,n,m,rfl⟩:=hv
 have H:=hid hc
 clear hc
 have hlk:∀W:World,Cll none w W→(Instr.lookup 70 (.map (some m1)) (.int .i64 c.kind) false).run prog W=.ok (.func (Fn.func 57) #[] #[]) W:=fun W hW=>run_lookup_int underlying70 underlying3 (ii:MI W m1 mapC) c.kind hf
 have hl:=hlk ((w.alloc (.cells #[.map (some m1),.map (some m2)] 73)).alloc (.cells #[.int .i64 c.kind,.string (str c.nm),.int .i64 c.lo,.int .i64 c.hi,.slice a n m] 31)) Bel.c
 clear hlk hf
 go_enter func136,ntmps136
 go_wp2_with fail
 refine(H.out _ Bel.c).mono ?_
 rintro e w1 ⟨rfl,hc1⟩
 go_wp2_with fail
 go_ret
 exact⟨rfl,Bel.c⟩
theorem text136_58(w:World)(m1 m2:Nat)[hM:MI w m1 mapC](c:C)(v:Value)(hv:∃a n m,v=.slice a n m)(hf:lookI mapC c.kind=some (.func (Fn.func 58) #[] #[]))(s:ByteArray)
  (hc:∀w',Cll none w w'→Calls prog 58 #[.agg #[.map (some m1),.map (some m2)],cv c v] w' fun e w''=>e=.returned (.string s)∧Cll none w' w''):
  Calls prog 136 #[.agg #[.map (some m1),.map (some m2)],cv c v] w fun e w'=>e=.returned (.string s)∧Cll none w w':=by
 obtain⟨a,n,m,rfl⟩:=hv
 have H:=hid hc
 clear hc
 have hlk:∀W:World,Cll none w W→(Instr.lookup 70 (.map (some m1)) (.int .i64 c.kind) false).run prog W=.ok (.func (Fn.func 58) #[] #[]) W:=fun W hW=>run_lookup_int underlying70 underlying3 (ii:MI W m1 mapC) c.kind hf
 have hl:=hlk ((w.alloc (.cells #[.map (some m1),.map (some m2)] 73)).alloc (.cells #[.int .i64 c.kind,.string (str c.nm),.int .i64 c.lo,.int .i64 c.hi,.slice a n m] 31)) Bel.c
 clear hlk hf
 go_enter func136,ntmps136
 go_wp2_with fail
 refine(H.out _ Bel.c).mono ?_
 rintro e w1 ⟨rfl,hc1⟩
 go_wp2_with fail
 go_ret
 exact⟨rfl,Bel.c⟩
theorem text136_59(w:World)(m1 m2:Nat)[hM:MI w m1 mapC](c:C)(v:Value)(hv:∃a n m,v=.slice a n m)(hf:lookI mapC c.kind=some (.func (Fn.func 59) #[] #[]))(s:ByteArray)
  (hc:∀w',Cll none w w'→Calls prog 59 #[.agg #[.map (some m1),.map (some m2)],cv c v] w' fun e w''=>e=.returned (.string s)∧Cll none w' w''):
  Calls prog 136 #[.agg #[.map (some m1),.map (some m2)],cv c v] w fun e w'=>e=.returned (.string s)∧Cll none w w':=by
 obtain⟨a,n,m,rfl⟩:=hv
 have H:=hid hc
 clear hc
 have hlk:∀W:World,Cll none w W→(Instr.lookup 70 (.map (some m1)) (.int .i64 c.kind) false).run prog W=.ok (.func (Fn.func 59) #[] #[]) W:=fun W hW=>run_lookup_int underlying70 underlying3 (ii:MI W m1 mapC) c.kind hf
 have hl:=hlk ((w.alloc (.cells #[.map (some m1),.map (some m2)] 73)).alloc (.cells #[.int .i64 c.kind,.string (str c.nm),.int .i64 c.lo,.int .i64 c.hi,.slice a n m] 31)) Bel.c
 clear hlk hf
 go_enter func136,ntmps136
 go_wp2_with fail
 refine(H.out _ Bel.c).mono ?_
 rintro e w1 ⟨rfl,hc1⟩
 go_wp2_with fail
 go_ret
 exact⟨rfl,Bel.c⟩
theorem text136_60(w:World)(m1 m2:Nat)[hM:MI w m1 mapC](c:C)(v:Value)(hv:∃a n m,v=.slice a n m)(hf:lookI mapC c.kind=some (.func (Fn.func 60) #[] #[]))(s:ByteArray)
  (hc:∀w',Cll none w w'→Calls prog 60 #[.agg #[.map (some m1),.map (some m2)],cv c v] w' fun e w''=>e=.returned (.string s)∧Cll none w' w''):
  Calls prog 136 #[.agg #[.map (some m1),.map (some m2)],cv c v] w fun e w'=>e=.returned (.string s)∧Cll none w w':=by
 obtain⟨a,n,m,rfl⟩:=hv
 have H:=hid hc
 clear hc
 have hlk:∀W:World,Cll none w W→(Instr.lookup 70 (.map (some m1)) (.int .i64 c.kind) false).run prog W=.ok (.func (Fn.func 60) #[] #[]) W:=fun W hW=>run_lookup_int underlying70 underlying3 (ii:MI W m1 mapC) c.kind hf
 have hl:=hlk ((w.alloc (.cells #[.map (some m1),.map (some m2)] 73)).alloc (.cells #[.int .i64 c.kind,.string (str c.nm),.int .i64 c.lo,.int .i64 c.hi,.slice a n m] 31)) Bel.c
 clear hlk hf
 go_enter func136,ntmps136
 go_wp2_with fail
 refine(H.out _ Bel.c).mono ?_
 rintro e w1 ⟨rfl,hc1⟩
 go_wp2_with fail
 go_ret
 exact⟨rfl,Bel.c⟩
theorem text136_61(w:World)(m1 m2:Nat)[hM:MI w m1 mapC](c:C)(v:Value)(hv:∃a n m,v=.slice a n m)(hf:lookI mapC c.kind=some (.func (Fn.func 61) #[] #[]))(s:ByteArray)
  (hc:∀w',Cll none w w'→Calls prog 61 #[.agg #[.map (some m1),.map (some m2)],cv c v] w' fun e w''=>e=.returned (.string s)∧Cll none w' w''):
  Calls prog 136 #[.agg #[.map (some m1),.map (some m2)],cv c v] w fun e w'=>e=.returned (.string s)∧Cll none w w':=by
 obtain⟨a,n,m,rfl⟩:=hv
 have H:=hid hc
 clear hc
 have hlk:∀W:World,Cll none w W→(Instr.lookup 70 (.map (some m1)) (.int .i64 c.kind) false).run prog W=.ok (.func (Fn.func 61) #[] #[]) W:=fun W hW=>run_lookup_int underlying70 underlying3 (ii:MI W m1 mapC) c.kind hf
 have hl:=hlk ((w.alloc (.cells #[.map (some m1),.map (some m2)] 73)).alloc (.cells #[.int .i64 c.kind,.string (str c.nm),.int .i64 c.lo,.int .i64 c.hi,.slice a n m] 31)) Bel.c
 clear hlk hf
 go_enter func136,ntmps136
 go_wp2_with fail
 refine(H.out _ Bel.c).mono ?_
 rintro e w1 ⟨rfl,hc1⟩
 go_wp2_with fail
 go_ret
 exact⟨rfl,Bel.c⟩
theorem text136_62(w:World)(m1 m2:Nat)[hM:MI w m1 mapC](c:C)(v:Value)(hv:∃a n m,v=.slice a n m)(hf:lookI mapC c.kind=some (.func (Fn.func 62) #[] #[]))(s:ByteArray)
  (hc:∀w',Cll none w w'→Calls prog 62 #[.agg #[.map (some m1),.map (some m2)],cv c v] w' fun e w''=>e=.returned (.string s)∧Cll none w' w''):
  Calls prog 136 #[.agg #[.map (some m1),.map (some m2)],cv c v] w fun e w'=>e=.returned (.string s)∧Cll none w w':=by
 obtain⟨a,n,m,rfl⟩:=hv
 have H:=hid hc
 clear hc
 have hlk:∀W:World,Cll none w W→(Instr.lookup 70 (.map (some m1)) (.int .i64 c.kind) false).run prog W=.ok (.func (Fn.func 62) #[] #[]) W:=fun W hW=>run_lookup_int underlying70 underlying3 (ii:MI W m1 mapC) c.kind hf
 have hl:=hlk ((w.alloc (.cells #[.map (some m1),.map (some m2)] 73)).alloc (.cells #[.int .i64 c.kind,.string (str c.nm),.int .i64 c.lo,.int .i64 c.hi,.slice a n m] 31)) Bel.c
 clear hlk hf
 go_enter func136,ntmps136
 go_wp2_with fail
 refine(H.out _ Bel.c).mono ?_
 rintro e w1 ⟨rfl,hc1⟩
 go_wp2_with fail
 go_ret
 exact⟨rfl,Bel.c⟩
theorem text136_63(w:World)(m1 m2:Nat)[hM:MI w m1 mapC](c:C)(v:Value)(hv:∃a n m,v=.slice a n m)(hf:lookI mapC c.kind=some (.func (Fn.func 63) #[] #[]))(s:ByteArray)
  (hc:∀w',Cll none w w'→Calls prog 63 #[.agg #[.map (some m1),.map (some m2)],cv c v] w' fun e w''=>e=.returned (.string s)∧Cll none w' w''):
  Calls prog 136 #[.agg #[.map (some m1),.map (some m2)],cv c v] w fun e w'=>e=.returned (.string s)∧Cll none w w':=by
 obtain⟨a,n,m,rfl⟩:=hv
 have H:=hid hc
 clear hc
 have hlk:∀W:World,Cll none w W→(Instr.lookup 70 (.map (some m1)) (.int .i64 c.kind) false).run prog W=.ok (.func (Fn.func 63) #[] #[]) W:=fun W hW=>run_lookup_int underlying70 underlying3 (ii:MI W m1 mapC) c.kind hf
 have hl:=hlk ((w.alloc (.cells #[.map (some m1),.map (some m2)] 73)).alloc (.cells #[.int .i64 c.kind,.string (str c.nm),.int .i64 c.lo,.int .i64 c.hi,.slice a n m] 31)) Bel.c
 clear hlk hf
 go_enter func136,ntmps136
 go_wp2_with fail
 refine(H.out _ Bel.c).mono ?_
 rintro e w1 ⟨rfl,hc1⟩
 go_wp2_with fail
 go_ret
 exact⟨rfl,Bel.c⟩
theorem op134_c(w:World)(m1 m2:Nat)(c:C)(a:Option Addr)(n m:Nat)
  (h136:∀w',Cll none w w'→Calls prog 136 #[.agg #[.map (some m1),.map (some m2)],cv c (.slice a n m)] w' fun e w''=>e=.returned (.string (str (textC c)))∧Cll none w' w'') (hlen:(textO c).length≤140737488355328):
  Calls prog 134 #[.agg #[.map (some m1),.map (some m2)],cv c (.slice a n m)] w fun e w'=>e=.returned (.string (str (textO c)))∧Cll none w w':=by
 have H:=hid h136
 clear h136
 cases hA:isAnd c
 ·have hb:(c.kind==5)=false:=by cases c<;>first|rfl|simp[isAnd]at hA
  have ht:=textO_no hA
  rw[ht]
  have HT:=hid ht
  clear ht hA hlen
  go_enter func134,ntmps134
  go_wp2_with fail
  refine(H.out _ Bel.c).mono ?_
  rintro e w1 ⟨rfl,hc1⟩
  go_wp2_with fail
  go_ret
  exact⟨rfl,Bel.c⟩
 ·cases c with
  |and l=>
   have ht:=textO_and l
   have q0:(textC (.and l)).length+2≤140737488355328:=by rw[ht]at hlen;simp at hlen;omega
   rw[ht]
   have q1:¬9223372036854775807<1+(str (textC (.and l))).size:=by rw[str_size];omega
   have q2:¬9223372036854775807<1+(str (textC (.and l))).size+1:=by rw[str_size];omega
   have HT:=hid ht
   clear ht hA hlen
   go_enter func134,ntmps134
   go_wp2_with fail
   refine(H.out _ Bel.c).mono ?_
   rintro e w1 ⟨rfl,hc1⟩
   go_wp2_with fail
   go_ret
   refine⟨?_,Bel.c⟩
   have e1:({data:=#[40]}:ByteArray)++str (textC (.and l))=str (40::textC (.and l)):=lit_add [40] _ _ rfl
   have e2:str (40::textC (.and l))++({data:=#[41]}:ByteArray)=str (40::textC (.and l)++[41]):=lit_add (40::textC (.and l)) [41] _ rfl
   show _=Ending.returned (.string (str (40::textC (.and l)++[41])))
   rw[←e2,←e1]
   rfl
  |_=>simp[isAnd]at hA
end Go.Proofs.YticgonfhjcaohaaGreatDoor
namespace Go.Proofs.YticgonfhjcaohaaGreatDoor
open Go.RowKit Go.VT _root_.Go.Proofs.Tryz
theorem size_len(l:List C):l.length≤sizeL l:=by
 induction l with
 |nil=>simp[sizeL]
 |cons c r ih=>have:=C.size_pos c;simp only[sizeL,List.length_cons];omega
theorem wfL_mem{l:List C}(h:C.wf.wfL l):∀c∈l,c.wf:=by
 induction l with
 |nil=>simp
 |cons a r ih=>
  intro c hc
  rcases List.mem_cons.1 hc with rfl|hc
  ·exact h.1
  ·exact ih h.2 c hc
theorem size_mem{l:List C}{c:C}(h:c∈l):c.size≤sizeL l:=by
 induction l with
 |nil=>simp at h
 |cons a r ih=>
  simp only[sizeL]
  rcases List.mem_cons.1 h with rfl|h
  ·omega
  ·have:=ih h;omega
theorem textR_mem{l:List C}{c:C}(h:c∈l):(textO c).length≤(textR l).length:=by
 induction l with
 |nil=>simp at h
 |cons a r ih=>
  simp only[textR,List.length_append,List.length_cons]
  rcases List.mem_cons.1 h with rfl|h
  ·omega
  ·have:=ih h;omega
theorem text_mem{l:List C}{c:C}(h:c∈l):(textO c).length≤(textC (.and l)).length:=by
 cases l with
 |nil=>simp at h
 |cons a r=>
  rw[textC,List.length_append]
  rcases List.mem_cons.1 h with rfl|h
  ·omega
  ·have:=textR_mem h;omega
theorem text_all(m1 m2:Nat):∀(n:Nat)(c:C),c.size≤n→c.size≤65536→c.wf→(textO c).length≤140737488355328→∀(w:World)(D:Gh)(a:Option Addr)(k m:Nat),Keeps D w→TW w→MI w m1 mapC→PV D c.parts (.slice a k m)→
  Calls prog 136 #[.agg #[.map (some m1),.map (some m2)],cv c (.slice a k m)] w (fun e w'=>e=.returned (.string (str (textC c)))∧Cll none w w')∧
  Calls prog 134 #[.agg #[.map (some m1),.map (some m2)],cv c (.slice a k m)] w (fun e w'=>e=.returned (.string (str (textO c)))∧Cll none w w'):=by
 intro n
 induction n with
 |zero=>intro c h;have:=C.size_pos c;omega
 |succ n ih=>
  intro c hn hs hw hl w D a k m hk hT hM hp
  have hlC:(textC c).length≤140737488355328:=by
   cases hA:isAnd c
   ·rw[←textO_no hA];exact hl
   ·cases c with
    |and l=>rw[textO_and]at hl;simp at hl;omega
    |_=>simp[isAnd]at hA
  have h136:∀w':World,Cll none w w'→Calls prog 136 #[.agg #[.map (some m1),.map (some m2)],cv c (.slice a k m)] w' (fun e w''=>e=.returned (.string (str (textC c)))∧Cll none w' w''):=by
   intro W hW
   have hKW:Keeps D W:=Keeps.call none D w W
   have hTW:TW W:=TW.call (w:=w)
   have hMW:MI W m1 mapC:=MI.call (w:=w) none
   cases c with
   |top=>exact text136_57 W m1 m2 .top _ ⟨_,_,_,rfl⟩ rfl _ (fun w' _=>top57_c w' m1 m2 _ _ _)
   |bot=>exact text136_58 W m1 m2 .bot _ ⟨_,_,_,rfl⟩ rfl _ (fun w' _=>bot58_c w' m1 m2 _ _ _)
   |named s=>exact text136_59 W m1 m2 (.named s) _ ⟨_,_,_,rfl⟩ rfl _ (fun w' _=>named59_c w' m1 m2 s _ _ _)
   |nom s=>exact text136_60 W m1 m2 (.nom s) _ ⟨_,_,_,rfl⟩ rfl _ (fun w' _=>nom60_c w' m1 m2 s _ _ _ (by rw[str_size];simp[textC]at hlC;omega))
   |and l=>
    refine text136_61 W m1 m2 (.and l) _ ⟨_,_,_,rfl⟩ rfl _ (fun w' hc=>?_)
    have:Keeps D w':=Keeps.call none D W w'
    have:TW w':=TW.call (w:=W)
    have:MI w' m1 mapC:=MI.call (w:=W) none
    have hsz:=size_len l
    have hss:(C.and l).size=1+sizeL l:=rfl
    exact and61_c w' D m1 m2 l a k m hp (by omega) (by have:=hw.1;omega) (fun c hc w2 a' n' m' hk2 hT2 hM2 hp2=>(ih c (by have:=size_mem hc;omega) (by have:=size_mem hc;omega) (wfL_mem hw.2 c hc) (by have:=text_mem hc;omega) w2 D a' n' m' hk2 hT2 hM2 hp2).2) hlC
   |some r c=>
    refine text136_62 W m1 m2 (.some r c) _ ⟨_,_,_,rfl⟩ rfl _ (fun w' hc=>?_)
    have:Keeps D w':=Keeps.call none D W w'
    have hss:(C.some r c).size=1+c.size:=rfl
    obtain⟨hlen,_,_⟩:=PV_len hp
    obtain rfl:k=1:=hlen
    obtain⟨b,o,p,rfl,hcl,hp2⟩:=hp.at_ (hj:=(rfl:(C.some r c).parts[0]? =some c))
    obtain⟨a',m',rfl,_,_⟩:=PV.form hp2
    have hx:∀w2,Cll none w' w2→Calls prog 134 #[.agg #[.map (some m1),.map (some m2)],cv c (.slice a' c.parts.length m')] w2 (fun e w''=>e=.returned (.string (str (textO c)))∧Cll none w2 w''):=fun w2 h2=>by
     have:Keeps D w2:=Keeps.call none D w' w2
     have:TW w':=TW.call (w:=W)
     have:TW w2:=TW.call (w:=w')
     have:MI w' m1 mapC:=MI.call (w:=W) none
     have:MI w2 m1 mapC:=MI.call (w:=w') none
     exact(ih c (by omega) (by omega) hw.2 (by simp[textC]at hlC;omega) w2 D a' _ m' ii ii ii hp2).2
    have hcr:Crow D b o c (.slice a' c.parts.length m'):=by rw[Nat.zero_mul,Nat.add_zero]at hcl;exact hcl
    have hcell:∀(j:Nat)(u:Value),#[Value.int .i64 c.kind,.string (str c.nm),.int .i64 c.lo,.int .i64 c.hi,.slice a' c.parts.length m'][j]? =some u→D b (o+j)=some u:=by
     intro j u e
     match j with
     |0=>obtain rfl:=Option.some.inj e;exact hcr.h0
     |1=>obtain rfl:=Option.some.inj e;exact hcr.h1
     |2=>obtain rfl:=Option.some.inj e;exact hcr.h2
     |3=>obtain rfl:=Option.some.inj e;exact hcr.h3
     |4=>obtain rfl:=Option.some.inj e;exact hcr.h4
     |j+5=>cases e
    exact some62_c w' D m1 m2 r c b o a' _ m m' hx hcell hlC
   |range f lo hi=>
    obtain⟨hw1,hw2,hw3,hw4⟩:=hw
    unfold maxN at hw2 hw4
    refine text136_63 W m1 m2 (.range f lo hi) _ ⟨_,_,_,rfl⟩ rfl _ (fun w' hc=>?_)
    have:Keeps D w':=Keeps.call none D W w'
    have:TW w':=TW.call (w:=W)
    exact span63_c w' D m1 m2 f lo hi _ _ _ (by omega) (by omega) (by omega) (by omega) hlC
  exact⟨h136 w ⟨Bl.refl _ _⟩,op134_c w m1 m2 c a k m h136 hl⟩
end Go.Proofs.YticgonfhjcaohaaGreatDoor
namespace Go.Proofs.YticgonfhjcaohaaGreatDoor
open Go.RowKit Go.VT _root_.Go.Proofs.Tryz
theorem refl70_c(w:World)(D:Gh)[hk:Keeps D w](m1 m2:Nat)(op:Bool)(s:Bs)(lp rp rl:Value)(hlp:∃a n m,lp=.slice a n m)(hrp:∃a n m,rp=.slice a n m)(hrl:∃a n m,rl=.slice a n m)(hlen:(Lib.join [w_reflexive,s] [32]).length≤140737488355328):
  Calls prog 70 #[.agg #[.map (some m1),.map (some m2)],.agg (axc ⟨op,.refl s⟩ lp rp rl)] w fun e w'=>e=.returned (.string (str (Lib.join [w_reflexive,s] [32])))∧Cll none w w':=by
 obtain⟨a1,n1,k1,rfl⟩:=hlp
 obtain⟨a2,n2,k2,rfl⟩:=hrp
 obtain⟨a3,n3,k3,rfl⟩:=hrl
 have HL:=hid hlen
 clear hlen
 have hz2:(w.alloc (.cells #[.map (some m1),.map (some m2)] 73)).heap.size=w.heap.size+1:=by simp
 go_enter func70,ntmps70
 repeat((fail_if_success (with_reducible show Code.wp _ (Code.region 1 _ _) _ _ _));go_step)
 obtain⟨W,hW⟩:∃W,W=(w.alloc (.cells #[.map (some m1),.map (some m2)] 73)).alloc (.cells (axc ⟨op,.refl s⟩ (.slice a1 n1 k1) (.slice a2 n2 k2) (.slice a3 n3 k3)) 34):=⟨_,rfl⟩
 rw[←hW]
 have hB2:Box W D (w.heap.size+1) 34 (axc ⟨op,.refl s⟩ (.slice a1 n1 k1) (.slice a2 n2 k2) (.slice a3 n3 k3)):=by rw[hW];exact Box.newAt hz2
 have hG:Bel none w W:=by rw[hW];exact ii
 clear hW hz2
 have c13:W.cell? ⟨w.heap.size+1,13,none⟩=some (.string (str s)):=(hB2.held (i:=13) rfl).1
 clear hB2
 go_wp2_with fail
 refine(words_new _ _ [w_reflexive,s] (by simp) HL.out).mono ?_
 rintro e w2 ⟨rfl,hc2⟩
 go_wp2_with fail
 go_ret
 exact⟨rfl,Bel.c⟩
theorem link72_c(w:World)(D:Gh)[hk:Keeps D w](m1 m2:Nat)(op:Bool)(x r y:Bs)(lp rp rl:Value)(hlp:∃a n m,lp=.slice a n m)(hrp:∃a n m,rp=.slice a n m)(hrl:∃a n m,rl=.slice a n m)(hlen:(Lib.join [w_link,x,r,y] [32]).length≤140737488355328):
  Calls prog 72 #[.agg #[.map (some m1),.map (some m2)],.agg (axc ⟨op,.link x r y⟩ lp rp rl)] w fun e w'=>e=.returned (.string (str (Lib.join [w_link,x,r,y] [32])))∧Cll none w w':=by
 obtain⟨a1,n1,k1,rfl⟩:=hlp
 obtain⟨a2,n2,k2,rfl⟩:=hrp
 obtain⟨a3,n3,k3,rfl⟩:=hrl
 have HL:=hid hlen
 clear hlen
 have hz2:(w.alloc (.cells #[.map (some m1),.map (some m2)] 73)).heap.size=w.heap.size+1:=by simp
 go_enter func72,ntmps72
 repeat((fail_if_success (with_reducible show Code.wp _ (Code.region 1 _ _) _ _ _));go_step)
 obtain⟨W,hW⟩:∃W,W=(w.alloc (.cells #[.map (some m1),.map (some m2)] 73)).alloc (.cells (axc ⟨op,.link x r y⟩ (.slice a1 n1 k1) (.slice a2 n2 k2) (.slice a3 n3 k3)) 34):=⟨_,rfl⟩
 rw[←hW]
 have hB2:Box W D (w.heap.size+1) 34 (axc ⟨op,.link x r y⟩ (.slice a1 n1 k1) (.slice a2 n2 k2) (.slice a3 n3 k3)):=by rw[hW];exact Box.newAt hz2
 have hG:Bel none w W:=by rw[hW];exact ii
 clear hW hz2
 have c13:W.cell? ⟨w.heap.size+1,13,none⟩=some (.string (str r)):=(hB2.held (i:=13) rfl).1
 have c14:W.cell? ⟨w.heap.size+1,14,none⟩=some (.string (str x)):=(hB2.held (i:=14) rfl).1
 have c15:W.cell? ⟨w.heap.size+1,15,none⟩=some (.string (str y)):=(hB2.held (i:=15) rfl).1
 clear hB2
 go_wp2_with fail
 refine(words_new _ _ [w_link,x,r,y] (by simp) HL.out).mono ?_
 rintro e w2 ⟨rfl,hc2⟩
 go_wp2_with fail
 go_ret
 exact⟨rfl,Bel.c⟩
theorem dom67_c(w:World)(D:Gh)[hk:Keeps D w](m1 m2:Nat)(op:Bool)(s:Bs)(c:C)(lp rl:Value)(a2:Option Addr)(n2 k2:Nat)(hlp:∃a n m,lp=.slice a n m)(hrl:∃a n m,rl=.slice a n m)(hlen:(textK (.dom s c)).length≤140737488355328)
  (h136:∀w',Cll none w w'→Calls prog 136 #[.agg #[.map (some m1),.map (some m2)],cv c (.slice a2 n2 k2)] w' fun e w''=>e=.returned (.string (str (textC c)))∧Cll none w' w''):
  Calls prog 67 #[.agg #[.map (some m1),.map (some m2)],.agg (axc ⟨op,.dom s c⟩ lp (.slice a2 n2 k2) rl)] w fun e w'=>e=.returned (.string (str (textK (.dom s c))))∧Cll none w w':=by
 obtain⟨a1,n1,k1,rfl⟩:=hlp
 obtain⟨a3,n3,k3,rfl⟩:=hrl
 have hj:Lib.join [w_domain,s,textC c] [32]=textK (.dom s c):=by simp[join_cons,textK]
 have H4:=hid h136
 have HL:=hid hlen
 clear hlen h136
 have hz2:(w.alloc (.cells #[.map (some m1),.map (some m2)] 73)).heap.size=w.heap.size+1:=by simp
 go_enter func67,ntmps67
 repeat((fail_if_success (with_reducible show Code.wp _ (Code.region 1 _ _) _ _ _));go_step)
 obtain⟨W,hW⟩:∃W,W=(w.alloc (.cells #[.map (some m1),.map (some m2)] 73)).alloc (.cells (axc ⟨op,.dom s c⟩ (.slice a1 n1 k1) (.slice a2 n2 k2) (.slice a3 n3 k3)) 34):=⟨_,rfl⟩
 rw[←hW]
 have hB1:Box W D w.heap.size 73 #[.map (some m1),.map (some m2)]:=by rw[hW];exact ii
 have hB2:Box W D (w.heap.size+1) 34 (axc ⟨op,.dom s c⟩ (.slice a1 n1 k1) (.slice a2 n2 k2) (.slice a3 n3 k3)):=by rw[hW];exact Box.newAt hz2
 have hG:Bel none w W:=by rw[hW];exact ii
 clear hW hz2
 have SH:∀W':World,Cll none W W'→(W'.cell? ⟨w.heap.size,0,none⟩=some (.map (some m1))∧W'.cell? ⟨w.heap.size,1,none⟩=some (.map (some m2))∧W'.cell? ⟨w.heap.size+1,13,none⟩=some (.string (str s))
   ∧W'.cell? ⟨w.heap.size+1,7,none⟩=some (.int .i64 c.kind)∧W'.cell? ⟨w.heap.size+1,8,none⟩=some (.string (str c.nm))∧W'.cell? ⟨w.heap.size+1,9,none⟩=some (.int .i64 c.lo)∧W'.cell? ⟨w.heap.size+1,10,none⟩=some (.int .i64 c.hi)∧W'.cell? ⟨w.heap.size+1,11,none⟩=some (.slice a2 n2 k2)):=fun W' hc=>by
  have b1:Box W' D w.heap.size 73 #[.map (some m1),.map (some m2)]:=Box.call W W' D _ _ _ none
  have b2:Box W' D (w.heap.size+1) 34 (axc ⟨op,.dom s c⟩ (.slice a1 n1 k1) (.slice a2 n2 k2) (.slice a3 n3 k3)):=Box.call W W' D _ _ _ none
  exact⟨(b1.held (i:=0) rfl).1,(b1.held (i:=1) rfl).1,(b2.held (i:=13) rfl).1,(b2.held (i:=7) rfl).1,(b2.held (i:=8) rfl).1,(b2.held (i:=9) rfl).1,(b2.held (i:=10) rfl).1,(b2.held (i:=11) rfl).1⟩
 have HSH:=hid SH
 clear SH hB1 hB2
 go_region_held3 (fun W'=>(W'.cell? ⟨w.heap.size,0,none⟩=some (.map (some m1))∧W'.cell? ⟨w.heap.size,1,none⟩=some (.map (some m2))∧W'.cell? ⟨w.heap.size+1,13,none⟩=some (.string (str s))
   ∧W'.cell? ⟨w.heap.size+1,7,none⟩=some (.int .i64 c.kind)∧W'.cell? ⟨w.heap.size+1,8,none⟩=some (.string (str c.nm))∧W'.cell? ⟨w.heap.size+1,9,none⟩=some (.int .i64 c.lo)∧W'.cell? ⟨w.heap.size+1,10,none⟩=some (.int .i64 c.hi)∧W'.cell? ⟨w.heap.size+1,11,none⟩=some (.slice a2 n2 k2)))
  (first|(refine HSH.out _ ?_;exact Bel.c;done)|go_keep)
  (first|(go_at_call 136;refine(H4.out _ Bel.c).mono ?_;rintro e w1 ⟨rfl,hc1⟩)|(go_at_call 73;refine(words_new _ _ [w_domain,s,textC c] (by simp) (by rw[hj];exact HL.out)).mono ?_;rintro e w2 ⟨rfl,hc2⟩))
 all_goals
  go_wp2_with fail
  go_ret
  exact⟨rfl,Bel.c⟩
theorem typ71_c(w:World)(D:Gh)[hk:Keeps D w](m1 m2:Nat)(op:Bool)(s:Bs)(c:C)(lp rl:Value)(a2:Option Addr)(n2 k2:Nat)(hlp:∃a n m,lp=.slice a n m)(hrl:∃a n m,rl=.slice a n m)(hlen:(textK (.typ s c)).length≤140737488355328)
  (h136:∀w',Cll none w w'→Calls prog 136 #[.agg #[.map (some m1),.map (some m2)],cv c (.slice a2 n2 k2)] w' fun e w''=>e=.returned (.string (str (textC c)))∧Cll none w' w''):
  Calls prog 71 #[.agg #[.map (some m1),.map (some m2)],.agg (axc ⟨op,.typ s c⟩ lp (.slice a2 n2 k2) rl)] w fun e w'=>e=.returned (.string (str (textK (.typ s c))))∧Cll none w w':=by
 obtain⟨a1,n1,k1,rfl⟩:=hlp
 obtain⟨a3,n3,k3,rfl⟩:=hrl
 have hj:Lib.join [w_type,s,textC c] [32]=textK (.typ s c):=by simp[join_cons,textK]
 have H4:=hid h136
 have HL:=hid hlen
 clear hlen h136
 have hz2:(w.alloc (.cells #[.map (some m1),.map (some m2)] 73)).heap.size=w.heap.size+1:=by simp
 go_enter func71,ntmps71
 repeat((fail_if_success (with_reducible show Code.wp _ (Code.region 1 _ _) _ _ _));go_step)
 obtain⟨W,hW⟩:∃W,W=(w.alloc (.cells #[.map (some m1),.map (some m2)] 73)).alloc (.cells (axc ⟨op,.typ s c⟩ (.slice a1 n1 k1) (.slice a2 n2 k2) (.slice a3 n3 k3)) 34):=⟨_,rfl⟩
 rw[←hW]
 have hB1:Box W D w.heap.size 73 #[.map (some m1),.map (some m2)]:=by rw[hW];exact ii
 have hB2:Box W D (w.heap.size+1) 34 (axc ⟨op,.typ s c⟩ (.slice a1 n1 k1) (.slice a2 n2 k2) (.slice a3 n3 k3)):=by rw[hW];exact Box.newAt hz2
 have hG:Bel none w W:=by rw[hW];exact ii
 clear hW hz2
 have SH:∀W':World,Cll none W W'→(W'.cell? ⟨w.heap.size,0,none⟩=some (.map (some m1))∧W'.cell? ⟨w.heap.size,1,none⟩=some (.map (some m2))∧W'.cell? ⟨w.heap.size+1,14,none⟩=some (.string (str s))
   ∧W'.cell? ⟨w.heap.size+1,7,none⟩=some (.int .i64 c.kind)∧W'.cell? ⟨w.heap.size+1,8,none⟩=some (.string (str c.nm))∧W'.cell? ⟨w.heap.size+1,9,none⟩=some (.int .i64 c.lo)∧W'.cell? ⟨w.heap.size+1,10,none⟩=some (.int .i64 c.hi)∧W'.cell? ⟨w.heap.size+1,11,none⟩=some (.slice a2 n2 k2)):=fun W' hc=>by
  have b1:Box W' D w.heap.size 73 #[.map (some m1),.map (some m2)]:=Box.call W W' D _ _ _ none
  have b2:Box W' D (w.heap.size+1) 34 (axc ⟨op,.typ s c⟩ (.slice a1 n1 k1) (.slice a2 n2 k2) (.slice a3 n3 k3)):=Box.call W W' D _ _ _ none
  exact⟨(b1.held (i:=0) rfl).1,(b1.held (i:=1) rfl).1,(b2.held (i:=14) rfl).1,(b2.held (i:=7) rfl).1,(b2.held (i:=8) rfl).1,(b2.held (i:=9) rfl).1,(b2.held (i:=10) rfl).1,(b2.held (i:=11) rfl).1⟩
 have HSH:=hid SH
 clear SH hB1 hB2
 go_region_held3 (fun W'=>(W'.cell? ⟨w.heap.size,0,none⟩=some (.map (some m1))∧W'.cell? ⟨w.heap.size,1,none⟩=some (.map (some m2))∧W'.cell? ⟨w.heap.size+1,14,none⟩=some (.string (str s))
   ∧W'.cell? ⟨w.heap.size+1,7,none⟩=some (.int .i64 c.kind)∧W'.cell? ⟨w.heap.size+1,8,none⟩=some (.string (str c.nm))∧W'.cell? ⟨w.heap.size+1,9,none⟩=some (.int .i64 c.lo)∧W'.cell? ⟨w.heap.size+1,10,none⟩=some (.int .i64 c.hi)∧W'.cell? ⟨w.heap.size+1,11,none⟩=some (.slice a2 n2 k2)))
  (first|(refine HSH.out _ ?_;exact Bel.c;done)|go_keep)
  (first|(go_at_call 136;refine(H4.out _ Bel.c).mono ?_;rintro e w1 ⟨rfl,hc1⟩)|(go_at_call 73;refine(words_new _ _ [w_type,s,textC c] (by simp) (by rw[hj];exact HL.out)).mono ?_;rintro e w2 ⟨rfl,hc2⟩))
 all_goals
  go_wp2_with fail
  go_ret
  exact⟨rfl,Bel.c⟩
end Go.Proofs.YticgonfhjcaohaaGreatDoor
namespace Go.Proofs.YticgonfhjcaohaaGreatDoor
open Go.RowKit Go.VT _root_.Go.Proofs.Tryz
theorem str_app(a b:Bs):str a++str b=str (a++b):=by
 apply ByteArray.ext
 simp[str]
theorem name83_c(s:Bs)(hs:s.length≤140737488355328)(w:World):Calls prog 83 #[.string (str s)] w fun e w'=>e=.returned (.string (str (nameW s)))∧w'=w:=by
 have hi:=strings_Contains_one (str s) 58 w
 rw[str_data]at hi
 have q1:¬9223372036854775807<1+(str s).size:=by rw[str_size];omega
 have e1:(⟨#[58]⟩:ByteArray)++str s=str (58::s):=str_app [58] s
 cases hc:s.contains 58
 ·have hx:decide (0≤Lib.indexByte s 58)=false:=by
   rcases indexByte_cut s with⟨_,h2,_⟩|⟨h1,_,_⟩
   ·rw[h2];rfl
   ·rw[hc]at h1;cases h1
  rw[hx]at hi
  have hn:nameW s=58::s:=by unfold nameW;rw[hc];rfl
  rw[hn]
  clear hn hx hc
  go_enter func83,ntmps83
  go_wp2_with fail
  refine hi.mono ?_
  rintro e w' ⟨rfl,rfl⟩
  go_wp2_with fail
  go_ret
  exact⟨by rw[←e1];rfl,rfl⟩
 ·have hx:decide (0≤Lib.indexByte s 58)=true:=by
   rcases indexByte_cut s with⟨h1,_,_⟩|⟨_,h2,_⟩
   ·rw[hc]at h1;cases h1
   ·rw[h2];simp
  rw[hx]at hi
  have hn:nameW s=s:=by unfold nameW;rw[if_pos hc]
  rw[hn]
  clear hn hx hc
  go_enter func83,ntmps83
  go_wp2_with fail
  refine hi.mono ?_
  rintro e w' ⟨rfl,rfl⟩
  go_wp2_with fail
  go_ret
  exact⟨rfl,rfl⟩
theorem call84_c(w:World)(wd:Bs)(bk o c:Nat)(xs:List Bs)(hcells:∀(j:Nat) x,xs[j]? =some x→w.cell? ⟨bk,o+j,none⟩=some (.string (str x)))(hbk:bk<w.heap.size)(hcap:xs.length≤c)(hN:xs.length≤140737488355328)(hlen:(wd++40::(Lib.join xs [32]++[41])).length≤140737488355328):
  Calls prog 84 #[.string (str wd),.slice (some ⟨bk,o,none⟩) xs.length c] w fun e w'=>e=.returned (.string (str (wd++40::(Lib.join xs [32]++[41]))))∧Cll none w w':=by
 have hl2:wd.length+(Lib.join xs [32]).length+2≤140737488355328:=by simp at hlen;omega
 have HJ:=hid (join_c w bk o c xs [32] hcells hbk hcap hN (by omega))
 obtain⟨j,hj⟩:∃j,j=Lib.join xs [32]:=⟨_,rfl⟩
 rw[←hj]at HJ hl2⊢
 have e1:str wd++(⟨#[40]⟩:ByteArray)=str (wd++[40]):=str_app wd [40]
 have e2:str (wd++[40])++str j=str (wd++40::j):=by rw[str_app];simp
 have e3:str (wd++40::j)++(⟨#[41]⟩:ByteArray)=str (wd++40::(j++[41])):=by rw[show(⟨#[41]⟩:ByteArray)=str [41]from rfl,str_app];simp
 have q1:¬9223372036854775807<(str wd).size+1:=by rw[str_size];omega
 have q2:¬9223372036854775807<(str (wd++[40])).size+(str j).size:=by rw[str_size,str_size];simp;omega
 have q3:¬9223372036854775807<(str (wd++40::j)).size+1:=by rw[str_size];simp;omega
 clear hcells hlen hj
 go_enter func84,ntmps84
 go_wp2_with fail
 refine HJ.out.mono ?_
 rintro e w1 ⟨rfl,hc⟩
 go_wp2_with fail
 go_ret
 exact⟨rfl,hc⟩
theorem call_new(W:World)(t:TypeId)(wd:Bs)(xs:List Bs)(hN:xs.length≤140737488355328)(hlen:(wd++40::(Lib.join xs [32]++[41])).length≤140737488355328):
  Calls prog 84 #[.string (str wd),.slice (some ⟨W.heap.size,0,none⟩) xs.length xs.length] (W.alloc (.cells (xs.map fun s=>Value.string (str s)).toArray t)) fun e w'=>e=.returned (.string (str (wd++40::(Lib.join xs [32]++[41]))))∧Cll none W w':=by
 refine(call84_c _ wd W.heap.size 0 xs.length xs (row_cells W t xs) (by simp) (Nat.le_refl _) hN hlen).mono ?_
 rintro e w' ⟨rfl,hc⟩
 have:=hc
 exact⟨rfl,Bel.c⟩
theorem facet145_c(w:World)[hT:TW w](wd:Bs)(n:Int)(h0: -9223372036854775808≤n)(h1:n≤9223372036854775807)(hl:(facetW wd n).length≤140737488355328):
  Calls prog 145 #[.string (str wd),.int .i64 n] w fun e w'=>e=.returned (.string (str (facetW wd n)))∧Cll none w w':=by
 have HI:=hid (itoa_c w n h0 h1)
 obtain⟨j,hj⟩:∃j,j=Lib.itoa n:=⟨_,rfl⟩
 unfold facetW at hl⊢
 rw[←hj]at HI hl⊢
 have e1:str wd++(⟨#[32,34]⟩:ByteArray)=str (wd++[32,34]):=str_app wd [32,34]
 have e2:str (wd++[32,34])++str j=str (wd++32::34::j):=by rw[str_app];simp
 have e3:str (wd++32::34::j)++(⟨#[34,94,94,120,115,100,58,105,110,116,101,103,101,114]⟩:ByteArray)=str (wd++32::34::(j++34::94::94::o_xint)):=by
  rw[show(⟨#[34,94,94,120,115,100,58,105,110,116,101,103,101,114]⟩:ByteArray)=str (34::94::94::o_xint)from rfl,str_app];simp
 have hl2:wd.length+j.length+16≤140737488355328:=by simp at hl;omega
 have q1:¬9223372036854775807<(str wd).size+2:=by rw[str_size];omega
 have q2:¬9223372036854775807<(str (wd++[32,34])).size+(str j).size:=by rw[str_size,str_size];simp;omega
 have q3:¬9223372036854775807<(str (wd++32::34::j)).size+14:=by rw[str_size];simp;omega
 clear hl hj
 go_enter func145,ntmps145
 go_wp2_with fail
 refine HI.out.mono ?_
 rintro e w1 ⟨rfl,hc⟩
 go_wp2_with fail
 go_ret
 exact⟨rfl,hc⟩
end Go.Proofs.YticgonfhjcaohaaGreatDoor
namespace Go.Proofs.YticgonfhjcaohaaGreatDoor
open Go.RowKit Go.VT _root_.Go.Proofs.Tryz
theorem role68_c(w:World)(D:Gh)[hk:Keeps D w](m1 m2:Nat)(op:Bool)(r s:Bs)(lp rp:Value)(a3:Option Addr)(n3 m3:Nat)(hlp:∃a n m,lp=.slice a n m)(hrp:∃a n m,rp=.slice a n m)(hS:SV D [r] (.slice a3 n3 m3))(hlen:(textK (.rsub r s)).length≤140737488355328):
  Calls prog 68 #[.agg #[.map (some m1),.map (some m2)],.agg (axc ⟨op,.rsub r s⟩ lp rp (.slice a3 n3 m3))] w fun e w'=>e=.returned (.string (str (textK (.rsub r s))))∧Cll none w w':=by
 obtain⟨a1,n1,k1,rfl⟩:=hlp
 obtain⟨a2,n2,k2,rfl⟩:=hrp
 have hj:Lib.join [w_role,r,w_sub,s] [32]=textK (.rsub r s):=by simp[join_cons,textK]
 obtain rfl:n3=1:=(SV_len hS).1
 obtain⟨s',b,o,hj',rfl,r0,r1⟩:=SV_elem (w:=w) hS (i:=0) (by simp)
 obtain rfl:r=s':=by simpa using hj'
 have HL:=hid hlen
 clear hlen hS hj'
 have hz2:(w.alloc (.cells #[.map (some m1),.map (some m2)] 73)).heap.size=w.heap.size+1:=by simp
 go_enter func68,ntmps68
 repeat((fail_if_success (with_reducible show Code.wp _ (Code.region 1 _ _) _ _ _));go_step)
 obtain⟨W,hW⟩:∃W,W=(w.alloc (.cells #[.map (some m1),.map (some m2)] 73)).alloc (.cells (axc ⟨op,.rsub r s⟩ (.slice a1 n1 k1) (.slice a2 n2 k2) (.slice (some ⟨b,o,none⟩) 1 m3)) 34):=⟨_,rfl⟩
 rw[←hW]
 have hB2:Box W D (w.heap.size+1) 34 (axc ⟨op,.rsub r s⟩ (.slice a1 n1 k1) (.slice a2 n2 k2) (.slice (some ⟨b,o,none⟩) 1 m3)):=by rw[hW];exact Box.newAt hz2
 have hG:Bel none w W:=by rw[hW];exact ii
 clear hW hz2
 have SH:∀W':World,Cll none W W'→(W'.cell? ⟨w.heap.size+1,12,none⟩=some (.slice (some ⟨b,o,none⟩) 1 m3)∧W'.cell? ⟨w.heap.size+1,13,none⟩=some (.string (str s))∧W'.cell? ⟨b,o,none⟩=some (.string (str r))):=fun W' hc=>by
  have b2:Box W' D (w.heap.size+1) 34 (axc ⟨op,.rsub r s⟩ (.slice a1 n1 k1) (.slice a2 n2 k2) (.slice (some ⟨b,o,none⟩) 1 m3)):=Box.call W W' D _ _ _ none
  have hcc:Cll none w W':=⟨hG.out.trans hc.out⟩
  exact⟨(b2.held (i:=12) rfl).1,(b2.held (i:=13) rfl).1,(ncell.1 b o r1).trans r0⟩
 have HSH:=hid SH
 clear SH hB2 r0 r1
 go_region_held3 (fun W'=>(W'.cell? ⟨w.heap.size+1,12,none⟩=some (.slice (some ⟨b,o,none⟩) 1 m3)∧W'.cell? ⟨w.heap.size+1,13,none⟩=some (.string (str s))∧W'.cell? ⟨b,o,none⟩=some (.string (str r))))
  (first|(refine HSH.out _ ?_;exact Bel.c;done)|go_keep)
  (first|(go_at_call 73;refine(words_new W.drew 9 [w_role,r,w_sub,s] (by simp) (by rw[hj];exact HL.out)).mono ?_;rintro e w2 ⟨rfl,hc2⟩))
 all_goals
  go_wp2_with fail
  go_ret
  exact⟨rfl,Bel.c⟩
theorem chain69_c(w:World)(D:Gh)[hk:Keeps D w](m1 m2:Nat)(op:Bool)(l:List Bs)(s:Bs)(lp rp:Value)(a3:Option Addr)(n3 m3:Nat)(hlp:∃a n m,lp=.slice a n m)(hrp:∃a n m,rp=.slice a n m)(hS:SV D l (.slice a3 n3 m3))(h0:0<l.length)(hlen:(textK (.chain l s)).length≤140737488355328)(hl4:l.length≤4):
  Calls prog 69 #[.agg #[.map (some m1),.map (some m2)],.agg (axc ⟨op,.chain l s⟩ lp rp (.slice a3 n3 m3))] w fun e w'=>e=.returned (.string (str (textK (.chain l s))))∧Cll none w w':=by
 obtain⟨a1,n1,k1,rfl⟩:=hlp
 obtain⟨a2,n2,k2,rfl⟩:=hrp
 have hj:Lib.join [w_chain,Lib.join l [32],w_sub,s] [32]=textK (.chain l s):=by simp[join_cons,textK]
 obtain⟨rfl,hcap,_⟩:=SV_len hS
 have hS':=hS
 obtain⟨_,a',c,hv,_,_,_,h4⟩:=hS'
 cases hv
 obtain⟨b,o,rfl,hc⟩:=h4 h0
 have hcells:∀(j:Nat) x,l[j]? =some x→D b (o+j)=some (.string (str x)):=fun j x e=>hc j _ (by rw[List.getElem?_map,e];rfl)
 have hlj:(Lib.join l [32]).length≤140737488355328:=by simp[textK]at hlen;omega
 have HC:=hid hcells
 have HL:=hid hlen
 have HLJ:=hid hlj
 have H0:=hid h0
 have HCP:=hid hcap
 clear hlen hS hcells hlj h0 hcap hc h4
 have hz2:(w.alloc (.cells #[.map (some m1),.map (some m2)] 73)).heap.size=w.heap.size+1:=by simp
 go_enter func69,ntmps69
 repeat((fail_if_success (with_reducible show Code.wp _ (Code.region 1 _ _) _ _ _));go_step)
 obtain⟨W,hW⟩:∃W,W=(w.alloc (.cells #[.map (some m1),.map (some m2)] 73)).alloc (.cells (axc ⟨op,.chain l s⟩ (.slice a1 n1 k1) (.slice a2 n2 k2) (.slice (some ⟨b,o,none⟩) l.length m3)) 34):=⟨_,rfl⟩
 rw[←hW]
 have hB2:Box W D (w.heap.size+1) 34 (axc ⟨op,.chain l s⟩ (.slice a1 n1 k1) (.slice a2 n2 k2) (.slice (some ⟨b,o,none⟩) l.length m3)):=by rw[hW];exact Box.newAt hz2
 have hG:Bel none w W:=by rw[hW];exact ii
 clear hW hz2
 have SH:∀W':World,Cll none W W'→(W'.cell? ⟨w.heap.size+1,12,none⟩=some (.slice (some ⟨b,o,none⟩) l.length m3)∧W'.cell? ⟨w.heap.size+1,13,none⟩=some (.string (str s))):=fun W' hc=>by
  have b2:Box W' D (w.heap.size+1) 34 (axc ⟨op,.chain l s⟩ (.slice a1 n1 k1) (.slice a2 n2 k2) (.slice (some ⟨b,o,none⟩) l.length m3)):=Box.call W W' D _ _ _ none
  exact⟨(b2.held (i:=12) rfl).1,(b2.held (i:=13) rfl).1⟩
 have HSH:=hid SH
 have HW1:Hid (∀W':World,Cll none w W'→Calls prog 73 #[.slice (some ⟨b,o,none⟩) l.length m3] W' fun e w'=>e=.returned (.string (str (Lib.join l [32])))∧Cll none W' w'):=hid fun W' hc=>by
  have:Keeps D W':=Keeps.call none D w W'
  obtain⟨x,hx⟩:∃x,l[0]? =some x:=⟨_,List.getElem?_eq_getElem H0.out⟩
  exact words_c W' b o m3 l (fun j x e=>Keeps.out (D:=D) _ _ _ (HC.out j x e)) (Keeps.lt (D:=D) (HC.out 0 x hx)) HCP.out (by omega) HLJ.out
 clear SH hB2
 go_region_held3 (fun W'=>(W'.cell? ⟨w.heap.size+1,12,none⟩=some (.slice (some ⟨b,o,none⟩) l.length m3)∧W'.cell? ⟨w.heap.size+1,13,none⟩=some (.string (str s))))
  (first|(refine HSH.out _ ?_;exact Bel.c;done)|go_keep)
  (first|(go_at_call 73;first|((with_reducible show Calls _ 73 #[Value.slice (some ⟨b,_,_⟩) _ _] _ _);refine(HW1.out _ Bel.c).mono ?_;rintro e w1 ⟨rfl,hc1⟩)|(refine(words_new _ _ [w_chain,Lib.join l [32],w_sub,s] (by simp) (by rw[hj];exact HL.out)).mono ?_;rintro e w2 ⟨rfl,hc2⟩)))
 all_goals
  go_wp2_with fail
  go_ret
  exact⟨rfl,Bel.c⟩
end Go.Proofs.YticgonfhjcaohaaGreatDoor
