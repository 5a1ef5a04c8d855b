/- TopParsed, part 46. -/
import Derived.Test.YticgonfhjcaohaaGreatDoorP36
import Derived.Test.YticgonfhjcaohaaGreatDoorP44
set_option maxRecDepth 100000
set_option maxHeartbeats 32000000
namespace Go.Proofs.YticgonfhjcaohaaGreatDoor
open Go.RowKit Go.VT _root_.Go.Proofs.Tryz
attribute [local go_sem] Oper.semAt_some
theorem hz34':(prog.info? 34).map (·.size)=some 16:=by kernel_rfl
theorem load34{ops:Array Oper}{rest:List Oper}{op:Oper}{a:Act}{w:World}{Q:Exit→Act→World→Prop}(hgd:op.guard=none)(x:Operand)(ho:op.op=.load 34 x){b o:Nat}(hx:a.eval x=.pointer (some ⟨b,o,none⟩))
  {y:Ax} {lp rp rl:Value} (hc:∀j u,(axc y lp rp rl)[j]? =some u→w.cell? ⟨b,o+j,none⟩=some u) (h:wpList prog ops Q rest (a.put op.dst (.agg (axc y lp rp rl))) w):wpList prog ops Q (op::rest) a w:=
 wpList_load_mid hgd 34 x ho b o hx (axc y lp rp rl).toList _ (fun j u e=>hc j u (by simpa using e)) underlying34 rfl hz34' (by simpa using h)
theorem maps5(w:World):(∀k,k<5→MS (((((w.alloc (.map #[] 0)).alloc (.map #[] 0)).alloc (.map #[] 0)).alloc (.map #[] 0)).alloc (.map #[] 0)) (w.heap.size+k) 0 [])∧MI (((((w.alloc (.map #[] 0)).alloc (.map #[] 0)).alloc (.map #[] 0)).alloc (.map #[] 0)).alloc (.map #[] 0)) (w.heap.size+4) []:=by
 have key:∀k,k<5→(((((w.alloc (.map #[] 0)).alloc (.map #[] 0)).alloc (.map #[] 0)).alloc (.map #[] 0)).alloc (.map #[] 0)).heap[w.heap.size+k]? =some (.map #[] 0):=fun k hk=>by
  have st:∀(X:World)(n:Nat),X.heap.size=w.heap.size+n+1→X.heap[w.heap.size+k]? =some (.map #[] 0)→(X.alloc (.map #[] 0)).heap[w.heap.size+k]? =some (.map #[] 0):=fun X n hn hX=>
   (Below.heap_alloc X _ _ (Array.getElem?_eq_some_iff.1 hX).1).trans hX
  have nw:∀X:World,X.heap.size=w.heap.size+k→(X.alloc (.map #[] 0)).heap[w.heap.size+k]? =some (.map #[] 0):=fun X hX=>hX▸World.alloc_heap_new X _
  have:k=0∨k=1∨k=2∨k=3∨k=4:=by omega
  rcases this with rfl|rfl|rfl|rfl|rfl
  ·exact st _ 3 (by simp) (st _ 2 (by simp) (st _ 1 (by simp) (st _ 0 (by simp) (nw w rfl))))
  ·exact st _ 3 (by simp) (st _ 2 (by simp) (st _ 1 (by simp) (nw _ (by simp))))
  ·exact st _ 3 (by simp) (st _ 2 (by simp) (nw _ (by simp)))
  ·exact st _ 3 (by simp) (nw _ (by simp))
  ·exact nw _ (by simp)
 refine⟨fun k hk=>?_,⟨#[],0,key 4 (by omega),rfl⟩⟩
 obtain⟨D,⟨es,c,h1,h2⟩,h3⟩:=(MS.new w).out
 have e:(w.alloc (.map #[] 0)).heap[w.heap.size]? =some (.map #[] 0):=World.alloc_heap_new w _
 rw[e]at h1
 injection h1 with h1;injection h1 with ha hb;subst ha;subst hb
 exact⟨D,⟨#[],0,key k hk,h2⟩,h3⟩
def fr1(a:Option Addr)(n m b0 B bO i:Nat)(u:Nat→Value):Array Value:=#[.slice a n m,u 1,.pointer (some ⟨b0,0,none⟩),u 3,u 4,u 5,u 6,.map (some B),.map (some (B+1)),.map (some (B+2)),.map (some (B+3)),.pointer (some ⟨bO,0,none⟩),u 12,u 13,u 14,u 15,u 16,u 17,u 18,u 19,u 20,u 21,u 22,u 23,u 24,u 25,u 26,u 27,u 28,u 29,u 30,u 31,u 32,u 33,u 34,u 35,u 36,u 37,u 38,u 39,u 40,u 41,u 42,u 43,.slice a n m,.int .i64 n,.int .i64 i,u 47,u 48,u 49,u 50,u 51,u 52,u 53,u 54,u 55,u 56,u 57,u 58,u 59,u 60,u 61,u 62,u 63,u 64,u 65,u 66,u 67,u 68,u 69,u 70,u 71,u 72,u 73,u 74,u 75,u 76,u 77,u 78,u 79,u 80,u 81,u 82,u 83,u 84,u 85,u 86,u 87,u 88,u 89,u 90,u 91,u 92,u 93,u 94,u 95,u 96,u 97,u 98,u 99,u 100,u 101,u 102,u 103,u 104,u 105,u 106,u 107,u 108,u 109]
def fr2(a:Option Addr)(n m b0 B bO i g gs j:Nat)(u:Nat→Value):Array Value:=#[.slice a n m,u 1,.pointer (some ⟨b0,0,none⟩),u 3,u 4,u 5,u 6,.map (some B),.map (some (B+1)),.map (some (B+2)),.map (some (B+3)),.pointer (some ⟨bO,0,none⟩),u 12,.pointer (some ⟨g,0,none⟩),u 14,u 15,u 16,u 17,u 18,u 19,u 20,u 21,u 22,u 23,u 24,u 25,u 26,u 27,u 28,u 29,u 30,u 31,u 32,u 33,u 34,u 35,u 36,u 37,u 38,u 39,u 40,u 41,u 42,u 43,.slice a n m,.int .i64 n,.int .i64 i,u 47,u 48,u 49,u 50,u 51,u 52,u 53,.slice (some ⟨gs,0,none⟩) 2 2,.int .i64 2,.int .i64 j,u 57,u 58,u 59,u 60,u 61,u 62,u 63,u 64,u 65,u 66,u 67,u 68,u 69,u 70,u 71,u 72,u 73,u 74,u 75,u 76,u 77,u 78,u 79,u 80,u 81,u 82,u 83,u 84,u 85,u 86,u 87,u 88,u 89,u 90,u 91,u 92,u 93,u 94,u 95,u 96,u 97,u 98,u 99,u 100,u 101,u 102,u 103,u 104,u 105,u 106,u 107,u 108,u 109]
def fr3(bO g:Nat)(u:Nat→Value):Array Value:=#[u 0,u 1,u 2,u 3,u 4,u 5,u 6,u 7,u 8,u 9,u 10,.pointer (some ⟨bO,0,none⟩),u 12,u 13,u 14,u 15,.pointer (some ⟨g,0,none⟩),u 17,u 18,u 19,u 20,u 21,u 22,u 23,u 24,u 25,u 26,u 27,u 28,u 29,u 30,u 31,u 32,u 33,u 34,u 35,u 36,u 37,u 38,u 39,u 40,u 41,u 42,u 43,u 44,u 45,u 46,u 47,u 48,u 49,u 50,u 51,u 52,u 53,u 54,u 55,u 56,u 57,u 58,u 59,u 60,u 61,u 62,u 63,u 64,u 65,u 66,u 67,u 68,u 69,u 70,u 71,u 72,u 73,u 74,u 75,u 76,u 77,u 78,u 79,u 80,u 81,u 82,u 83,u 84,u 85,u 86,u 87,u 88,u 89,u 90,u 91,u 92,u 93,u 94,u 95,u 96,u 97,u 98,u 99,u 100,u 101,u 102,u 103,u 104,u 105,u 106,u 107,u 108,u 109]
theorem ex_u(F:(Nat→Value)→Array Value)(T:Array Value)(h:T=F (fun j=>T.getD j undef)):∃u,T=F u:=⟨_,h⟩
def mV(B:Nat)(k:Int):Nat:=if k=3 then B else if k=6 then B+1 else if k=7 then B+2 else B+3
theorem voc_start{w V0 V4 V5:World}{D:Gh}{B b0 bO:Nat}(hk:Keeps D w)(hG:Gr none w D V0 D)(hB:Box V0 D b0 78 #[.slice none 0 0,.slice none 0 0,.slice none 0 0,.slice none 0 0])(hS:∀k,k<5→MS V0 (B+k) 0 [])(hM:MI V4 (B+4) ([]++[(3,.map (some B))]++[(6,.map (some (B+1)))]++[(7,.map (some (B+2)))]++[(4,.map (some (B+3)))]))
  (hc:Cll (some (B+4)) V0 V4) (h1:w.heap.size≤b0) (h2:b0<B) (h3:B+5≤V0.heap.size) (hV5:V5=V4.alloc (.cells #[.map (some (B+4))] 122)) (hbO:bO=V4.heap.size):VI w D D B b0 bO (B+4) (mV B) 0 (fun _=>[]) V5:=by
 subst hV5 hbO
 have:=hG
 have:=hG.keeps
 have:=hB
 have:=hc
 have:New w (B+4):=⟨by omega⟩
 have:Off D (B+4):=Keeps.offNew (w:=w) (by omega)
 have:NeX b0 (some (B+4)):=neGt (by omega)
 have hg4:Gr none w D V4 D:=ii
 have:=hg4.keeps
 have:Box V4 D b0 78 #[.slice none 0 0,.slice none 0 0,.slice none 0 0,.slice none 0 0]:=ii
 have:=hM
 have hz:=hc.out.size
 refine⟨ii,ii,ii,(ii:MI _ (B+4) _),⟨fun j k hj hk e=>?_,fun k hk=>?_⟩,⟨h1,h2,by omega⟩,fun k hk=>?_,fun k hk=>?_⟩
 ·simp only[kdB,Bool.or_eq_true,beq_iff_eq]at hj hk
  rcases hj with rfl|rfl|rfl|rfl<;>rcases hk with rfl|rfl|rfl|rfl<;>simp[mV]at e⊢ <;>omega
 ·simp only[kdB,Bool.or_eq_true,beq_iff_eq]at hk
  rcases hk with rfl|rfl|rfl|rfl<;>simp[mV]
 ·have hm:∃j,j<4∧mV B k=B+j:=by
   simp only[kdB,Bool.or_eq_true,beq_iff_eq]at hk
   rcases hk with rfl|rfl|rfl|rfl
   ·exact⟨0,by omega,rfl⟩
   ·exact⟨1,by omega,rfl⟩
   ·exact⟨2,by omega,rfl⟩
   ·exact⟨3,by omega,rfl⟩
  obtain⟨j,hj,e⟩:=hm
  rw[e]
  exact((hS j (by omega)).cll hc (by simp;omega)).cll (Bel.c:Cll none V4 _) (by simp)
 ·simp only[kdB,Bool.or_eq_true,beq_iff_eq]at hk
  refine Keeps.offNew (w:=w) ?_
  rcases hk with rfl|rfl|rfl|rfl<;>simp[mV]<;>omega
theorem preL_len:∀(n:Nat)(c:C),c.size≤n→(preC c).length=c.size:=by
 intro n
 induction n with
 |zero=>intro c h;have:=C.size_pos c;omega
 |succ n ih=>
  intro c hn
  cases c with
  |and l=>
   simp only[C.size]at hn
   have key:∀l:List C,sizeL l≤n→(preL l).length=sizeL l:=by
    intro l
    induction l with
    |nil=>intro _;simp[preL,sizeL]
    |cons a q ihq=>
     intro h
     simp only[sizeL]at h
     simp only[preL,sizeL,List.length_append]
     rw[ih a (by omega),ihq (by omega)]
   simp only[preC,C.size,List.length_cons,key l (by omega)];omega
  |some r c=>
   simp only[C.size]at hn
   simp only[preC,C.size,List.length_cons,ih c (by omega)];omega
  |_=>simp[preC,C.size]
theorem preO_len(o:Option C)(h:∀c,o=some c→c.size≤64):(preO o).length≤64:=by
 cases o with
 |none=>simp[preO]
 |some c=>rw[preO,List.length_map,preL_len c.size c (Nat.le_refl _)];exact h c rfl
theorem cons_mem{k:K}{c:C}(h:k.left=some c∨k.right=some c):c∈k.cons:=by
 revert h
 cases k<;>simp[K.cons,K.left,K.right]<;>intro h<;>(first|(rcases h with rfl|rfl<;>simp)|(subst h;simp))
theorem one78(a b c d:Option Addr)(n m k i j l p q:Nat):(#[.slice a n i,.slice b m j,.slice c k l,.slice d p q]:Array Value).all (·.oneCell')=true:=by kernel_rfl
theorem hz78:(prog.info? 78).map (·.size)=some (4:Nat):=by kernel_rfl
theorem axV_len{q:K}(hw:q.wf){k:Int}(hk:kdB k=true):∀s∈axV k q,s.length≤24:=by
 intro s hs
 simp only[kdB,Bool.or_eq_true,beq_iff_eq]at hk
 have hn:=names_plain hw
 have h3:∀s∈[q.role,q.a,q.b],s.length≤24:=fun s hs=>by
  rcases s with _|⟨c,r⟩
  ·simp
  ·exact name_len (hn.2 _ hs (by simp))
 rcases List.mem_append.1 hs with hs|hs
 ·exact name_len (nodes_plain hw hk s hs)
 ·rcases List.mem_append.1 hs with hs|hs
  ·split at hs
   ·rcases List.mem_append.1 hs with hs|hs
    ·exact name_len (hn.1 s hs)
    ·exact h3 s (by simp at hs;simp[hs])
   ·cases hs
  ·split at hs
   ·exact h3 s (by simp at hs;rcases hs with rfl|rfl<;>simp)
   ·cases hs
theorem sortedKeysP_c(w:World)(D:Gh)[hk:Keeps D w](m n:Nat)(S:List Bs)(hS:MS w m n S)(hn:n*16≤140737488355328)(hsh:∀s∈S,s.length≤maxLen):
  Calls prog 75 #[.func (.func 140) #[] #[.pointer (some ⟨w.heap.size,0,none⟩)]] (w.alloc (.cells #[.map (some m)] 89)) fun e w'=>∃(v:Value)(ss:List Bs)(D':Gh),e=.returned v∧(∀s,s∈ss↔s∈S)∧ss.length≤n∧SV D' ss v∧Gro none w D w' D':=by
 refine(sortedKeys_c w D m n S hS hn hsh).mono ?_
 rintro e w' ⟨v,ss,rfl,h1,h2,hO,hc⟩
 have:Keeps D w':=Keeps.call none D w w'
 have hG:Gr none w D w' D:=⟨hc.out,ii,fun _ _ _ h=>h,fun _ _ _=>rfl⟩
 obtain⟨D',hP,hS'⟩:=SV.of_own hO
 have:=hP.gr none w D hG (fun k hk=>by have:=(VT.Own.lt hO k hk).1;omega)
 exact⟨v,ss,D',rfl,h1,h2,hS',Gr.g⟩
theorem voc_fin{l:List Ax}{qa qb qc qd:List Bs}(ha:∀s,s∈qa↔s∈l.flatMap fun x=>axV 3 x.k)(hb:∀s,s∈qb↔s∈(l.flatMap fun x=>axV 6 x.k).filter (· != []))(hc:∀s,s∈qc↔s∈l.flatMap fun x=>axV 7 x.k)(hd:∀s,s∈qd↔s∈(l.flatMap fun x=>axV 4 x.k).filter (· != [])):VocS l qa qb qc qd:=by
 have e3:∀q:K,axV 3 q=cV q:=fun q=>by simp[axV,cV]
 have e6:∀q:K,axV 6 q=rV q:=fun q=>by simp[axV,rV]
 have e7:∀q:K,axV 7 q=fV q:=fun q=>by simp[axV,fV]
 have e4:∀q:K,axV 4 q=iV q:=fun q=>by simp[axV,iV]
 simp only[e3,e6,e7,e4]at ha hb hc hd
 exact⟨ha,fun s=>by rw[hb,List.mem_filter];simp,hc,fun s=>by rw[hd,List.mem_filter];simp⟩
def SA(l:List Ax)(i:Nat)(k:Int):List Bs:=(l.take i).flatMap fun x=>axV k x.k
theorem vocabulary_c(w:World)(D:Gh)(l:List Ax)(a:Option Addr)(n m:Nat)(hp:AxL D l (.slice a n m))(hl:∀x∈l,VT.Good x)(hn:n≤1024)[hk:Keeps D w][hT:TB D]:
  Calls prog 27 #[.slice a n m] w fun e w'=>∃(v1 v2 v3 v4:Value)(cs rs fs is:List Bs)(D':Gh),e=.returned (.tuple #[.agg #[v1,v2,v3,v4],.int .i64 0])∧SV D' cs v1∧SV D' rs v2∧SV D' fs v3∧SV D' is v4∧VocS l cs rs fs is∧(cs++(rs++(fs++is))).length≤4000000∧Gro none w D w' D':=by
 obtain⟨hlen,hm1,hm2⟩:=AxL_len hp
 have HL:=hid hlen
 have HG:=hid hl
 obtain⟨W,hW⟩:∃W,W=w.alloc (.cells #[.slice none 0 0,.slice none 0 0,.slice none 0 0,.slice none 0 0] 78):=⟨_,rfl⟩
 have hB0:Box W D w.heap.size 78 #[.slice none 0 0,.slice none 0 0,.slice none 0 0,.slice none 0 0]:=by rw[hW];exact ii
 have hG0:Gr none w D W D:=by rw[hW];exact ii
 have HW:=hid hW
 clear hlen hl hW
 refine calls_of_marks func27 rfl ?_
 simp only[ntmps27,List.size_toArray,List.length_cons,List.length_nil,Nat.reduceAdd,Nat.reduceSub,Array.replicate_succ,Array.replicate_zero,List.push_toArray,List.append_toArray,List.nil_append,List.cons_append]
 repeat((fail_if_success (with_reducible show Code.wp _ (Code.region 1 _ _) _ _ _));go_step)
 rw[←HW.out]
 have:=hG0.keeps
 go_wp2_with fail
 go_loopg [23] n (fun gk v wr=>∃i:Nat,v=.int .i64 i∧gk+i=n∧Gr none w D wr D∧Box wr D w.heap.size 78 #[.slice none 0 0,.slice none 0 0,.slice none 0 0,.slice none 0 0])
 case atStart=>exact⟨0,rfl,rfl,hG0,hB0⟩
 case round=>
  obtain⟨i,rfl,hgk,hG,hB⟩:=hrel
  have:=hG
  have:=hG.keeps
  have:=hB
  by_cases hi:i<n
  ·obtain⟨x,lp,rp,rl,b,o,hj,rfl,hav,hc,r1⟩:=AxL_elem (w:=wr) hp (i:=i) (by rw[←HL.out];exact hi)
   have hgd:=HG.out x (List.mem_of_getElem? hj)
   have hchk:=(chkK_zero x.k).2 hgd.ok
   obtain⟨a3,m3,rfl⟩:=PV_form hav.l
   obtain⟨a4,m4,rfl⟩:=PV_form hav.r
   obtain⟨a5,m5,rfl,_⟩:=SlN.form hav.s
   have hi':(i:Int)<(n:Int):=by omega
   have HCHK:=hid (fun W'(_:Keeps D W')=>checkAxiom_c W' D x _ _ _ hav hgd.wf)
   rw[hchk]at HCHK
   clear hj hgd hchk
   generalize(oP x.k.left).length=n3 at*
   generalize(oP x.k.right).length=n4 at*
   generalize x.k.roles.length=n5 at*
   have hB2:Box (wr.alloc (.cells (axc x (.slice a3 n3 m3) (.slice a4 n4 m4) (.slice a5 n5 m5)) 34)) D wr.heap.size 34 (axc x (.slice a3 n3 m3) (.slice a4 n4 m4) (.slice a5 n5 m5)):=Box.new wr D 34 _
   go_wp2_with (first|((with_reducible show wpList _ _ _ ((⟨_,.load 34 _,_,_,_,_⟩:Oper)::_) _ _);refine load34 rfl _ rfl rfl hc ?_)|((with_reducible show wpList _ _ _ ((⟨_,.load 34 _,_,_,_,_⟩:Oper)::_) _ _);refine wpList_load_row rfl 34 _ rfl (wr.heap.size) rfl (34) _ (0,0) _ (hB2.heap) underlying34 rfl (hz34) ?_))
   refine(HCHK.out _ ii).mono ?_
   rintro e w3 ⟨rfl,hc3⟩
   have hG3:Gr none w D w3 D:=ii
   have hB3:Box w3 D w.heap.size 78 #[.slice none 0 0,.slice none 0 0,.slice none 0 0,.slice none 0 0]:=ii
   clear hc HCHK hB2 hav hc3
   go_wp2_with fail
   go_roundg (gk-1)
   case measure=>omega
   case rel=>exact⟨i+1,by simp,by omega,hG3,hB3⟩
  ·have hi':¬(i:Int)<(n:Int):=by omega
   clear hG0 hB0
   have hmm:∀(w:World),(Instr.makeMap 89 none).run prog w=.ok (.map (some w.heap.size)) (w.alloc (.map #[] 0)):=fun _=>rfl
   have hmm2:∀(w:World),(Instr.makeMap 122 none).run prog w=.ok (.map (some w.heap.size)) (w.alloc (.map #[] 0)):=fun _=>rfl
   obtain⟨B,hBB⟩:∃B,B=wr.heap.size:=⟨_,rfl⟩
   obtain⟨V0,hV0⟩:∃V,V=((((wr.alloc (.map #[] 0)).alloc (.map #[] 0)).alloc (.map #[] 0)).alloc (.map #[] 0)).alloc (.map #[] 0):=⟨_,rfl⟩
   obtain⟨hV1,hV2⟩:=maps5 wr
   rw[←hV0,←hBB]at hV1
   have hM0:=hV2
   rw[←hV0,←hBB]at hM0
   have hGV:Gr none w D V0 D:=by rw[hV0];exact ii
   have hBV:Box V0 D w.heap.size 78 #[.slice none 0 0,.slice none 0 0,.slice none 0 0,.slice none 0 0]:=by rw[hV0];exact ii
   have hzw:=hG.bl.size
   have hzb:=hB.lt
   have hzV:V0.heap.size=B+5:=by rw[hV0,hBB];simp
   have HV0:=hid hV0
   have HBB:=hid hBB
   clear hV0 hV2 hB hBB
   go_wp2_with (first|(((with_reducible show wpList _ _ _ ((⟨none,_,_,_,_,_⟩:Oper)::_) _ _);refine stopL ?_);rw[←HV0.out,←HBB.out]))
   unfold Stop
   go_wp2_with (first|((with_reducible show wpList _ _ _ ((⟨none,.insert _ _ _ _,_,_,_,_⟩:Oper)::_) _ _);refine wpList_insert_newI rfl 122 _ _ _ rfl rfl underlying122 underlying3 rfl hM0 3 rfl rfl (by rfl) ?_;intro V1 hM1 hc1;refine stopL ?_))
   unfold Stop
   go_wp2_with (first|((with_reducible show wpList _ _ _ ((⟨none,.insert _ _ _ _,_,_,_,_⟩:Oper)::_) _ _);refine wpList_insert_newI rfl 122 _ _ _ rfl rfl underlying122 underlying3 rfl hM1 6 rfl rfl (by rfl) ?_;intro V2 hM2 hc2;refine stopL ?_))
   unfold Stop
   go_wp2_with (first|((with_reducible show wpList _ _ _ ((⟨none,.insert _ _ _ _,_,_,_,_⟩:Oper)::_) _ _);refine wpList_insert_newI rfl 122 _ _ _ rfl rfl underlying122 underlying3 rfl hM2 7 rfl rfl (by rfl) ?_;intro V3 hM3 hc3;refine stopL ?_))
   unfold Stop
   go_wp2_with (first|((with_reducible show wpList _ _ _ ((⟨none,.insert _ _ _ _,_,_,_,_⟩:Oper)::_) _ _);refine wpList_insert_newI rfl 122 _ _ _ rfl rfl underlying122 underlying3 rfl hM3 4 rfl rfl (by rfl) ?_;intro V4 hM4 hc4;refine stopL ?_))
   unfold Stop
   have hcV:Cll (some (B+4)) V0 V4:=⟨((hc1.out.trans hc2.out).trans hc3.out).trans hc4.out⟩
   clear hc1 hc2 hc3 hc4 hM0 hM1 hM2 hM3
   have hz4:=hcV.out.size
   go_wp2_with fail
   obtain⟨V5,hV5⟩:∃V,V=V4.alloc (.cells #[.map (some (B+1+1+1+1))] 122):=⟨_,rfl⟩
   obtain⟨bO,hbO⟩:∃b,b=V4.heap.size:=⟨_,rfl⟩
   rw[←hV5,←hbO]
   have hvi:VI w D D B w.heap.size bO (B+4) (mV B) 0 (fun _=>[]) V5:=voc_start hk hGV hBV hV1 hM4 hcV (by omega) (by have:=HBB.out;omega) (by rw[←hzV];exact Nat.le_refl _) hV5 hbO
   clear hV5 hbO hG hGV hBV hV1 hM4 hcV hzw hzb hzV hz4 hmm hmm2 HBB HV0 HW
   refine wp_loop_ghost_k (fun k act W=>∃(i N:Nat)(D1:Gh),k+i=n∧N≤200*i∧VI w D D1 B w.heap.size bO (B+4) (mV B) N (SA l i) W∧Dfs (bO+1) W act.defers∧∃u,act.tmps=fr1 a n m w.heap.size B bO i u) n ⟨0,0,D,rfl,Nat.le_refl _,hvi,Dfs.nil _ _,ex_u _ _ rfl⟩ ?_
   intro k act W hI J Kc hJ hKc
   obtain⟨i,N,D1,hki,hN,hV,hDs,u,hT⟩:=hI
   obtain⟨T,ds⟩:=act
   simp only at hDs hT
   subst hT
   dsimp only[fr1]
   have hD1:Le D D1:=⟨hV.g.le⟩
   have:=hV.g
   have:=hV.g.keeps
   have hbO:=hV.o.lt
   by_cases hi:i<n
   ·have hkD:=keeps_le hD1 (w:=W)
    obtain⟨x,lp,rp,rl,b,o,hj,rfl,hav,hc,r1⟩:=AxL_elem (D:=D) (w:=W) hp (i:=i) (by rw[←HL.out];exact hi)
    have hgd:=HG.out x (List.mem_of_getElem? hj)
    obtain⟨hpl,hpr,hsr⟩:=hav
    obtain⟨a3,m3,rfl⟩:=PV_form hpl
    obtain⟨a4,m4,rfl⟩:=PV_form hpr
    obtain⟨a5,m5,rfl,_⟩:=SlN.form hsr
    have hi':(i:Int)<(n:Int):=by omega
    have HJ:=hid hj
    have HGD:=hid hgd
    have HSR:=hid hsr
    obtain⟨nl,hnl⟩:∃n,n=(oP x.k.left).length:=⟨_,rfl⟩
    obtain⟨nr,hnr⟩:∃n,n=(oP x.k.right).length:=⟨_,rfl⟩
    obtain⟨ns,hns⟩:∃n,n=x.k.roles.length:=⟨_,rfl⟩
    rw[←hnl]at hc hpl
    rw[←hnr]at hc hpr
    rw[←hns]at hc HSR
    have HNS:=hid hns
    have HPL:=hid hpl
    have HPR:=hid hpr
    clear hj hgd hsr hns hpl hpr hnl hnr
    obtain⟨D2,hg2,hcx⟩:=new_pub (w:=W) (D:=D1) 34 (axc x (.slice a3 nl m3) (.slice a4 nr m4) (.slice a5 ns m5))
    obtain⟨W1,hW1⟩:∃W1,W1=W.alloc (.cells (axc x (.slice a3 nl m3) (.slice a4 nr m4) (.slice a5 ns m5)) 34):=⟨_,rfl⟩
    obtain⟨g,hg⟩:∃g,g=W.heap.size:=⟨_,rfl⟩
    rw[←hW1]at hg2
    rw[←hg]at hcx
    have hV1:=hV.gro hg2
    have hDs1:Dfs (bO+1) W1 ds:=hDs.cll (X:=none) ⟨hg2.bl⟩ (fun _ h=>by cases h)
    have hD2:Le D1 D2:=hg2.le
    have HW1:=hid hW1
    have HGS:=hid hg
    have:=hg2.keeps
    have c2:=Keeps.out (D:=D2) (w:=W1) _ _ _ (hcx 2 _ rfl)
    have c3:=Keeps.out (D:=D2) (w:=W1) _ _ _ (hcx 3 _ rfl)
    have c4:=Keeps.out (D:=D2) (w:=W1) _ _ _ (hcx 4 _ rfl)
    have c5:=Keeps.out (D:=D2) (w:=W1) _ _ _ (hcx 5 _ rfl)
    have c6:=Keeps.out (D:=D2) (w:=W1) _ _ _ (hcx 6 _ rfl)
    have c7:=Keeps.out (D:=D2) (w:=W1) _ _ _ (hcx 7 _ rfl)
    have c8:=Keeps.out (D:=D2) (w:=W1) _ _ _ (hcx 8 _ rfl)
    have c9:=Keeps.out (D:=D2) (w:=W1) _ _ _ (hcx 9 _ rfl)
    have c10:=Keeps.out (D:=D2) (w:=W1) _ _ _ (hcx 10 _ rfl)
    have c11:=Keeps.out (D:=D2) (w:=W1) _ _ _ (hcx 11 _ rfl)
    have c1:=Keeps.lt (D:=D2) (w:=W1) (hcx 11 _ rfl)
    have HCX:=hid hcx
    have HG2:=hid hg2
    clear hW1 hg hcx hg2 hV hDs
    go_wp2_with (first|((with_reducible show wpList _ _ _ ((⟨_,.load 34 _,_,_,_,_⟩:Oper)::_) _ _);refine load34 rfl _ rfl rfl hc ?_)|((with_reducible show wpList _ _ _ ((⟨some 50,_,_,_,_,_⟩:Oper)::_) _ _);refine stopL ?_))
    rw[←HW1.out,←HGS.out]
    unfold Stop
    clear hc
    go_wp2_with (first|((with_reducible show wpList _ _ _ ((⟨some 55,_,_,_,_,_⟩:Oper)::_) _ _);refine stopL ?_))
    unfold Stop
    clear c2 c3 c4 c5 c6 c7 c8 c9 c10 c11 c1
    obtain⟨D3,hg3,hcs⟩:=new_pub (w:=W1) (D:=D2) 31 #[.int .i64 (oK x.k.left),.string (str (oN x.k.left)),.int .i64 (oLo x.k.left),.int .i64 (oHi x.k.left),.slice a3 nl m3,.int .i64 (oK x.k.right),.string (str (oN x.k.right)),.int .i64 (oLo x.k.right),.int .i64 (oHi x.k.right),.slice a4 nr m4]
    obtain⟨W2,hW2⟩:∃W2,W2=W1.alloc (.cells #[.int .i64 (oK x.k.left),.string (str (oN x.k.left)),.int .i64 (oLo x.k.left),.int .i64 (oHi x.k.left),.slice a3 nl m3,.int .i64 (oK x.k.right),.string (str (oN x.k.right)),.int .i64 (oLo x.k.right),.int .i64 (oHi x.k.right),.slice a4 nr m4] 31):=⟨_,rfl⟩
    obtain⟨gs,hgs⟩:∃g,g=W1.heap.size:=⟨_,rfl⟩
    rw[←hW2]at hg3⊢
    rw[←hgs]at hcs⊢
    have hV2:=hV1.gro hg3
    have hDs2:Dfs (bO+1) W2 ds:=hDs1.cll (X:=none) ⟨hg3.bl⟩ (fun _ h=>by cases h)
    have hD3:Le D2 D3:=hg3.le
    have hside:Hid (∀j,j<2→∃(q:Option C)(aq:Option Addr)(nq mq:Nat),([x.k.left,x.k.right]:List (Option C))[j]? =some q∧PV D (oP q) (.slice aq nq mq)∧D3 gs (j*5)=some (.int .i64 (oK q))∧D3 gs (j*5+1)=some (.string (str (oN q)))∧D3 gs (j*5+2)=some (.int .i64 (oLo q))∧D3 gs (j*5+3)=some (.int .i64 (oHi q))∧D3 gs (j*5+4)=some (.slice aq nq mq)∧(preO q).length≤64):=hid fun j hj=>by
     have hok:=okK_size HGD.out.ok
     have h01:j=0∨j=1:=by omega
     rcases h01 with rfl|rfl
     ·exact⟨x.k.left,a3,nl,m3,rfl,HPL.out,hcs 0 _ rfl,hcs 1 _ rfl,hcs 2 _ rfl,hcs 3 _ rfl,hcs 4 _ rfl,preO_len _ fun c hc=>hok c (cons_mem (.inl hc))⟩
     ·exact⟨x.k.right,a4,nr,m4,rfl,HPR.out,hcs 5 _ rfl,hcs 6 _ rfl,hcs 7 _ rfl,hcs 8 _ rfl,hcs 9 _ rfl,preO_len _ fun c hc=>hok c (cons_mem (.inr hc))⟩
    obtain⟨sides,hsd⟩:∃s:List (Option C),s=[x.k.left,x.k.right]:=⟨_,rfl⟩
    rw[←hsd]at hside
    have HSD:=hid hsd
    clear hW2 hgs hcs hg3 hV1 hDs1 hsd
    go_wp2_with fail
    refine wp_loop_ghost_k (fun k' act W'=>∃(j N':Nat)(D4:Gh),k'+j=2∧N'≤N+64*j∧VI w D D4 B w.heap.size bO (B+4) (mV B) N' (fun kd=>SA l i kd++((sides.take j).flatMap preO).flatMap (nmO kd)) W'∧Le D3 D4∧Dfs (bO+1) W' act.defers∧∃u,act.tmps=fr2 (some ⟨b,o,none⟩) n m w.heap.size B bO i g gs j u) 2 ⟨0,N,D3,rfl,Nat.le_refl _,hV2.step (Nat.le_refl _) (fun kd _ s=>by simp),le_refl _,hDs2,ex_u _ _ rfl⟩ ?_
    clear hV2 hDs2
    intro k' act W' hI J' Kc' hJ' hKc'
    obtain⟨j,N',D4,hkj,hN',hV,hD4,hDs,u',hT⟩:=hI
    obtain⟨T,ds'⟩:=act
    simp only at hDs hT
    subst hT
    dsimp only[fr2]
    have hDD:Le D D4:=⟨hV.g.le⟩
    have:=hV.g
    have:=hV.g.keeps
    have hkD':=keeps_le hDD (w:=W')
    have hkD3:=keeps_le hD4 (w:=W')
    have hbO':=hV.o.lt
    by_cases hj2:j<2
    ·obtain⟨q,aq,nq,mq,hsj,hpq,r0,r1',r2,r3,r4,hlq⟩:=hside.out j hj2
     have c0:=Keeps.out (D:=D3) (w:=W') _ _ _ r0
     have c1:=Keeps.out (D:=D3) (w:=W') _ _ _ r1'
     have c2:=Keeps.out (D:=D3) (w:=W') _ _ _ r2
     have c3:=Keeps.out (D:=D3) (w:=W') _ _ _ r3
     have c4:=Keeps.out (D:=D3) (w:=W') _ _ _ r4
     have c5:=Keeps.lt (D:=D3) (w:=W') r0
     have hj':(j:Int)<2:=by omega
     have HSJ:=hid hsj
     clear r0 r1' r2 r3 r4 hsj
     go_wp2_with fail
     refine(walkO_c _ D4 q aq nq mq (have:=hpq;ii)).mono ?_
     rintro e W3 ⟨bw,D5,rfl,hg5,hseq⟩
     have hal:Gro none W' D4 (W'.alloc (.cells #[.int .i64 (oK q),.string (str (oN q)),.int .i64 (oLo q),.int .i64 (oHi q),.slice aq nq mq] 31)) D4:=Gr.g
     have hV3:=(hV.gro hal).gro hg5
     have hDs3:Dfs (bO+1) W3 ds':=(hDs.cll (X:=none) ⟨hal.bl⟩ (fun _ h=>by cases h)).cll (X:=none) ⟨hg5.bl⟩ (fun _ h=>by cases h)
     have hD5:Le D4 D5:=hg5.le
     have hbO3:=hV3.o.lt
     clear c0 c1 c2 c3 c4 c5 hV hDs hal hg5 hpq
     go_wp2_with fail
     obtain⟨Sj,hSj⟩:∃S:Int→List Bs,S=fun kd=>SA l i kd++((sides.take j).flatMap preO).flatMap (nmO kd):=⟨_,rfl⟩
     rw[←hSj]at hV3
     have HSj:=hid hSj
     have HNM:Hid (∀y∈preO q,kindsB y=true→(oN y).length≤24):=hid fun y hy hk=>by
      refine name_len (nodes_plain (k:=x.k) HGD.out.wf (j:=oK y) ?_ _ (List.mem_flatMap.2 ⟨y,?_,by rw[nmO_on hk,if_pos rfl];simp⟩))
      ·simp only[kindsB,kdB,Bool.or_eq_true,beq_iff_eq]at hk;exact hk
      ·have hq:=List.mem_of_getElem? HSJ.out
       rw[HSD.out]at hq
       simp only[List.mem_cons,List.not_mem_nil,or_false]at hq
       rcases hq with rfl|rfl
       ·exact List.mem_append.2 (.inl hy)
       ·exact List.mem_append.2 (.inr hy)
     have HLQ:=hid hlq
     have hNb:N'≤1000000:=by omega
     clear hSj hlq
     refine wp_rangeFunc_V (recs:=preO q) (Rd:=RdO D5) (D0:=D5) (D:=D5) (gf:=137) (lb:=#[.pointer (some ⟨bw,0,none⟩)]) rfl (enters_of func137 (by kernel_rfl) rfl) hseq (le_refl D5)
      (fun pre D' W=>∃Nx,Nx≤N'+pre.length∧VI w D D' B w.heap.size bO (B+4) (mV B) Nx (fun kd=>Sj kd++pre.flatMap (nmO kd)) W∧Le D5 D'∧Dfs (bO+1) W ds'∧W3.heap.size≤W.heap.size)
      (fun _ _ _ _=>False)
      (fun s D' W h=>by obtain⟨_,_,hv,_⟩:=h;exact hv.g.keeps)
      (fun s D' W D'' W'' h hg=>by obtain⟨Nx,h1,h2,h3,h4,h5⟩:=h;exact⟨Nx,h1,h2.gro hg,le_trans h3 hg.le,h4.cll (X:=none) ⟨hg.bl⟩ (fun _ h=>by cases h),Nat.le_trans h5 hg.bl.size⟩)
      (fun _ _ _ _ _ _ h _=>h)
      (fun s D' W L ob o' h hl ho hc=>by obtain⟨Nx,h1,h2,h3,h4,h5⟩:=h;exact⟨Nx,h1,h2.put o' (by omega) ho hc,h3,h4.put o' (fun L' hL=>by have:=(hDs3.mem hL).2;omega),by simpa using h5⟩)
      (fun _ _ _ _ _ _ _ h _ _ _=>h)
      ⟨N',by simp,hV3.step (Nat.le_refl _) (fun kd _ s=>by simp),le_refl D5,hDs3,Nat.le_refl _⟩
      (fun pre y v D' a1 W=>(∃Nx,Nx≤N'+pre.length∧VI w D D' B w.heap.size bO (B+4) (mV B) Nx (fun kd=>Sj kd++pre.flatMap (nmO kd)) W∧Le D5 D'∧Dfs (bO+1) W ds'∧W3.heap.size≤W.heap.size)∧∃gx a' n' m',v=cvO y (.slice a' n' m')∧Box W D' gx 31 #[.int .i64 (oK y),.string (str (oN y)),.int .i64 (oLo y),.int .i64 (oHi y),.slice a' n' m']∧a1.defers=[]∧∃u,a1.tmps=fr3 bO gx u)
      (fun pre y v D' a1 W L ob o' h hl ho hc=>by
       obtain⟨⟨Nx,h1,h2,h3,h4,h5⟩,gx,a',n',m',h6,h7,h8,h9⟩:=h
       exact⟨⟨Nx,h1,h2.put o' (by omega) ho hc,h3,h4.put o' (fun L' hL=>by have:=(hDs3.mem hL).2;omega),by simpa using h5⟩,gx,a',n',m',h6,h7.put o' ho hc,h8,h9⟩)
      ?assign ?body ?done ?stop
     case assign=>
      rintro l' pre y v D' W K0 ⟨Nx,h1,h2,h3,h4,h5⟩⟨a',n',m',rfl,hpx⟩ hpre hK0
      have:=h2.g.keeps
      have hal:Gro none W D' (W.alloc (.cells #[.int .i64 (oK y),.string (str (oN y)),.int .i64 (oLo y),.int .i64 (oHi y),.slice a' n' m'] 31)) D':=Gr.g
      have HK0:=hid hK0
      clear hK0
      gi_wp2
      exact HK0.out _ _ (KeepsFrom.cll (X:=none) ⟨hal.bl⟩ (by simp)) ⟨⟨Nx,h1,h2.gro hal,h3,h4.cll (X:=none) ⟨hal.bl⟩ (fun _ h=>by cases h),Nat.le_trans h5 hal.bl.size⟩,W.heap.size,a',n',m',rfl,ii,rfl,ex_u _ _ rfl⟩
     case body=>
      rintro l' pre y v D' a1 W ⟨⟨Nx,h1,h2,h3,h4,h5⟩,gx,a',n',m',rfl,hBg,hdf,u3,hT⟩ hpre hrd
      obtain⟨T,ds1⟩:=a1
      simp only at hdf hT
      subst hdf hT
      dsimp only[fr3]
      have hlk:=run_lookup_int2 underlying122 underlying3 zeroValue89 h2.mp (oK y)
      have o0:=Box.cell (h:=h2.o) 0
      have o1:=h2.o.lt
      have e0:=Box.cell (h:=hBg) 0
      have e1:=Box.cell (h:=hBg) 1
      have e2:=hBg.lt
      have hyq:y∈preO q:=List.IsPrefix.subset hpre (by simp)
      have hln:=hpre.length_le
      have hpl2:pre.length+1≤64:=by have:=HLQ.out;simp at hln;omega
      cases hky:kindsB y
      ·rw[mapV_none (mV B) hky]at hlk
       have HS6:Hid (VI w D D' B w.heap.size bO (B+4) (mV B) Nx (fun kd=>Sj kd++(pre++[y]).flatMap (nmO kd)) W):=hid (h2.step (Nat.le_refl _) fun kd hkd s=>by
        rw[List.flatMap_append,List.flatMap_singleton,nmO_off hky hkd,List.append_nil])
       have H4:=hid h4
       clear hpre hrd hyq h2 h4 hln
       simp only at hlk
       gi_wp2
       exact⟨KeepsFrom.refl _ _,D',le_refl _,Nx,by simp;omega,HS6.out,h3,H4.out,h5⟩
      ·rw[mapV_look (mV B) hky]at hlk
       obtain⟨W6,hr6,hV6,hc6⟩:=h2.upd hky (oN y) (by have:=HNM.out y hyq hky;unfold maxLen;omega) (by unfold maxLen;omega)
       have hkf:KeepsFrom W3.heap.size W W6:=KeepsFrom.cll hc6 (fun j' h=>by cases h;have:=h2.bk.ge _ hky;have:=h2.le;omega)
       have hds6:Dfs (bO+1) W6 ds':=h4.cll hc6 (fun j' h=>by cases h;have:=h2.bk.ge _ hky;have:=h2.le;omega)
       have HS6:Hid (VI w D D' B w.heap.size bO (B+4) (mV B) (Nx+1) (fun kd=>Sj kd++(pre++[y]).flatMap (nmO kd)) W6):=hid (hV6.step (Nat.le_refl _) fun kd hkd s=>by
        rw[List.flatMap_append,List.flatMap_singleton,nmO_on hky]
        split<;>simp)
       clear hpre hrd hyq hV6 h2 h4 hln
       simp only at hlk
       gi_wp2
       exact⟨hkf,D',le_refl _,Nx+1,by simp;omega,HS6.out,h3,hds6,by have:=hc6.out.size;omega⟩
     case done=>
      rintro L D' W ⟨Nx,h1,h2,h3,h4,h5⟩ hle hL hWL
      have hds6:=h4.add (by have:=h2.le;omega) hWL (fun q' hq'=>by have:=(hDs3.mem hq').2;omega)
      have HS6:Hid (VI w D D' B w.heap.size bO (B+4) (mV B) Nx (fun kd=>SA l i kd++((sides.take (j+1)).flatMap preO).flatMap (nmO kd)) W):=hid (h2.step (Nat.le_refl _) fun kd hkd s=>by
       rw[HSj.out,List.take_add_one,HSJ.out];simp)
      have hNx:Nx≤N+64*(j+1):=by have:=HLQ.out;omega
      have hD6:=le_trans hD4 (le_trans hD5 h3)
      clear h1 h2 h4 hseq hV3 hDs3
      dsimp only
      go_wp2_with fail
      exact Handed.intro (k'-1) (by omega) (hJ' _ _ _ ⟨j+1,Nx,D',by omega,hNx,HS6.out,hD6,hds6,ex_u _ _ rfl⟩)
     case stop=>
      rintro L cd pre D' W _ hF
      exact hF.elim
    ·obtain rfl:j=2:=by omega
     have hj':¬((2:Nat):Int)<2:=by omega
     have hD24:=le_trans hD3 hD4
     have hkD2:=keeps_le hD24 (w:=W')
     have c12:=Keeps.out (D:=D2) (w:=W') _ _ _ (HCX.out 12 _ rfl)
     have c1:=Keeps.lt (D:=D2) (w:=W') (HCX.out 12 _ rfl)
     obtain⟨S2,hS2⟩:∃S:Int→List Bs,S=fun kd=>SA l i kd++((sides.take 2).flatMap preO).flatMap (nmO kd):=⟨_,rfl⟩
     rw[←hS2]at hV
     have HS2:=hid hS2
     have hnsl:ns≤4:=by
      rw[HNS.out]
      have hw:=HGD.out.wf
      revert hw
      cases x.k<;>intro hw<;>simp[K.roles]
      exact hw.2.1
     have HNP:=hid (names_plain HGD.out.wf)
     clear hS2 hside
     go_wp2_with fail
     go_loopg [78] ns (fun gk v wr=>∃r Nx:Nat,v=.int .i64 r∧gk+r=ns∧Nx≤N+128+r∧VI w D D4 B w.heap.size bO (B+4) (mV B) Nx (fun kd=>S2 kd++(if kd=6 then x.k.roles.take r else[])) wr∧Dfs (bO+1) wr ds')
     case atStart=>exact⟨0,N',rfl,rfl,by omega,hV.step (Nat.le_refl _) (fun kd _ s=>by simp),hDs⟩
     case round=>
      obtain⟨r,Nx,rfl,hgk,hNx,hVr,hDr⟩:=hrel
      have:=hVr.g.keeps
      have hkDr:=keeps_le hDD (w:=wr)
      have hkD2r:=keeps_le hD24 (w:=wr)
      by_cases hr:r<ns
      ·obtain⟨s,b',o',hsj,rfl,r0,r1'⟩:=SV_elem (D:=D) (w:=wr) HSR.out (i:=r) (by rw[←HNS.out];exact hr)
       have hsl:=name_len (HNP.out.1 s (List.mem_of_getElem? hsj))
       obtain⟨W6,hr6,hV6,hc6⟩:=hVr.upd (k:=6) rfl s (by unfold maxLen;omega) (by unfold maxLen;omega)
       have hr6':(Instr.mapUpdate 89 (.map (some (B+1))) (.string (str s)) (.bool true)).run prog wr=.ok () W6:=hr6
       have hds6:Dfs (bO+1) W6 ds':=hDr.cll hc6 (fun j' h=>by cases h;have:=hVr.bk.ge 6 rfl;have:=hVr.le;omega)
       have HS6:Hid (VI w D D4 B w.heap.size bO (B+4) (mV B) (Nx+1) (fun kd=>S2 kd++(if kd=6 then x.k.roles.take (r+1)else[])) W6):=hid (hV6.step (Nat.le_refl _) fun kd hkd s'=>by
        split
        ·rw[List.take_add_one,hsj];simp
        ·simp)
       have hr':(r:Int)<(ns:Int):=by omega
       clear hr6 hV6 hVr hDr hsj hc6 hV hDs c12
       go_wp2_with fail
       go_roundg (gk-1)
       case measure=>omega
       case rel=>exact⟨r+1,Nx+1,by simp,by omega,by omega,HS6.out,hds6⟩
      ·obtain rfl:r=ns:=by omega
       have hr':¬(r:Int)<(r:Int):=by omega
       have hlen3:∀s∈[x.k.role,x.k.a,x.k.b],s.length≤maxLen:=fun s hs=>by
        rcases s with _|⟨c,q⟩
        ·simp
        ·have:=name_len (HNP.out.2 _ hs (by simp));unfold maxLen;omega
       obtain⟨W6,hr6,hV6,hc6⟩:=hVr.upd (k:=6) rfl x.k.role (hlen3 _ (by simp)) (by unfold maxLen;omega)
       obtain⟨W7,hr7,hV7,hc7⟩:=hV6.upd (k:=4) rfl x.k.a (hlen3 _ (by simp)) (by unfold maxLen;omega)
       obtain⟨W8,hr8,hV8,hc8⟩:=hV7.upd (k:=4) rfl x.k.b (hlen3 _ (by simp)) (by unfold maxLen;omega)
       have hr6':(Instr.mapUpdate 89 (.map (some (B+1))) (.string (str x.k.role)) (.bool true)).run prog wr=.ok () W6:=hr6
       have hr7':(Instr.mapUpdate 89 (.map (some (B+3))) (.string (str x.k.a)) (.bool true)).run prog W6=.ok () W7:=hr7
       have hr8':(Instr.mapUpdate 89 (.map (some (B+3))) (.string (str x.k.b)) (.bool true)).run prog W7=.ok () W8:=hr8
       have hlt:∀k,kdB k=true→∀j',(some (mV B k):Option Nat)=some j'→j'<bO+1:=fun k hk j' h=>by cases h;have:=hVr.bk.ge k hk;have:=hVr.le;omega
       have hds8:Dfs (bO+1) W8 ds':=((hDr.cll hc6 (hlt 6 rfl)).cll hc7 (hlt 4 rfl)).cll hc8 (hlt 4 rfl)
       have:=hV6.g.keeps
       have:=hV7.g.keeps
       have hk6:=keeps_le hD24 (w:=W6)
       have hk7:=keeps_le hD24 (w:=W7)
       have c13:=Keeps.out (D:=D2) (w:=wr) _ _ _ (HCX.out 13 _ rfl)
       have c14:=Keeps.out (D:=D2) (w:=W6) _ _ _ (HCX.out 14 _ rfl)
       have c15:=Keeps.out (D:=D2) (w:=W7) _ _ _ (HCX.out 15 _ rfl)
       have HS8:Hid (VI w D D4 B w.heap.size bO (B+4) (mV B) (Nx+1+1+1) (SA l (i+1)) W8):=hid (hV8.step (Nat.le_refl _) fun kd hkd s=>by
        have hrt:x.k.roles.take r=x.k.roles:=List.take_of_length_le (by have:=HNS.out;omega)
        have hS1:SA l (i+1) kd=SA l i kd++axV kd x.k:=by unfold SA;rw[List.take_add_one,HJ.out];simp
        have hsx:(sides.take 2).flatMap preO=nodesK x.k:=by rw[HSD.out];simp[nodesK]
        rw[hrt,hS1,HS2.out]
        simp only[hsx,axV]
        simp only[kdB,Bool.or_eq_true,beq_iff_eq]at hkd
        rcases hkd with rfl|rfl|rfl|rfl<;>simp)
       clear hr6 hr7 hr8 hV6 hV7 hV8 hc6 hc7 hc8 hVr hDr hV hDs hlt hlen3 c12
       go_wp2_with fail
       exact Handed.intro (k-1) (by omega) (hJ _ _ _ ⟨i+1,Nx+1+1+1,D4,by omega,by omega,HS8.out,hds8,ex_u _ _ rfl⟩)
   ·have hi':¬(i:Int)<(n:Int):=by omega
    obtain rfl:i=n:=by omega
    have hNn:N≤204800:=by omega
    obtain⟨W6,hr6,hV6,hc6⟩:=hV.del (k:=6) rfl [] (by simp) 0
    obtain⟨W7,hr7,hV7,hc7⟩:=hV6.del (k:=4) rfl [] (by simp) 0
    have hr6':(Builtin.delete_ #[89,9] 0 #[.map (some (B+1)),.string ⟨#[]⟩]).run prog W=.ok (.tuple #[]) W6:=hr6
    have hr7':(Builtin.delete_ #[89,9] 0 #[.map (some (B+3)),.string ⟨#[]⟩]).run prog W6=.ok (.tuple #[]) W7:=hr7
    have hlt:∀k,kdB k=true→∀j',(some (mV B k):Option Nat)=some j'→j'<bO+1:=fun k hk j' h=>by cases h;have:=hV.bk.ge k hk;have:=hV.le;omega
    have hds7:Dfs (bO+1) W7 ds:=(hDs.cll hc6 (hlt 6 rfl)).cll hc7 (hlt 4 rfl)
    obtain⟨l1,l2,l3⟩:=hV7.le
    have hB7:=hV7.b
    have hg7:=hV7.g
    have hbO7:=hV7.o.lt
    have hM3:=hV7.s 3 rfl
    have hM6:=hV7.s 6 rfl
    have hM7:=hV7.s 7 rfl
    have hM4:=hV7.s 4 rfl
    have hSn:∀kd,SA l i kd=l.flatMap fun x=>axV kd x.k:=fun kd=>by unfold SA;rw[List.take_of_length_le (by have:=HL.out;omega)]
    have hsl:∀kd,kdB kd=true→∀s,s∈SA l i kd→s.length≤maxLen:=fun kd hk s hs=>by
     rw[hSn]at hs
     obtain⟨x,hx,hs⟩:=List.mem_flatMap.1 hs
     have:=axV_len (HG.out x hx).wf hk s hs
     unfold maxLen;omega
    simp only[show((3:Int)=4)=False by simp,show((3:Int)=6)=False by simp,show((7:Int)=4)=False by simp,show((7:Int)=6)=False by simp,show((6:Int)=4)=False by simp,show((4:Int)=6)=False by simp,if_false,if_true]at hM3 hM6 hM7 hM4
    change MS W7 B N _ at hM3
    change MS W7 (B+1) N _ at hM6
    change MS W7 (B+2) N _ at hM7
    change MS W7 (B+3) N _ at hM4
    have HSN:=hid hSn
    have HR6:=hid hr6'
    have HR7:=hid hr7'
    have hc67:Hid True:=hid trivial
    clear hr6 hr7 hV6 hV7 hV hDs hc6 hc7 hlt hSn hr6' hr7'
    have H6:=HR6.out
    have H7:=HR7.out
    have:=hg7
    have:=hg7.keeps
    have:=hB7
    go_wp2_with fail
    refine(keys_c _ _).mono ?_
    rintro e w' ⟨rfl,rfl⟩
    go_wp2_with fail
    refine(sortedKeysP_c W7 D1 B N _ hM3 (by omega) (hsl 3 rfl)).mono ?_
    rintro e wa ⟨va,qa,Da,rfl,hma,hla,hsa,hga⟩
    have:=hga
    have:=hga.keeps
    have:=hga.le
    go_wp2_with fail
    refine(keys_c _ _).mono ?_
    rintro e w' ⟨rfl,rfl⟩
    go_wp2_with fail
    refine(sortedKeysP_c wa Da (B+1) N _ (hM6.cll (X:=none) ⟨hga.bl⟩ (by simp)) (by omega) (fun s hs=>hsl 6 rfl s (List.mem_filter.1 hs).1)).mono ?_
    rintro e wb ⟨vb,qb,Db,rfl,hmb,hlb,hsb,hgb⟩
    have:=hgb
    have:=hgb.keeps
    have:=hgb.le
    go_wp2_with fail
    refine(keys_c _ _).mono ?_
    rintro e w' ⟨rfl,rfl⟩
    go_wp2_with fail
    refine(sortedKeysP_c wb Db (B+2) N _ ((hM7.cll (X:=none) ⟨hga.bl⟩ (by simp)).cll (X:=none) ⟨hgb.bl⟩ (by simp)) (by omega) (hsl 7 rfl)).mono ?_
    rintro e wc ⟨vc,qc,Dc,rfl,hmc,hlc,hsc,hgc⟩
    have:=hgc
    have:=hgc.keeps
    have:=hgc.le
    go_wp2_with fail
    refine(keys_c _ _).mono ?_
    rintro e w' ⟨rfl,rfl⟩
    go_wp2_with fail
    refine(sortedKeysP_c wc Dc (B+3) N _ (((hM4.cll (X:=none) ⟨hga.bl⟩ (by simp)).cll (X:=none) ⟨hgb.bl⟩ (by simp)).cll (X:=none) ⟨hgc.bl⟩ (by simp)) (by omega) (fun s hs=>hsl 4 rfl s (List.mem_filter.1 hs).1)).mono ?_
    rintro e wd ⟨vd,qd,Dd,rfl,hmd,hld,hsd,hgd⟩
    have:=hgd
    have:=hgd.keeps
    have:=hgd.le
    have hBa:Box wa Da w.heap.size 78 #[.slice none 0 0,.slice none 0 0,.slice none 0 0,.slice none 0 0]:=ii
    have hBb:Box wb Db w.heap.size 78 #[.slice none 0 0,.slice none 0 0,.slice none 0 0,.slice none 0 0]:=ii
    have hBc:Box wc Dc w.heap.size 78 #[.slice none 0 0,.slice none 0 0,.slice none 0 0,.slice none 0 0]:=ii
    have hBd:Box wd Dd w.heap.size 78 #[.slice none 0 0,.slice none 0 0,.slice none 0 0,.slice none 0 0]:=ii
    obtain⟨a1,m1,rfl,_⟩:=SlN.form hsa
    obtain⟨a2,m2,rfl,_⟩:=SlN.form hsb
    obtain⟨a3,m3,rfl,_⟩:=SlN.form hsc
    obtain⟨a4,m4,rfl,_⟩:=SlN.form hsd
    go_wp2_with ((with_reducible show wpList _ _ _ ((⟨_,.store 78 _ _,_,_,_,_⟩:Oper)::_) _ _);refine wpList_storeTo rfl 78 _ _ rfl rfl (w.heap.size) (#[.slice a1 qa.length m1,.slice a2 qb.length m2,.slice a3 qc.length m3,.slice a4 qd.length m4]) rfl rfl _ (#[.slice none 0 0,.slice none 0 0,.slice none 0 0,.slice none 0 0]) (hBd.heap) (hz78) rfl (one78 _ _ _ _ _ _ _ _ _ _ _ _) ?_)
    have hoff:=hBd.off
    have hlen4:(qa++(qb++(qc++qd))).length≤4000000:=by simp only[List.length_append];omega
    have hvoc:VocS l qa qb qc qd:=voc_fin (fun s=>by rw[hma,HSN.out]) (fun s=>by rw[hmb,HSN.out]) (fun s=>by rw[hmc,HSN.out]) (fun s=>by rw[hmd,HSN.out])
    have hGd:Gr none w D wd Dd:=ii
    obtain⟨Wf,hWf⟩:∃W,W=wd.setRow w.heap.size #[.slice a1 qa.length m1,.slice a2 qb.length m2,.slice a3 qc.length m3,.slice a4 qd.length m4]:=⟨_,rfl⟩
    have hBf:Box Wf Dd w.heap.size 78 #[.slice a1 qa.length m1,.slice a2 qb.length m2,.slice a3 qc.length m3,.slice a4 qd.length m4]:=by rw[hWf];exact ii
    have hGf:Gr none w D Wf Dd:=by rw[hWf];exact ii
    have hcf:Cll (some w.heap.size) wd Wf:=⟨by rw[hWf];exact Bl.setRowX (Bl.refl _ _) _⟩
    have hn:∀j':Nat,(none:Option Nat)=some j'→j'<bO+1:=fun _ h=>by cases h
    have hdf:Dfs (bO+1) Wf ds:=((((hds7.cll (X:=none) ⟨hga.bl⟩ hn).cll (X:=none) ⟨hgb.bl⟩ hn).cll (X:=none) ⟨hgc.bl⟩ hn).cll (X:=none) ⟨hgd.bl⟩ hn).cll hcf (fun j' h=>by cases h;omega)
    rw[←hWf]
    refine marks_many (v:=.tuple #[.agg #[.slice a1 qa.length m1,.slice a2 qb.length m2,.slice a3 qc.length m3,.slice a4 qd.length m4],.int .i64 0]) (fun W=>Box W Dd w.heap.size 78 #[.slice a1 qa.length m1,.slice a2 qb.length m2,.slice a3 qc.length m3,.slice a4 qd.length m4]∧Gr none w D W Dd) ?_ ?_ ⟨hBf,hGf⟩ hdf
    ·rintro W L o' ⟨h1,h2⟩ hL hW
     exact⟨h1.put o' hW rfl,⟨h2.bl.put (by omega) o',h2.keeps.put o' hW rfl,h2.le,h2.old⟩⟩
    ·rintro W ⟨h1,h2⟩
     have d0:=Box.cell (h:=h1) 0
     have d1:=Box.cell (h:=h1) 1
     have d2:=Box.cell (h:=h1) 2
     have d3:=Box.cell (h:=h1) 3
     refine⟨by simp[results,results27,go_sem,d0,d1,d2,d3],_,_,_,_,qa,qb,qc,qd,Dd,rfl,?_,?_,?_,hsd,hvoc,hlen4,(have:=h2;Gr.g)⟩
     ·exact((hsa.le (hd:=hgb.le)).le (hd:=hgc.le)).le (hd:=hgd.le)
     ·exact(hsb.le (hd:=hgc.le)).le (hd:=hgd.le)
     ·exact hsc.le (hd:=hgd.le)
end Go.Proofs.YticgonfhjcaohaaGreatDoor
