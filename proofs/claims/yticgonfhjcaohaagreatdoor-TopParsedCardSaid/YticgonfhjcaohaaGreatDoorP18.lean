/- TopParsed, part 18. -/
import Derived.Test.YticgonfhjcaohaaGreatDoorP14
import Derived.Test.YticgonfhjcaohaaGreatDoorP16
set_option maxRecDepth 100000
set_option maxHeartbeats 32000000
namespace Go.Proofs.YticgonfhjcaohaaGreatDoor
open Go.RowKit Go.VT _root_.Go.Proofs.Tryz
theorem zcells:∃z:Array Value,z.size=7∧(∀v∈z.toList,v.oneCell'=true)∧∀w,(zeroValue 115).run prog w=.ok (.agg z) w:=by
 refine⟨#[.int .i64 0,.string ⟨#[]⟩,.int .i64 0,.int .i64 0,.slice none 0 0,.int .i64 0,.slice none 0 0],rfl,?_,fun w=>by kernel_rfl⟩
 intro v hv
 simp only[List.mem_cons,List.not_mem_nil,or_false]at hv
 rcases hv with rfl|rfl|rfl|rfl|rfl|rfl|rfl<;>rfl
theorem run_clear_rows(w:World)(ty:TypeId)(b o n c:Nat)(hc:∀j,j<n*7→(w.cell? ⟨b,o+j,none⟩).isSome=true)(hf:∀j,j<n*7→w.frozen? ⟨b,o+j,none⟩=false):
  ∃us:List Value,us.length=n*7∧(Builtin.clear_ #[113] ty #[.slice (some ⟨b,o,none⟩) n c]).run prog w=.ok (.tuple #[]) (w.setCells b o us):=by
 obtain⟨z,hz,h1,hv⟩:=zcells
 rcases n with _|n
 ·exact⟨[],by simp,by simp[Builtin.clear_,run_underlying underlying113,World.setCells]⟩
 ·refine⟨(Builtin.zeroCells z (n+1)).toList,by simp[Builtin.zeroCells,hz],?_⟩
  have hst:=run_storeCells_cells (P:=prog) b o (Builtin.zeroCells z (n+1)).toList 0 w (by simpa[Builtin.zeroCells,hz]using hc) (by simpa[Builtin.zeroCells,hz]using hf) (by
   intro v hv
   simp only[Builtin.zeroCells,List.mem_map,Array.toList_map,Array.toList_range,List.mem_range]at hv
   obtain⟨i,hi,rfl⟩:=hv
   have:i%z.size<z.size:=Nat.mod_lt _ (by omega)
   rw[getElem!_pos z _ this]
   exact h1 _ (by simp))
  simp only[Nat.add_zero]at hst
  simp[Builtin.clear_,run_underlying underlying113,hv,Value.cells,hst]
theorem compactC_ne{a b:C}{r:List C}(h:cmpC b a≠0):compactC (a::b::r)=a::compactC (b::r):=by rw[compactC,if_neg h]
theorem compactC_eq{a b:C}{r:List C}(h:cmpC b a=0):compactC (a::b::r)=compactC (b::r):=by rw[compactC,if_pos h]
theorem drop_two{α:Type}{l:List α}{i:Nat}{x y:α}(h:l[i]? =some x)(k:l[i+1]? =some y):l.drop i=x::y::l.drop (i+2):=by
 obtain⟨h1,rfl⟩:=List.getElem?_eq_some_iff.1 h
 obtain⟨h2,rfl⟩:=List.getElem?_eq_some_iff.1 k
 rw[List.drop_eq_getElem_cons h1,List.drop_eq_getElem_cons h2]
theorem rowAt{w:World}{D:Gh}{B n cap g:Nat}{zs:List (C×Value×Value)}(h:Own w D B 115 7 (.slice (some ⟨g,0,none⟩) n cap) n (zs.flatMap trow)){i:Nat}{x:C×Value×Value}(hi:zs[i]? =some x)(hx:OkT D x)(o:Nat)(ho:o=i*7):
  ∃a b n' m m',n'=x.1.parts.length∧x.2.1=.slice a n' m∧x.2.2=.slice b n' m'∧PV D x.1.parts (.slice a n' m)∧TV D x.1.parts (.slice b n' m')∧w.cell? ⟨g,o,none⟩=some (.int .i64 x.1.kind)∧w.cell? ⟨g,o+1,none⟩=some (.string (str x.1.nm))∧w.cell? ⟨g,o+2,none⟩=some (.int .i64 x.1.lo)∧w.cell? ⟨g,o+3,none⟩=some (.int .i64 x.1.hi)∧w.cell? ⟨g,o+4,none⟩=some (.slice a n' m)∧w.cell? ⟨g,o+5,none⟩=some (.int .i64 x.1.size)∧w.cell? ⟨g,o+6,none⟩=some (.slice b n' m'):=by
 subst ho
 obtain⟨hp,hq⟩:=hx
 obtain⟨a,m,e1,_,_⟩:=PV.form hp
 obtain⟨b,m',e2,_,_⟩:=TV.form hq
 have k:=fun j u hu=>h.at (trow_at zs i x hi j u hu)
 rw[e1]at hp
 rw[e2]at hq
 have k4:=k 4 _ rfl
 have k6:=k 6 _ rfl
 rw[e1]at k4
 rw[e2]at k6
 exact⟨a,b,_,m,m',rfl,e1,e2,hp,hq,k 0 _ rfl,k 1 _ rfl,k 2 _ rfl,k 3 _ rfl,k4,k 5 _ rfl,k6⟩
theorem thereRow{w:World}{D:Gh}{B n cap g:Nat}{zs:List (C×Value×Value)}(h:Own w D B 115 7 (.slice (some ⟨g,0,none⟩) n cap) n (zs.flatMap trow))(o m:Nat)(hm:o+m≤n*7):w.there g o m:=fun j hj=>by
 have hl:=h.own.1
 have:o+j<(zs.flatMap trow).length:=by omega
 exact⟨by rw[h.at (List.getElem?_eq_getElem this)];rfl,h.frozen _⟩
theorem wp_clear{ops:Array Oper}{rest:List Oper}{o:Oper}{a:Act}{w:World}{Q:Exit→Act→World→Prop}(hgd:o.guard=none)(x:Operand)(ho:o.op=.call {callee:=.builtin .clear,args:=#[x],argTypes:=#[113]})
  {b oo n c:Nat} (hx:a.eval x=.slice (some ⟨b,oo,none⟩) n c) (hc:w.there b oo (n*7))
  (hK:∀us:List Value,us.length=n*7→wpList prog ops Q rest (a.put o.dst (.tuple #[])) (w.setCells b oo us)):wpList prog ops Q (o::rest) a w:=by
 refine wpList_plain hgd fun K hk'=>?_
 obtain⟨us,hu,hrun⟩:=run_clear_rows w o.type b oo n c (fun j hj=>(hc j hj).1) (fun j hj=>(hc j hj).2)
 unfold Oper.wp execOp
 simp only[ho,resolve,invoke,builtin,Sem.run_bind,Sem.run_pure,Result.andThen_ok,List.map_toArray,List.map_cons,List.map_nil,hx,hrun]
 exact hk' _ _ (hK us hu)
def CompS(w:World)(D:Gh)(B g cap:Nat)(xs:List (C×Value×Value))(e:Ending)(w':World):Prop:=
 ∃(m:Nat)(ys:List (C×Value×Value)),e=.returned (.slice (some ⟨g,0,none⟩) m cap)∧ys.map (·.1)=compactC (xs.map (·.1))∧(∀y∈ys,OkT D y)∧Own w' D B 115 7 (.slice (some ⟨g,0,none⟩) m cap) m (ys.flatMap trow)∧Cll (some g) w w'
theorem compactT_c(w:World)(D:Gh)[hk:Keeps D w](B g cap n:Nat)(xs:List (C×Value×Value))(hO:Own w D B 115 7 (.slice (some ⟨g,0,none⟩) n cap) n (xs.flatMap trow))(hx:∀x∈xs,OkT D x)(hn:n≤1099511627776):
  Calls prog 128 #[.slice (some ⟨g,0,none⟩) n cap,.func (.func 129) #[] #[]] w (CompS w D B g cap xs):=by
 have hl:n=xs.length:=by have:=hO.own.1;rw[trow_len]at this;omega
 have hcap:n≤cap∧cap≤maxLen:=by
  rcases hO.own.2 with⟨hv,_⟩|⟨g',cap',cur,hv,_,_,h1,h2,_⟩
  ·cases hv
  ·cases hv;exact⟨h1,h2⟩
 obtain⟨hc1,hc2⟩:=hcap
 unfold maxLen at hc2
 have HX:=hid hx
 have HL:=hid hl
 have hgw:B≤g∧g<w.heap.size:=hO.lt g rfl
 have hoff:Off D g:=hO.off.out g rfl
 clear hx hl
 have eg:∀args w,(callFunc 129 args).run prog w=.ok (.enter 129 args) w:=enters_of func129 (by kernel_rfl) rfl
 by_cases h2:n<2
 ·have hcc:compactC (xs.map (·.1))=xs.map (·.1):=by
   have hl:=HL.out
   rcases xs with _|⟨x,_|⟨y,r⟩⟩
   ·rfl
   ·rfl
   ·simp only[List.length_cons]at hl;omega
  have HC:=hid hcc
  clear hcc
  go_enter func128,ntmps128
  go_wp2_with fail
  go_ret
  exact⟨n,xs,rfl,HC.out.symm,HX.out,hO,⟨Bl.refl _ _⟩⟩
 ·obtain⟨cs,hcs⟩:∃cs,cs=xs.map (·.1):=⟨_,rfl⟩
  have HCS:=hid hcs
  clear hcs
  go_enter func128,ntmps128
  go_wp2_with fail
  go_loopg [5] n (fun gk v wr=>∃i:Nat,v=.int .i64 (i+1)∧gk+i=n∧i+1≤n∧Bel (some g) w wr∧Own wr D B 115 7 (.slice (some ⟨g,0,none⟩) n cap) n (xs.flatMap trow)∧Hid (compactC cs=cs.take i++compactC (cs.drop i)))
  case atStart=>exact⟨0,rfl,rfl,by omega,⟨Bl.refl _ _⟩,hO,hid (by simp)⟩
  case round=>
   obtain⟨i,rfl,hgk,hi1,hB,hOr,HI⟩:=hrel
   have hkr:Keeps D wr:=Keeps.of_bl hB.out
   by_cases hi:i+1<n
   ·obtain⟨x,hx⟩:∃x,xs[i]? =some x:=⟨_,List.getElem?_eq_getElem (by have:=HL.out;omega)⟩
    obtain⟨y,hy⟩:∃y,xs[i+1]? =some y:=⟨_,List.getElem?_eq_getElem (by have:=HL.out;omega)⟩
    have hdr:cs.drop i=x.1::y.1::cs.drop (i+2):=drop_two (by rw[HCS.out,List.getElem?_map,hx];rfl) (by rw[HCS.out,List.getElem?_map,hy];rfl)
    obtain⟨a1,b1,n1,m1,m1',hn1,ex1,ex2,hp1,hq1,r0,r1,r2,r3,r4,r5,r6⟩:=rowAt hOr hx (HX.out _ (List.mem_of_getElem? hx)) _ rfl
    obtain⟨a2,b2,n2,m2,m2',hn2,ey1,ey2,hp2,hq2,s0,s1,s2,s3,s4,s5,s6⟩:=rowAt hOr hy (HX.out _ (List.mem_of_getElem? hy)) _ rfl
    have HDR:=hid hdr
    have hpos:(0:Int)≤(i:Int)+1:=by omega
    have hin:i<n:=by omega
    have hwr:IntKind.i64.wrap (i:Int)=(i:Int):=by rw[IntKind.wrap_i64];omega
    clear hdr hx hy hn1 hn2 ex1 ex2 ey1 ey2
    repeat((fail_if_success (with_reducible show Code.wp _ (Code.region 6 _ _) _ _ _));go_step)
    refine wp_region_still_tail 10 (by kernel_rfl) (by kernel_rfl) ?_
    simp only[List.take_succ_cons,List.take_zero,List.drop_succ_cons,List.drop_zero]
    repeat still_step
    refine wpStill_nil ?_
    change wpList _ _ _ _ _ wr.drew
    go_wp2_with fail
    refine(meet1_c _ D y.1 x.1 a2 b2 a1 b1 n2 m2 _ _ n1 m1 _ _ hp2 hq2 hp1 hq1).mono ?_
    rintro e w1 ⟨rfl,hcl⟩
    have hB1:Bel (some g) w w1:=ii
    have hO1:Own w1 D B 115 7 (.slice (some ⟨g,0,none⟩) n cap) n (xs.flatMap trow):=ii
    by_cases h0:cmpC y.1 x.1=0
    ·have hb:(cmpC y.1 x.1==0)=true:=by simpa using h0
     rw[hb]
     have hxy:cs[i+1]? =some y.1:=by have:=congrArg (fun l=>l[1]?) HDR.out;simpa[List.getElem?_drop]using this
     have hxi:x.1=y.1:=(cmpC_zero.1 h0).symm
     have hst:compactC cs=(xs.take i).map (·.1)++compactC (cs.drop (i+1+0)):=by
      have h3:cs.drop (i+1+0)=y.1::cs.drop (i+2):=by rw[Nat.add_zero,←List.drop_drop,HDR.out];simp
      rw[HI.out,HDR.out,compactC_eq h0,h3,HCS.out,List.map_take]
     have hzp:(xs[i]?).map (·.1)=cs[i+1+0]? :=by
      rw[Nat.add_zero,hxy,←hxi]
      have:cs[i]? =some x.1:=by have:=congrArg List.head? HDR.out;rw[List.head?_drop]at this;simpa using this
      rw[HCS.out,List.getElem?_map]at this;exact this
     have HST:=hid hst
     have HZP:=hid hzp
     have HXL:=hid HL.out.symm
     clear h0 hb hxy hxi hst hzp r0 r1 r2 r3 r4 r5 r6 s0 s1 s2 s3 s4 s5 s6
     go_wp2_with fail
     go_loopg [5,7] (n-(i+2)) (fun gk v5 v7 wr=>∃(k p:Nat)(zs:List (C×Value×Value)),v5=.int .i64 (p+1)∧v7=.int .i64 (k+1)∧gk+(i+k+2)=n∧p≤i+k∧Bel (some g) w wr∧Own wr D B 115 7 (.slice (some ⟨g,0,none⟩) n cap) n (zs.flatMap trow)∧
      Hid (zs.length=n)∧Hid (zs.drop (p+1)=xs.drop (p+1))∧Hid (∀z∈zs,OkT D z)∧Hid (compactC cs=(zs.take p).map (·.1)++compactC (cs.drop (i+1+k)))∧Hid ((zs[p]?).map (·.1)=cs[i+1+k]?))
     case atStart=>exact⟨0,i,xs,rfl,rfl,by omega,by omega,hB1,hO1,HXL,hid rfl,HX,HST,HZP⟩
     case round=>
      obtain⟨k,p,zs,rfl,rfl,hgk2,hpk,hBz,hOz,HZL,HZD,HZO,HCZ,HPZ⟩:=hrel
      have hkz:Keeps D wr:=Keeps.of_bl hBz.out
      have hposk:(0:Int)≤(k:Int)+1:=by omega
      have hwk:IntKind.i64.wrap (k:Int)=(k:Int):=by rw[IntKind.wrap_i64];omega
      by_cases hk2:k+1<n-(i+1)
      ·obtain⟨x2,hx2⟩:∃x2,xs[i+1+k]? =some x2:=⟨_,List.getElem?_eq_getElem (by have:=HL.out;omega)⟩
       obtain⟨y2,hy2⟩:∃y2,xs[i+1+k+1]? =some y2:=⟨_,List.getElem?_eq_getElem (by have:=HL.out;omega)⟩
       have hdr2:cs.drop (i+1+k)=x2.1::y2.1::cs.drop (i+1+k+2):=drop_two (by rw[HCS.out,List.getElem?_map,hx2];rfl) (by rw[HCS.out,List.getElem?_map,hy2];rfl)
       have hzx:∀q,p+1≤q→zs[q]? =xs[q]? :=fun q hq=>by
        have:=congrArg (fun l=>l[q-(p+1)]?) HZD.out
        simp only[List.getElem?_drop]at this
        rwa[show p+1+(q-(p+1))=q by omega]at this
       have hzx2:zs[i+1+k]? =some x2:=(hzx _ (by omega)).trans hx2
       have hzy2:zs[i+1+k+1]? =some y2:=(hzx _ (by omega)).trans hy2
       have HOY:=hid (HZO.out _ (List.mem_of_getElem? hzy2))
       obtain⟨a3,b3,n3,m3,m3',hn3,ex1,ex2,hp3,hq3,r0,r1,r2,r3,r4,r5,r6⟩:=rowAt hOz hzx2 (HZO.out _ (List.mem_of_getElem? hzx2)) ((i+1)*7+k*7) (by omega)
       obtain⟨a4,b4,n4,m4,m4',hn4,ey1,ey2,hp4,hq4,s0,s1,s2,s3,s4,s5,s6⟩:=rowAt hOz hzy2 (HZO.out _ (List.mem_of_getElem? hzy2)) ((i+1)*7+(k+1)*7) (by omega)
       have HDR2:=hid hdr2
       have HZY:=hid hzy2
       clear hdr2 hx2 hy2 hzx hzx2 hzy2 hn3 hn4 ex1 ex2 ey1 ey2
       have hkn:k<n-(i+1):=by omega
       repeat((fail_if_success (with_reducible show Code.wp _ (Code.region 11 _ _) _ _ _));go_step)
       refine wp_region_still_tail 10 (by kernel_rfl) (by kernel_rfl) ?_
       simp only[List.take_succ_cons,List.take_zero,List.drop_succ_cons,List.drop_zero]
       repeat still_step
       refine wpStill_nil ?_
       change wpList _ _ _ _ _ wr.drew
       go_wp2_with fail
       refine(meet1_c _ D y2.1 x2.1 a4 b4 a3 b3 n4 m4 _ _ n3 m3 _ _ hp4 hq4 hp3 hq3).mono ?_
       rintro e w3 ⟨rfl,hcl⟩
       have hB3:Bel (some g) w w3:=ii
       have hO3:Own w3 D B 115 7 (.slice (some ⟨g,0,none⟩) n cap) n (zs.flatMap trow):=ii
       by_cases h0:cmpC y2.1 x2.1=0
       ·have hb:(cmpC y2.1 x2.1==0)=true:=by simpa using h0
        rw[hb]
        have HH:=hid h0
        clear h0 hb
        go_wp2_with fail
        go_roundg (gk-1)
        case measure=>omega
        case rel=>
         have h3:cs.drop (i+1+(k+1))=y2.1::cs.drop (i+1+k+2):=by rw[←Nat.add_assoc,←List.drop_drop,HDR2.out];simp
         refine⟨k+1,p,zs,rfl,by simp,by omega,by omega,hB3,hO3,HZL,HZD,HZO,hid ?_,hid ?_⟩
         ·rw[HCZ.out,HDR2.out,compactC_eq HH.out,h3]
         ·have e1:cs[i+1+k]? =some x2.1:=by have:=congrArg List.head? HDR2.out;rw[List.head?_drop]at this;simpa using this
          have e2:cs[i+1+(k+1)]? =some y2.1:=by have:=congrArg List.head? h3;rw[List.head?_drop]at this;simpa using this
          rw[HPZ.out,e1,e2,cmpC_zero.1 HH.out]
       ·have hb:(cmpC y2.1 x2.1==0)=false:=by simpa using h0
        rw[hb]
        have HH:=hid h0
        clear h0 hb
        obtain⟨a5,b5,n5,m5,m5',hn5,ez1,ez2,hp5,hq5,t0,t1,t2,t3,t4,t5,t6⟩:=rowAt hO3 HZY.out HOY.out ((i+1)*7+(k+1)*7) (by omega)
        have hth:=thereRow hO3 ((p+1)*7) 7 (by omega)
        have HTR:=hid (show trow y2=[.int .i64 y2.1.kind,.string (str y2.1.nm),.int .i64 y2.1.lo,.int .i64 y2.1.hi,.slice a5 n5 m5,.int .i64 y2.1.size,.slice b5 n5 m5']by unfold trow;rw[ez1,ez2])
        have hpn:p+1<n:=by omega
        have hposp:(0:Int)≤(p:Int)+1:=by omega
        clear ez1 ez2 hn5
        go_wp2_with ((with_reducible show wpList _ _ _ ((⟨none,_,_,_,_,_⟩:Oper)::_) _ _);refine stopL ?_)
        unfold Stop
        refine wpList_store_mid rfl 115 _ _ rfl g ((p+1)*7) (#[.int .i64 y2.1.kind,.string (str y2.1.nm),.int .i64 y2.1.lo,.int .i64 y2.1.hi,.slice a5 n5 m5,.int .i64 y2.1.size,.slice b5 n5 m5']) rfl rfl hth hz115 (tcs_one _ _ _ _ _ _ _ _ _ _ _) ?_
        have hO4:=hO3.setCells (trow y2) ((p+1)*7) (by rw[trow_len,HZL.out];show(p+1)*7+7≤n*7;omega)
        rw[flat_set zs (by rw[HZL.out];exact hpn),HTR.out]at hO4
        have hB4:Bel (some g) w (w3.setCells g ((p+1)*7) [.int .i64 y2.1.kind,.string (str y2.1.nm),.int .i64 y2.1.lo,.int .i64 y2.1.hi,.slice a5 n5 m5,.int .i64 y2.1.size,.slice b5 n5 m5']):=⟨hB3.out.setCells _ _⟩
        change wpList _ _ _ _ _ (w3.setCells g ((p+1)*7) [.int .i64 y2.1.kind,.string (str y2.1.nm),.int .i64 y2.1.lo,.int .i64 y2.1.hi,.slice a5 n5 m5,.int .i64 y2.1.size,.slice b5 n5 m5'])
        generalize w3.setCells g ((p+1)*7) [.int .i64 y2.1.kind,.string (str y2.1.nm),.int .i64 y2.1.lo,.int .i64 y2.1.hi,.slice a5 n5 m5,.int .i64 y2.1.size,.slice b5 n5 m5']=w4 at*
        go_wp2_with fail
        go_roundg (gk-1)
        case measure=>omega
        case rel=>
         have h3:cs.drop (i+1+(k+1))=y2.1::cs.drop (i+1+k+2):=by rw[←Nat.add_assoc,←List.drop_drop,HDR2.out];simp
         have hlz:=HZL.out
         have e1:cs[i+1+k]? =some x2.1:=by have:=congrArg List.head? HDR2.out;rw[List.head?_drop]at this;simpa using this
         have e2:cs[i+1+(k+1)]? =some y2.1:=by have:=congrArg List.head? h3;rw[List.head?_drop]at this;simpa using this
         refine⟨k+1,p+1,zs.set (p+1) y2,by simp,by simp,by omega,by omega,hB4,hO4,hid (by rw[List.length_set];exact hlz),hid ?_,hid ?_,hid ?_,hid ?_⟩
         ·have:=congrArg (List.drop 1) HZD.out
          simp only[List.drop_drop]at this
          rw[List.drop_set_of_lt (by omega)];exact this
         ·intro z hz
          rcases List.mem_or_eq_of_mem_set hz with hz|rfl
          ·exact HZO.out z hz
          ·exact HOY.out
         ·rw[HCZ.out,HDR2.out,compactC_ne HH.out,h3,List.take_set_of_le (Nat.le_refl _),List.take_add_one]
          have:=HPZ.out
          rw[e1]at this
          obtain⟨z,hz,hzx⟩:=Option.map_eq_some_iff.1 this
          rw[hz,←hzx];simp
         ·rw[List.getElem?_set_self (by omega),e2];rfl
      ·have hposp:(0:Int)≤(p:Int)+1:=by omega
       have hpn:p+1<n:=by omega
       go_wp2_with ((with_reducible show wpList _ _ _ ((⟨none,_,_,_,_,_⟩:Oper)::_) _ _);refine stopL ?_)
       unfold Stop
       refine wp_clear rfl _ rfl (b:=g) (oo:=(p+1)*7) (n:=n-(p+1)) (c:=cap-(p+1)) rfl (thereRow hOz _ _ (by omega)) (fun us hus=>?_)
       have hfl:=trow_len zs
       rw[HZL.out]at hfl
       have hO4:=(hOz.setCells us ((p+1)*7) (by omega)).shrink (m:=p+1) (by omega)
       have e1:(setL (zs.flatMap trow) ((p+1)*7) us).take ((p+1)*7)=(zs.take (p+1)).flatMap trow:=by
        rw[setL_eq _ _ _ (by omega),List.append_assoc,List.take_append_of_le_length (by rw[List.length_take];omega),List.take_take,Nat.min_self,flat_take]
       rw[e1]at hO4
       have hB4:Bel (some g) w (wr.setCells g ((p+1)*7) us):=⟨hBz.out.setCells _ _⟩
       generalize wr.setCells g ((p+1)*7) us=w4 at*
       have hlast:(zs.take (p+1)).map (·.1)=compactC cs:=by
        have h0:cs.length=n:=by rw[HCS.out,List.length_map];exact HL.out.symm
        have hk3:i+1+k+1=n:=by omega
        have h1:cs.drop (i+1+k)=[cs[i+1+k]'(by omega)]:=by rw[List.drop_eq_getElem_cons (by omega),List.drop_eq_nil_of_le (by omega)]
        have h2:=HPZ.out
        rw[List.getElem?_eq_getElem (show i+1+k<cs.length by omega)]at h2
        obtain⟨z,hz,hzx⟩:=Option.map_eq_some_iff.1 h2
        rw[HCZ.out,h1,compactC,List.take_add_one,hz,List.map_append,←hzx];rfl
       have HLast:=hid hlast
       clear hlast e1 hfl hus
       go_wp2_with fail
       go_ret
       exact⟨p+1,zs.take (p+1),rfl,by rw[HLast.out,HCS.out],fun z hz=>HZO.out z (List.mem_of_mem_take hz),hO4,Bel.c⟩
    ·have hb:(cmpC y.1 x.1==0)=false:=by simpa using h0
     have HH:=hid h0
     rw[hb]
     clear h0 hb
     go_wp2_with fail
     go_roundg (gk-1)
     case measure=>omega
     case rel=>
      refine⟨i+1,by simp,by omega,by omega,hB1,hO1,hid ?_⟩
      have h3:cs.drop (i+1)=y.1::cs.drop (i+2):=by rw[←List.drop_drop,HDR.out];simp
      rw[HI.out,HDR.out,compactC_ne HH.out,h3]
      have h4:cs.take (i+1)=cs.take i++[x.1]:=by
       have:cs[i]? =some x.1:=by have:=congrArg List.head? HDR.out;rw[List.head?_drop]at this;simpa using this
       rw[List.take_add_one,this];rfl
      rw[h4,List.append_assoc];rfl
   ·go_wp2_with fail
    go_ret
    have hcc:compactC cs=cs:=by
     have h0:cs.length=n:=by rw[HCS.out,List.length_map];exact HL.out.symm
     have h1:cs.drop i=[cs[i]'(by omega)]:=by rw[List.drop_eq_getElem_cons (by omega),List.drop_eq_nil_of_le (by omega)]
     have h2:=HI.out
     rw[h1,compactC,←h1]at h2
     rw[h2];exact List.take_append_drop i cs
    exact⟨n,xs,rfl,by rw[←HCS.out,hcc],HX.out,hOr,Bel.c⟩
end Go.Proofs.YticgonfhjcaohaaGreatDoor
namespace Go.Proofs.YticgonfhjcaohaaGreatDoor
open Go.RowKit Go.VT _root_.Go.Proofs.Tryz
open Go.Sort Go.Shelf Go.Proofs
abbrev Pr:=Int×Int
def cmpP(x y:Pr):Int:=wrap64 (x.1-y.1)
theorem less18_c(w:World)(x y:Pr):Calls prog 18 #[.agg (prow x).toArray,.agg (prow y).toArray] w fun e w'=>e=.returned (.int .i64 (cmpP x y))∧Lay w w':=by
 obtain⟨a,b⟩:=x
 obtain⟨c,d⟩:=y
 show Calls prog 18 #[.agg #[.int .i64 a,.int .i64 b],.agg #[.int .i64 c,.int .i64 d]] w _
 go_enter func18,ntmps18
 go_wp2
 go_ret
 exact⟨rfl,Lay.of⟩
theorem cmpLaysP(g size:Nat)(w:World):CmpLays prog 18 #[] prow 2 cmpP g 0 size w:=by
 intro m os dk _ x y
 exact(less18_c _ x y).mono fun e w' h=>⟨h.1,lay_grow h.2⟩
def SWE(w0:World)(g n:Nat)(W:World):Prop:=∃d:Array Pr,d.size=n∧SWK prow 2 w0 g 0 d W
abbrev RowP(w0:World)(g n:Nat):Prop:=∃d0:Array Pr,d0.size=n∧RowK prow 2 w0 g 0 d0
theorem swe_cells{w0 W:World}{g n:Nat}(R:RowP w0 g n)(S:SWE w0 g n W){p:Nat}(hp:p<n):∃x:Pr,W.cell? ⟨g,p*2,none⟩=some (.int .i64 x.1)∧W.cell? ⟨g,p*2+1,none⟩=some (.int .i64 x.2)∧W.frozen? ⟨g,p*2,none⟩=false∧W.frozen? ⟨g,p*2+1,none⟩=false:=by
 obtain⟨d0,hd0,R⟩:=R
 obtain⟨d,hd,S⟩:=S
 have hH:HoldsK prow 2 W g 0 d:=S.holds R.hblk R.hH (by omega)
 have h:=HoldsK.cells hH R.hk (i:=p) (by omega)
 have f:=fun(c:Nat)(hc:c<2)=>(hH.cell (i:=p) (by omega) hc).2
 have h0:=h 0 (.int .i64 d[p]!.1) rfl
 have h1:=h 1 (.int .i64 d[p]!.2) rfl
 have f0:=f 0 (by omega)
 have f1:=f 1 (by omega)
 rw[Addr.add_lit]at h0 h1
 simp only[Nat.zero_add,Nat.add_zero]at h0 h1 f0 f1
 exact⟨d[p]!,h0,h1,f0,f1⟩
theorem swe_test{w0 W:World}{g n:Nat}(R:RowP w0 g n)(S:SWE w0 g n W){p:Nat}(hp:p<n):∃x:Pr,(∀m os,(grow (W.drewN m) os).cell? ⟨g,p*2,none⟩=some (.int .i64 x.1))∧(∀m os,(grow (W.drewN m) os).cell? ⟨g,p*2+1,none⟩=some (.int .i64 x.2)):=by
 obtain⟨x,h0,h1,_⟩:=swe_cells R S hp
 obtain⟨d0,hd0,R⟩:=R
 obtain⟨d,hd,S⟩:=S
 have hlt:g<W.heap.size:=S.lt R.hblk
 exact⟨x,fun m os=>by rw[cell?_grow _ _ _ (by exact hlt)];exact h0,fun m os=>by rw[cell?_grow _ _ _ (by exact hlt)];exact h1⟩
theorem SWE.grown{w0 W:World}{g n:Nat}(S:SWE w0 g n W)(m:Nat)(os:Array Obj):SWE w0 g n (grow (W.drewN m) os):=let⟨d,h,k⟩:=S;⟨d,h,k.grown m os⟩
theorem SWE.drewN{w0 W:World}{g n:Nat}(S:SWE w0 g n W)(m:Nat):SWE w0 g n (W.drewN m):=let⟨d,h,k⟩:=S;⟨d,h,k.drewN m⟩
theorem set_some{W:World}{a b:Addr}{u v:Value}(h:W.cell? b=some v):∃v',(W.setCell a u).cell? b=some v':=by
 by_cases e:a=b
 ·subst e;exact⟨u,World.cell?_setCell_same' _ _ _ (by rw[h];rfl)⟩
 ·exact⟨v,(World.cell?_setCell_other W a b u e).trans h⟩
theorem swe_swap{w0 W:World}{g n:Nat}(R:RowP w0 g n)(S:SWE w0 g n W){p q:Nat}(hp:p<n)(hq:q<n):∃x0 x1 y0 y1:Int,∃v2 v3:Value,
  W.cell? ⟨g,p*2,none⟩=some (.int .i64 x0)∧W.cell? ⟨g,p*2+1,none⟩=some (.int .i64 x1)∧W.cell? ⟨g,q*2,none⟩=some (.int .i64 y0)∧W.cell? ⟨g,q*2+1,none⟩=some (.int .i64 y1)∧
  W.frozen? ⟨g,p*2,none⟩=false∧W.frozen? ⟨g,p*2+1,none⟩=false∧W.frozen? ⟨g,q*2,none⟩=false∧W.frozen? ⟨g,q*2+1,none⟩=false∧
  ((W.setCell ⟨g,p*2,none⟩ (.int .i64 y0)).setCell ⟨g,p*2+1,none⟩ (.int .i64 y1)).cell? ⟨g,q*2,none⟩=some v2∧
  ((W.setCell ⟨g,p*2,none⟩ (.int .i64 y0)).setCell ⟨g,p*2+1,none⟩ (.int .i64 y1)).cell? ⟨g,q*2+1,none⟩=some v3∧
  Hid (SWE w0 g n ((((W.drew.setCell ⟨g,p*2,none⟩ (.int .i64 y0)).setCell ⟨g,p*2+1,none⟩ (.int .i64 y1)).setCell ⟨g,q*2,none⟩ (.int .i64 x0)).setCell ⟨g,q*2+1,none⟩ (.int .i64 x1))):=by
 obtain⟨x,a0,a1,a2,a3⟩:=swe_cells R S hp
 obtain⟨y,b0,b1,b2,b3⟩:=swe_cells R S hq
 obtain⟨_,h2⟩:=set_some (a:=⟨g,p*2,none⟩) (u:=.int .i64 y.1) b0
 obtain⟨v2,h2⟩:=set_some (a:=⟨g,p*2+1,none⟩) (u:=.int .i64 y.2) h2
 obtain⟨_,h3⟩:=set_some (a:=⟨g,p*2,none⟩) (u:=.int .i64 y.1) b1
 obtain⟨v3,h3⟩:=set_some (a:=⟨g,p*2+1,none⟩) (u:=.int .i64 y.2) h3
 refine⟨x.1,x.2,y.1,y.2,v2,v3,a0,a1,b0,b1,a2,a3,b2,b3,h2,h3,hid ?_⟩
 obtain⟨d0,hd0,R⟩:=R
 obtain⟨d,hd,S⟩:=S
 have hH:HoldsK prow 2 W g 0 d:=S.holds R.hblk R.hH (by omega)
 have key:∀(p:Nat)(x:Pr),p<n→W.cell? ⟨g,p*2,none⟩=some (.int .i64 x.1)→W.cell? ⟨g,p*2+1,none⟩=some (.int .i64 x.2)→d[p]! =x:=fun p x hp a0 a1=>by
  have h:=HoldsK.cells hH R.hk (i:=p) (by omega)
  have e0:=h 0 (.int .i64 d[p]!.1) rfl
  have e1:=h 1 (.int .i64 d[p]!.2) rfl
  rw[Addr.add_lit]at e0 e1
  simp only[Nat.zero_add,Nat.add_zero]at e0 e1
  have f0:=e0.symm.trans a0
  have f1:=e1.symm.trans a1
  simp only[Option.some.injEq,Value.int.injEq,true_and]at f0 f1
  exact Prod.ext f0 f1
 have:=S.swapped R p q (by omega) (by omega)
 rw[key p x hp a0 a1,key q y hq b0 b1]at this
 simp only[Nat.zero_add,prow,World.setCells]at this
 exact⟨_,by rw[size_swp];exact hd,this⟩
theorem swapRange_c(w0 w:World)(g n cap a b k:Nat)(R:RowP w0 g n)(S:SWE w0 g n w)(ha:a+k≤n)(hb:b+k≤n)(hn:n≤1099511627776):
  Calls prog 193 #[.slice (some ⟨g,0,none⟩) n cap,.int .i64 a,.int .i64 b,.int .i64 k,.func (.func 18) #[] #[]] w fun e w'=>e=.returned (.tuple #[])∧SWE w0 g n w':=by
 have mixed:prog.follows .mixedOrders=true:=by kernel_rfl
 have S0:=hid S
 clear S
 go_enter func193,ntmps193
 go_wp2
 go_loopg [10] k (fun gk v wr=>∃i:Nat,v=.int .i64 i∧gk+i=k∧Hid (SWE w0 g n wr))
 case atStart=>exact⟨0,rfl,rfl,S0⟩
 case round=>
  clear S0
  obtain⟨i,rfl,hgk,S1⟩:=hrel
  by_cases hlt:i<k
  ·have hz:decide ((i:Int)<k)=true:=decide_eq_true (by omega)
   have ea:((a:Int)+i).toNat=a+i:=by omega
   have pa:(0:Int)≤(a:Int)+i:=by omega
   have ba:(a:Int)+i<(n:Int):=by omega
   have ra:IntKind.i64.wrap ((a:Int)+i)=(a:Int)+i:=by rw[IntKind.wrap_i64];omega
   have eb:((b:Int)+i).toNat=b+i:=by omega
   have pb:(0:Int)≤(b:Int)+i:=by omega
   have bb:(b:Int)+i<(n:Int):=by omega
   have rb:IntKind.i64.wrap ((b:Int)+i)=(b:Int)+i:=by rw[IntKind.wrap_i64];omega
   obtain⟨x0,x1,y0,y1,v2,v3,c0,c1,c2,c3,f0,f1,f2,f3,h2,h3,S2⟩:=swe_swap R S1.out (p:=a+i) (q:=b+i) (by omega) (by omega)
   clear S1
   go_wp2_with fail
   go_big_region_o
   go_wp2
   go_roundg (gk-1)
   case measure=>omega
   case rel=>exact⟨i+1,by simp,by omega,S2⟩
  ·have hz:decide ((i:Int)<k)=false:=decide_eq_false (by omega)
   go_wp2
   go_end0
   exact⟨rfl,S1.out⟩
end Go.Proofs.YticgonfhjcaohaaGreatDoor
namespace Go.Proofs.YticgonfhjcaohaaGreatDoor
open Go.RowKit Go.VT
open Go.Sort Go.Shelf Go.Proofs
def Tryz.insProb_ren:Go.Shelf.Ren:=⟨fun|20=>119|n=>n,fun|24=>50|22=>25|3=>3|25=>60|4=>4|0=>0|n=>n,fun|n=>n⟩
theorem Tryz.insProb:Go.Proofs.SlLaysF0.n20 Tryz.prog Tryz.insProb_ren:={
 mixed:=by kernel_rfl
 f20:=⟨Tryz.f119.name,by decide,Tryz.func119.trans (congrArg some (by kernel_rfl))⟩
 t0:=Tryz.underlying0
 a0:=Tryz.isAgg0
 z0:=Tryz.sizeOf0
 v0:=Tryz.zeroValue0
 t3:=Tryz.underlying3
 a3:=Tryz.isAgg3
 z3:=Tryz.sizeOf3
 v3:=Tryz.zeroValue3
 t4:=Tryz.underlying4
 a4:=Tryz.isAgg4
 z4:=Tryz.sizeOf4
 v4:=Tryz.zeroValue4
 t22:=Tryz.underlying25
 a22:=Tryz.isAgg25
 z22:=Tryz.sizeOf25
 v22:=Tryz.zeroValue25
 t25:=Tryz.underlying60
 a25:=Tryz.isAgg60
 z25:=Tryz.sizeOf60
 v25:=Tryz.zeroValue60}
theorem insInner_size(lt:Pr→Pr→Bool)(a:Nat):∀(j:Nat)(d:Array Pr),(insInner lt a j d).size=d.size:=by
 intro j
 induction j with
 |zero=>intro d;rw[insInner_stop _ _ _ _ (.inl (Nat.zero_le _))]
 |succ j ih=>
  intro d
  by_cases h:a<j+1∧lt d[j+1]! d[j]! =true
  ·rw[insInner_go lt a (j+1) d h.1 (by simpa using h.2),Nat.add_sub_cancel,ih,size_swp]
  ·rw[insInner_stop]
   rcases Nat.lt_or_ge a (j+1)with h1|h1
   ·exact .inr (by simpa[h1]using h)
   ·exact .inl h1
theorem insOuter_size(lt:Pr→Pr→Bool)(a b:Nat):∀(k i:Nat)(d:Array Pr),b-i≤k→(insOuter lt a b i d).size=d.size:=by
 intro k
 induction k with
 |zero=>intro i d h;rw[insOuter_stop _ _ _ _ _ (by omega)]
 |succ k ih=>
  intro i d h
  by_cases h1:i<b
  ·rw[insOuter_go _ _ _ _ _ h1,ih _ _ (by omega),insInner_size]
  ·rw[insOuter_stop _ _ _ _ _ h1]
theorem ins_c(w0 w:World)(g n cap a b:Nat)(R:RowP w0 g n)(S:SWE w0 g n w)(hab:a≤b)(hb:b≤n)(hn:n≤1099511627776):
  Calls Tryz.prog 119 #[.slice (some ⟨g,0,none⟩) n cap,.int .i64 a,.int .i64 b,.func (.func 18) #[] #[]] w fun e w'=>e=.returned (.tuple #[])∧SWE w0 g n w':=by
 obtain⟨d0,hd0,R⟩:=R
 obtain⟨d,hd,S⟩:=S
 subst hd
 have hH:=S.holds R.hblk R.hH hd0.symm
 refine(AnyQ.insertionSortCmpFunc Tryz.insProb 2 Tryz.isAgg50 Tryz.sizeOf50 prow (fun _=>rfl) R.h1 cmpP 18 #[] g 0 cap a b d w (enters_of Tryz.func18 (by kernel_rfl) rfl) (cmpLaysP g _ w) hH (S.lt R.hblk) hab hb (by omega)).mono ?_
 rintro e w' ⟨rfl,m,os,rfl⟩
 have hz:(Sort.insertionSort (ltOf cmpP) d a b).size=d.size:=insOuter_size _ _ _ _ _ _ (Nat.le_refl _)
 exact⟨rfl,_,hz,S.on R.hblk m _ os hz⟩
theorem rotate_c(w0 w:World)(g n cap a m b:Nat)(R:RowP w0 g n)(S:SWE w0 g n w)(ha:a<m)(hb:m<b)(hbn:b≤n)(hn:n≤1099511627776):
  Calls Tryz.prog 162 #[.slice (some ⟨g,0,none⟩) n cap,.int .i64 a,.int .i64 m,.int .i64 b,.func (.func 18) #[] #[]] w fun e w'=>e=.returned (.tuple #[])∧SWE w0 g n w':=by
 have S0:=Lib.hid S
 clear S
 have e1:(m:Int)-(a:Int)=((m-a:Nat):Int):=by omega
 have e2:(b:Int)-(m:Int)=((b-m:Nat):Int):=by omega
 go_enter Tryz.func162,Tryz.ntmps162
 repeat((fail_if_success (with_reducible show Code.wp _ (Code.loop _) _ _ _));go_step)
 clear e1 e2
 go_loopg [10,11] (m-a+(b-m)) (fun gk v10 v11 wr=>∃i j:Nat,v10=.int .i64 i∧v11=.int .i64 j∧0<i∧0<j∧a+i≤m∧m+j≤b∧gk=i+j∧Hid (SWE w0 g n wr))
 case atStart=>exact⟨m-a,b-m,rfl,rfl,by omega,by omega,by omega,by omega,rfl,S0⟩
 case round=>
  clear S0
  obtain⟨i,j,rfl,rfl,hi,hj,hai,hmj,rfl,S1⟩:=hrel
  have e1:(m:Int)-(i:Int)=((m-i:Nat):Int):=by omega
  rcases Nat.lt_trichotomy i j with hij|hij|hij
  ·have z1:((i:Int)==j)=false:=beq_eq_false_iff_ne.2 (by omega)
   have z2:decide ((i:Int)>j)=false:=decide_eq_false (by omega)
   have z3:decide ((j:Int)<i)=false:=decide_eq_false (by omega)
   have e2:(m:Int)+(j:Int)-(i:Int)=((m+j-i:Nat):Int):=by omega
   have e3:(j:Int)-(i:Int)=((j-i:Nat):Int):=by omega
   go_wp2_with fail
   refine(swapRange_c w0 wr g n cap (m-i) (m+j-i) i R S1.out (by omega) (by omega) hn).mono ?_
   rintro e w1 ⟨rfl,S2⟩
   have S3:=Lib.hid S2
   clear S1 S2
   go_wp2_with fail
   go_roundg j
   case measure=>omega
   case rel=>exact⟨i,j-i,rfl,rfl,by omega,by omega,by omega,by omega,by omega,S3⟩
  ·subst hij
   have z1:((i:Int)==i)=true:=by simp
   go_wp2_with fail
   refine(swapRange_c w0 wr g n cap (m-i) m i R S1.out (by omega) (by omega) hn).mono ?_
   rintro e w1 ⟨rfl,S2⟩
   have S3:=Lib.hid S2
   clear S1 S2
   go_wp2_with fail
   go_end0
   exact⟨rfl,S3.out⟩
  ·have z1:((i:Int)==j)=false:=beq_eq_false_iff_ne.2 (by omega)
   have z2:decide ((i:Int)>j)=true:=decide_eq_true (by omega)
   have z3:decide ((j:Int)<i)=true:=decide_eq_true (by omega)
   have e3:(i:Int)-(j:Int)=((i-j:Nat):Int):=by omega
   go_wp2_with fail
   refine(swapRange_c w0 wr g n cap (m-i) m j R S1.out (by omega) (by omega) hn).mono ?_
   rintro e w1 ⟨rfl,S2⟩
   have S3:=Lib.hid S2
   clear S1 S2
   go_wp2_with fail
   go_roundg i
   case measure=>omega
   case rel=>exact⟨i-j,j,rfl,rfl,by omega,by omega,by omega,by omega,by omega,S3⟩
end Go.Proofs.YticgonfhjcaohaaGreatDoor
