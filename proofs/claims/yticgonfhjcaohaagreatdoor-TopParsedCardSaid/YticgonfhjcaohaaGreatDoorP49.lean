/- TopParsed, part 49. -/
import Derived.Test.YticgonfhjcaohaaGreatDoorCards
import Derived.OpenShut
import Derived.Stop.LaidErr
import Derived.Test.YticgonfhjcaohaaGreatDoorP48
set_option maxRecDepth 100000
set_option maxHeartbeats 32000000
namespace Go.Proofs.YticgonfhjcaohaaGreatDoor
open Go.RowKit Go.VT _root_.Go.Proofs.Tryz
theorem parsed_c(w:World)(D:Gh)(bs:Bs)(a:Option Addr)(c:Nat)[hk:Keeps D w][hT:TB D][hTW:TW w](hs:bs≠[]→∃b o,a=some ⟨b,o,none⟩∧Byt D b o bs)(hc:bs.length≤c)(hcm:c≤9223372036854775807):
  Calls prog 3 #[.slice a bs.length c] w fun e w'=>e=.returned (.bool true)∧Cll none w w':=by
 obtain⟨n,hn⟩:∃n,n=bs.length:=⟨_,rfl⟩
 have HN:=hid hn
 have HS:=hid hs
 have hSane:=sane_c w D
 rw[←hn]at hc⊢
 clear hn hs
 by_cases hbig:2000<n
 ·have hb:(2000:Int)<(n:Int):=by omega
  go_enter func3,ntmps3
  go_wp2_with fail
  refine hSane.mono ?_
  rintro e w1 ⟨rfl,hc1⟩
  go_wp2_with fail
  go_ret
  exact⟨rfl,hc1⟩
 have hb:¬(2000:Int)<(n:Int):=by omega
 go_enter func3,ntmps3
 go_wp2_with fail
 refine hSane.mono ?_
 rintro e w1 ⟨rfl,hc1⟩
 have:=hc1
 have:Keeps D w1:=Keeps.call none D w w1
 have hTW1:TW w1:=TW.call (w:=w)
 have HD:=hid (document_c w1 D (n+1) (2*(n+1)+202) bs a c HS.out (by rw[←HN.out];omega) (by rw[←HN.out];omega) (by rw[←HN.out];exact hc) hcm (by omega) (by rw[←HN.out];omega))
 rw[←HN.out]at HD
 have hG1:Gr none w D w1 D:=⟨hc1.out,ii,fun _ _ _ h=>h,fun _ _ _=>rfl⟩
 clear hSane hc1
 go_wp2_with fail
 refine HD.out.mono ?_
 rintro e w2 ⟨l,D2,nb,hg2,hgd,htk,_,hcase⟩
 rw[←HN.out]at htk
 have:=hg2
 have:=hg2.keeps
 have:=hg2.le
 have hT2:TB D2:=ii
 have hTW2:TW w2:=TW.call (w:=w1) (hc:=⟨hg2.bl⟩)
 have hG2:Gr none w D w2 D2:=ii
 rcases hcase with⟨hl,vl,ab,cb,rfl,hA⟩|⟨_,rfl⟩
 rotate_left
 ·go_wp2_with fail
  go_ret
  exact⟨rfl,⟨hG2.bl⟩⟩
 obtain⟨a1,m1,hv,hm1,_⟩:∃a m,vl=.slice a l.length m∧l.length≤m∧True:=by
  have hA':=hA
  obtain⟨_,rfl,h,_⟩:=hA'
  obtain⟨a,m,e,h1,_⟩:=SlN.form h
  exact⟨a,m,e,h1,trivial⟩
 subst hv
 have htl:(textD l).length≤50000:=by have:=textD_len l (fun x hx=>(hgd x hx).wf);omega
 obtain⟨nl,hnl⟩:∃n,n=l.length:=⟨_,rfl⟩
 rw[←hnl]at hl hm1⊢
 rw[←hnl]at hA
 have HNL:=hid hnl
 have HGD:=hid hgd
 have HA:=hid hA
 clear hgd htk hnl HD hA hg2
 go_wp2_with fail
 go_loopg [6] nl (fun gk v wr=>∃(i:Nat)(D3:Gh),v=.int .i64 i∧gk+i=nl∧Gr none w D wr D3∧Le D2 D3)
 case atStart=>exact⟨0,D2,rfl,rfl,hG2,le_refl _⟩
 case round=>
  clear hG2
  obtain⟨i,D3,rfl,hgk,hG,hle⟩:=hrel
  have:=hG
  have:=hG.keeps
  have hT3:TB D3:=ii
  have hTW3:TW wr:=TW.call (w:=w) (hc:=⟨hG.bl⟩)
  by_cases hi:i<nl
  ·obtain⟨x,lp,rp,rl,b,o,hj,rfl,hav,hcx,r1⟩:=AxL_elem (D:=D3) (w:=wr) (HA.out.le hle) (i:=i) (by rw[←HNL.out];exact hi)
   have hgx:=HGD.out x (List.mem_of_getElem? hj)
   have HT:=hid (tidyAx_c wr D3 x lp rp rl hav hgx.wf)
   rw[hgx.tidy]at HT
   have hi':(i:Int)<(nl:Int):=by omega
   obtain⟨a3,m3,rfl⟩:=PV_form hav.l
   obtain⟨a4,m4,rfl⟩:=PV_form hav.r
   obtain⟨a5,m5,rfl,_⟩:=SlN.form hav.s
   clear hj hgx
   go_wp2_with ((with_reducible show wpList _ _ _ ((⟨_,.load 34 _,_,_,_,_⟩:Oper)::_) _ _);refine load34 rfl _ rfl rfl hcx ?_)
   refine HT.out.mono ?_
   rintro e w4 ⟨lp',rp',rl',D4,rfl,hav4,hg4⟩
   have:=hg4
   have:=hg4.keeps
   have:=hg4.le
   have hG4:Gr none w D w4 D4:=ii
   obtain⟨b3,q3,rfl⟩:=PV_form hav4.l
   obtain⟨b4,q4,rfl⟩:=PV_form hav4.r
   obtain⟨b5,q5,rfl,_⟩:=SlN.form hav4.s
   obtain⟨W5,hW5⟩:∃W,W=w4.alloc (.cells (axc x (.slice b3 (oP x.k.left).length q3) (.slice b4 (oP x.k.right).length q4) (.slice b5 x.k.roles.length q5)) 34):=⟨_,rfl⟩
   have hB5:Box W5 D4 w4.heap.size 34 (axc x (.slice b3 (oP x.k.left).length q3) (.slice b4 (oP x.k.right).length q4) (.slice b5 x.k.roles.length q5)):=by rw[hW5];exact ii
   have hG5:Gr none w D W5 D4:=by rw[hW5];exact ii
   have:=hG5.keeps
   have hD:∀j u,(axc x (.slice b3 (oP x.k.left).length q3) (.slice b4 (oP x.k.right).length q4) (.slice b5 x.k.roles.length q5))[j]? =some u→W5.cell? ⟨w4.heap.size,j,none⟩=some u:=fun j u e=>by rw[Box.cell (h:=hB5)];exact e
   have hC:∀j u,(axc x (.slice a3 (oP x.k.left).length m3) (.slice a4 (oP x.k.right).length m4) (.slice a5 x.k.roles.length m5))[j]? =some u→W5.cell? ⟨b,o+i*16+j,none⟩=some u:=fun j u e=>by
    have h1:=hcx j u e
    have h2:Cll none wr W5:=⟨hg4.bl.trans (by rw[hW5];exact Bel.c.out)⟩
    exact((ncell (W:=wr) (w1:=W5)).1 b _ r1).trans h1
   have r2:b<W5.heap.size:=Nat.lt_of_lt_of_le r1 (Nat.le_trans hg4.bl.size (by rw[hW5];simp))
   have HW5:=hid hW5
   have hav':AV D4 x _ _ _:=hav.le
   obtain⟨g5,hg5⟩:∃g,g=w4.heap.size:=⟨_,rfl⟩
   have hb5:=hB5.lt
   rw[←hg5]at hD hb5
   have HG5:=hid hg5
   have c0:W5.cell? ⟨b,o+i*16,none⟩=some (.int .i64 x.k.kind):=hC 0 _ rfl
   have c1:W5.cell? ⟨b,o+i*16+1,none⟩=some (.bool x.op):=hC 1 _ rfl
   have c2:W5.cell? ⟨b,o+i*16+2,none⟩=some (.int .i64 (oK x.k.left)):=hC 2 _ rfl
   have c3:W5.cell? ⟨b,o+i*16+3,none⟩=some (.string (str (oN x.k.left))):=hC 3 _ rfl
   have c4:W5.cell? ⟨b,o+i*16+4,none⟩=some (.int .i64 (oLo x.k.left)):=hC 4 _ rfl
   have c5:W5.cell? ⟨b,o+i*16+5,none⟩=some (.int .i64 (oHi x.k.left)):=hC 5 _ rfl
   have c6:W5.cell? ⟨b,o+i*16+6,none⟩=some (.slice a3 (oP x.k.left).length m3):=hC 6 _ rfl
   have c7:W5.cell? ⟨b,o+i*16+7,none⟩=some (.int .i64 (oK x.k.right)):=hC 7 _ rfl
   have c8:W5.cell? ⟨b,o+i*16+8,none⟩=some (.string (str (oN x.k.right))):=hC 8 _ rfl
   have c9:W5.cell? ⟨b,o+i*16+9,none⟩=some (.int .i64 (oLo x.k.right)):=hC 9 _ rfl
   have c10:W5.cell? ⟨b,o+i*16+10,none⟩=some (.int .i64 (oHi x.k.right)):=hC 10 _ rfl
   have c11:W5.cell? ⟨b,o+i*16+11,none⟩=some (.slice a4 (oP x.k.right).length m4):=hC 11 _ rfl
   have c12:W5.cell? ⟨b,o+i*16+12,none⟩=some (.slice a5 x.k.roles.length m5):=hC 12 _ rfl
   have c13:W5.cell? ⟨b,o+i*16+13,none⟩=some (.string (str x.k.role)):=hC 13 _ rfl
   have c14:W5.cell? ⟨b,o+i*16+14,none⟩=some (.string (str x.k.a)):=hC 14 _ rfl
   have c15:W5.cell? ⟨b,o+i*16+15,none⟩=some (.string (str x.k.b)):=hC 15 _ rfl
   have d0:W5.cell? ⟨g5,0,none⟩=some (.int .i64 x.k.kind):=hD 0 _ rfl
   have d1:W5.cell? ⟨g5,1,none⟩=some (.bool x.op):=hD 1 _ rfl
   have d2:W5.cell? ⟨g5,2,none⟩=some (.int .i64 (oK x.k.left)):=hD 2 _ rfl
   have d3:W5.cell? ⟨g5,3,none⟩=some (.string (str (oN x.k.left))):=hD 3 _ rfl
   have d4:W5.cell? ⟨g5,4,none⟩=some (.int .i64 (oLo x.k.left)):=hD 4 _ rfl
   have d5:W5.cell? ⟨g5,5,none⟩=some (.int .i64 (oHi x.k.left)):=hD 5 _ rfl
   have d6:W5.cell? ⟨g5,6,none⟩=some (.slice b3 (oP x.k.left).length q3):=hD 6 _ rfl
   have d7:W5.cell? ⟨g5,7,none⟩=some (.int .i64 (oK x.k.right)):=hD 7 _ rfl
   have d8:W5.cell? ⟨g5,8,none⟩=some (.string (str (oN x.k.right))):=hD 8 _ rfl
   have d9:W5.cell? ⟨g5,9,none⟩=some (.int .i64 (oLo x.k.right)):=hD 9 _ rfl
   have d10:W5.cell? ⟨g5,10,none⟩=some (.int .i64 (oHi x.k.right)):=hD 10 _ rfl
   have d11:W5.cell? ⟨g5,11,none⟩=some (.slice b4 (oP x.k.right).length q4):=hD 11 _ rfl
   have d12:W5.cell? ⟨g5,12,none⟩=some (.slice b5 x.k.roles.length q5):=hD 12 _ rfl
   have d13:W5.cell? ⟨g5,13,none⟩=some (.string (str x.k.role)):=hD 13 _ rfl
   have d14:W5.cell? ⟨g5,14,none⟩=some (.string (str x.k.a)):=hD 14 _ rfl
   have d15:W5.cell? ⟨g5,15,none⟩=some (.string (str x.k.b)):=hD 15 _ rfl
   clear hcx hC hD hB5 hW5 hg5 HT r1 hav hG4 hg4
   dsimp only
   repeat((fail_if_success (with_reducible show Code.wp _ (Code.region 12 _ _) _ _ _));go_step)
   rw[←HW5.out,←HG5.out]
   refine wp_region_still_tail 8 (by kernel_rfl) (by kernel_rfl) ?_
   simp only[List.take_succ_cons,List.take_zero,List.drop_succ_cons,List.drop_zero]
   repeat still_step
   refine wpStill_nil ?_
   change wpList _ _ _ _ _ W5.drew
   go_wp2_with fail
   refine(sameAx_c W5.drew D4 x _ _ _ _ _ _ hav4 hav').mono ?_
   rintro e w6 ⟨rfl,hc6⟩
   go_wp2_with fail
   go_roundg (gk-1)
   case measure=>omega
   case rel=>exact⟨i+1,D4,by simp,by omega,ii,le_trans hle ii⟩
  ·clear hT2 hTW2
   have hA0:AxL D3 l (.slice a1 nl m1):=HA.out.le hle
   obtain⟨tb,htb⟩:∃t,t=textD l:=⟨_,rfl⟩
   have HP8:=hid (print_c wr D3 l a1 nl m1 hA0 HGD.out (by omega) (by omega))
   rw[←htb]at HP8 htl
   have HTB:=hid htb
   clear htb
   go_wp2_with fail
   refine HP8.out.mono ?_
   rintro e x1 ⟨v1,D4,rfl,hS1,hg1⟩
   obtain⟨a6,c1,rfl,hl1,hcm1,hb1⟩:=byt_of hS1
   have:=hg1
   have:=hg1.keeps
   have:=hg1.le
   have hT4:TB D4:=ii
   have hTW4:TW x1:=TW.call (w:=wr) (hc:=⟨hg1.bl⟩)
   obtain⟨nt,hnt⟩:∃n,n=tb.length:=⟨_,rfl⟩
   have HB1:=hid hb1
   have hpb:Hid (Calls prog 5 #[.slice a6 tb.length c1] x1 fun e w'=>∃(vl:Value)(ab:Option Addr)(cb:Nat)(D':Gh),e=.returned (.tuple #[vl,.slice ab 0 cb,.int .i64 0])∧AxL D' l vl∧Gro none x1 D4 w' D'):=hid (by
    have:=parsed_back x1 D4 l a6 c1 (by rw[←HTB.out];intro h0;obtain⟨b,o,e,hb⟩:=HB1.out h0;exact⟨b,o,e,ii⟩) HGD.out (by rw[←HNL.out];omega) (by rw[←HTB.out];omega) (by rw[←HTB.out];omega) hcm1
    rwa[←HTB.out]at this)
   rw[←hnt]at hpb hl1 htl⊢
   clear hS1 hb1 HP8 hnt HB1
   go_wp2_with fail
   refine hpb.out.mono ?_
   rintro e x2 ⟨v2,a7,c2,D5,rfl,hA5,hg2⟩
   have:=hg2
   have:=hg2.keeps
   have:=hg2.le
   have hT5:TB D5:=ii
   have hTW5:TW x2:=TW.call (w:=x1) (hc:=⟨hg2.bl⟩)
   obtain⟨s2,m2,rfl,_⟩:∃a m,v2=.slice a nl m∧True:=by obtain⟨_,rfl,h,_⟩:=hA5;obtain⟨a,m,e,_⟩:=SlN.form h;exact⟨a,m,by rw[e,HNL.out],trivial⟩
   have hle35:Le D3 D5:=le_trans hg1.le hg2.le
   have hSA:=hid (fun(x3:World)(_:Keeps D5 x3)=>sameAxs_c x3 D5 l a1 s2 nl m1 nl m2 (hA0.le hle35) hA5)
   clear hpb hA5
   go_wp2_with fail
   refine(hSA.out _ ii).mono ?_
   rintro e x3 ⟨rfl,hc3⟩
   have:Keeps D5 x3:=Keeps.call none D5 x2 x3
   have hTW6:TW x3:=TW.call (w:=x2) (hc:=hc3)
   go_wp2_with fail
   refine(write_c x3 D5 l a1 nl m1 (hA0.le hle35) HGD.out (by omega)).mono ?_
   rintro e x4 ⟨ws,D6,hg4,_,hcs⟩
   have hbl:Bl none w x4:=(((hG.bl.trans hg1.bl).trans hg2.bl).trans hc3.out).trans hg4.bl
   rcases hcs with⟨b2,c4,rfl,hby2,hl6,hlc2,hcm2,hws2,hkk2⟩|⟨rfl,_⟩|⟨rfl,_⟩
   rotate_left
   ·go_wp2_with fail
    go_ret
    exact⟨rfl,⟨hbl⟩⟩
   ·go_wp2_with fail
    go_ret
    exact⟨rfl,⟨hbl⟩⟩
   have:=hg4
   have:=hg4.keeps
   have:=hg4.le
   have hT6:TB D6:=ii
   obtain⟨n2,hn2⟩:∃n,n=(docW ws l).length:=⟨_,rfl⟩
   rw[←hn2]at hl6 hlc2⊢
   have hrd:Hid (Calls prog 11 #[.slice (some ⟨b2,0,none⟩) n2 c4] x4 fun e w'=>∃(v:Value)(D':Gh),e=.returned (.tuple #[v,.string ⟨#[120]⟩,.int .i64 0,.int .i64 0])∧AxL D' l v∧Gr none x4 D6 w' D'):=hid (by
    have:=hby2
    exact read_c x4 D6 ws l (docW ws l) rfl b2 0 n2 c4 hn2 hlc2 hcm2 hl6 hws2 (by rw[←HNL.out];omega) (fun x hx=>⟨hkk2 x hx,(chkK_zero x.k).2 (HGD.out x hx).ok⟩))
   have hle36:Le D3 D6:=le_trans hle35 hg4.le
   clear hby2 hws2 hkk2 hn2 hSA
   go_wp2_with fail
   refine hrd.out.mono ?_
   rintro e x5 ⟨v5,D7,rfl,hA7,hg5⟩
   have:=hg5
   have:=hg5.keeps
   obtain⟨s5,m5,rfl,_⟩:∃a m,v5=.slice a nl m∧True:=by obtain⟨_,rfl,h,_⟩:=hA7;obtain⟨a,m,e,_⟩:=SlN.form h;exact⟨a,m,by rw[e,HNL.out],trivial⟩
   have hSB:=hid (sameAxs_c x5 D7 l a1 s5 nl m1 nl m5 (hA0.le (le_trans hle36 ⟨hg5.le⟩)) hA7)
   clear hrd hA7 hA0
   go_wp2_with fail
   refine hSB.out.mono ?_
   rintro e x6 ⟨rfl,hc6⟩
   go_wp2_with fail
   go_ret
   exact⟨rfl,⟨(hbl.trans hg5.bl).trans hc6.out⟩⟩
end Go.Proofs.YticgonfhjcaohaaGreatDoor
namespace Go.Proofs.YticgonfhjcaohaaGreatDoor
open Go.RowKit Go.VT _root_.Go.Proofs.Tryz
section
variable{H:Type}{enc:TypeId×Value→H}{P:Program}{w:World}{base:Nat}{sp:Nat→Bool}{held:Bool}{fuel:Nat}{t e:TypeId}{cs:List Value}{p:List MemPlace}
def lv:Lit→Value
 |.int k n=>.int k n
 |.bool b=>.bool b
 |_=>.nilIface
def One(P:Program)(t:TypeId):Prop:=P.cellsOf t=1∧(P.underlying t=some (.int .i64)∨P.underlying t=some .bool)
theorem trod_one{l:Lit}(ht:One P t)(h:DataW.trod enc P w base sp held fuel t cs=some (.lit l,p)):cs=[lv l]:=by
 rcases ht.2 with ht|ht
 ·obtain⟨n,rfl,e,_⟩:=DataW.trod_int ht h
  cases e;rfl
 ·obtain⟨n,rfl,e⟩:=DataW.trod_bool ht h
  cases e;rfl
theorem trod_row{fs:Array Field}{ls:List Lit}(ht:P.underlying t=some (.struct fs))(hn:P.cellsOf t=fs.size)(hf:∀(i:Nat)(f:Field),fs[i]? =some f→f.offset=i∧One P f.type)
  (h:DataW.trod enc P w base sp held fuel t cs=some (.agg (ls.map .lit),p)):cs=ls.map lv:=by
 obtain⟨xs,n,_,hx,hl,hxl,ha⟩:=DataW.trod_struct ht h
 have hm:xs.map (·.1)=ls.map fun l=>(DataW.lit l:DataW H):=by injection hx with h1 _;injection h1 with h2;exact h2.symm
 have hll:ls.length=fs.size:=by rw[←hxl];have:=congrArg List.length hm;simp at this;omega
 apply List.ext_getElem?
 intro i
 by_cases hi:i<fs.size
 ·have h1:=ha i _ (Array.getElem?_eq_getElem hi)
  obtain⟨ho,h1c⟩:=hf i _ (Array.getElem?_eq_getElem hi)
  have h2:xs[i]? =some xs[i]:=List.getElem?_eq_getElem (by omega)
  have h3:xs[i].1=.lit ls[i]:=by
   have:=congrArg (·[i]?) hm
   simp only[List.getElem?_map,h2,List.getElem?_eq_getElem (show i<ls.length by omega),Option.map_some,Option.some.injEq]at this
   exact this
  rw[h2,ho,h1c.1]at h1
  have h4:=trod_one h1c (l:=ls[i]) (p:=xs[i].2) (h1.trans (by rw[←h3]))
  have h5:=congrArg (·[0]?) h4
  rw[List.getElem?_map,List.getElem?_eq_getElem (show i<ls.length by omega)]
  simpa[List.getElem?_take,List.getElem?_drop]using h5
 ·rw[List.getElem?_eq_none (by omega),List.getElem?_eq_none (by simp;omega)]
theorem trod_rows{fs:Array Field}{m:Nat}{rs:List (List Lit)}(hta:P.underlying t=some (.array m e))(ht:P.underlying e=some (.struct fs))(hn:P.cellsOf e=fs.size)(hf:∀(i:Nat)(f:Field),fs[i]? =some f→f.offset=i∧One P f.type)
  (h:DataW.trod enc P w base sp held fuel t cs=some (.agg (rs.map fun ls=>.agg (ls.map .lit)),p)):∀i j u,(rs.map (·.map lv))[i]?.bind (·[j]?)=some u→cs[i*fs.size+j]? =some u:=by
 obtain⟨xs,n,_,hx,hl,hxl,ha⟩:=DataW.trod_array hta h
 have hm:xs.map (·.1)=rs.map fun ls=>(DataW.agg (ls.map .lit):DataW H):=by injection hx with h1 _;injection h1 with h2;exact h2.symm
 have hll:rs.length=m:=by rw[←hxl];have:=congrArg List.length hm;simp at this;omega
 intro i j u hu
 obtain⟨r,hr,hj⟩:=Option.bind_eq_some_iff.1 hu
 rw[List.getElem?_map]at hr
 obtain⟨ls,hls,rfl⟩:=Option.map_eq_some_iff.1 hr
 obtain⟨hi,hls2⟩:=List.getElem?_eq_some_iff.1 hls
 have h1:=ha i (by omega)
 have h2:xs[i]? =some xs[i]:=List.getElem?_eq_getElem (by omega)
 have h3:xs[i].1=.agg (ls.map .lit):=by
  have:=congrArg (·[i]?) hm
  simp only[List.getElem?_map,h2,hls,Option.map_some,Option.some.injEq]at this
  exact this
 rw[h2,hn]at h1
 have h4:=trod_row ht hn hf (ls:=ls) (p:=xs[i].2) (h1.trans (by rw[←h3]))
 have h5:=congrArg (·[j]?) h4
 rw[hj,List.getElem?_take,List.getElem?_drop]at h5
 split at h5
 ·exact h5
 ·cases h5
end
def oldT(w:World):Gh:=fun b o=>w.cell? ⟨b,o,none⟩
instance keepsOldT(w:World):Keeps (oldT w) w:=⟨fun _ _ _ h=>h⟩
theorem byt_row{w:World}{a:Option Addr}{len cap:Nat}{zs:List Int}
  (h:(a=none∧len=0∧cap=0∧zs=[])∨∃x,a=some x∧len≤cap∧cap≤maxLen∧zs.length=cap∧(∀i,i<zs.length→w.cell? (x.add i)=some (.int .u8 (zs.getD i 0)))∧∀n∈zs,(Lit.int .u8 n).wf=true):
  ∃bs:Bs,bs.length=len∧len≤cap∧cap≤9223372036854775807∧(bs≠[]→∃b o,a=some ⟨b,o,none⟩∧Byt (oldT w) b o bs):=by
 rcases h with⟨rfl,rfl,rfl,rfl⟩|⟨x,rfl,hl,hm,hz,hc,hw⟩
 ·exact⟨[],rfl,by omega,by omega,fun h=>absurd rfl h⟩
 ·refine⟨(zs.take len).map (fun z=>UInt8.ofNat z.toNat),by simp;omega,hl,by unfold maxLen at hm;omega,fun hp=>?_⟩
  have hp:0<len∧0<zs.length:=by
   refine⟨Nat.pos_of_ne_zero fun h=>hp (by simp[h]),Nat.pos_of_ne_zero fun h=>hp (by rw[List.length_eq_zero_iff.1 h];simp)⟩
  obtain⟨b,o,sp⟩:=x
  have h0:=hc 0 hp.2
  have hsp:sp=none:=by
   cases sp with
   |none=>rfl
   |some k=>simp[World.cell?,Addr.add]at h0;split at h0<;>simp at h0
  subst hsp
  refine⟨b,o,rfl,⟨fun j u hj=>?_⟩⟩
  simp only[List.getElem?_map,Option.map_eq_some_iff]at hj
  obtain⟨z,hz1,rfl⟩:=hj
  rw[List.getElem?_take]at hz1
  split at hz1
  ·rename_i hjl
   obtain⟨hjz,rfl⟩:=List.getElem?_eq_some_iff.mp hz1
   have hcj:=hc j hjz
   have hwj:=hw zs[j] (List.getElem_mem hjz)
   have hr:0≤zs[j]∧zs[j]<256:=by
    simp[Lit.wf,IntKind.min,IntKind.max,IntKind.signed,IntKind.bits]at hwj
    omega
   have ha:(Addr.mk b o none).add j=⟨b,o+j,none⟩:=by
    unfold Addr.add
    split
    ·simp_all
    ·rfl
   unfold oldT
   rw[ha]at hcj
   rw[hcj]
   simp[List.getD,hjz]
   omega
  ·cases hz1
theorem gUses:prog.globalNamed "veilstone/terms.uses"=some 0:=by kernel_rfl
theorem gNeeds:prog.globalNamed "veilstone/terms.needs"=some 1:=by kernel_rfl
theorem gPow:prog.globalNamed "internal/strconv.uint64pow10"=some 3:=by kernel_rfl
theorem gtUses:(prog.globals[0]?).map (·.type)=some 64:=by kernel_rfl
theorem gtNeeds:(prog.globals[1]?).map (·.type)=some 190:=by kernel_rfl
theorem gtPow:(prog.globals[3]?).map (·.type)=some 242:=by kernel_rfl
theorem one3:One prog 3:=⟨by kernel_rfl,.inl (by kernel_rfl)⟩
theorem one4:One prog 4:=⟨by kernel_rfl,.inr (by kernel_rfl)⟩
theorem tw_of{W:World}{r:List (String×DataW Unit)}{x y:String×DataW Unit}(h:laidMet prog (x::y::("internal/strconv.uint64pow10",Lib.tabData .u64 Lib.pow10Tab)::r) W):TW W:=
 ⟨Lib.tabIs_of_head gPow gtPow (n:=20) (e:=207) (by kernel_rfl) (by kernel_rfl) (by kernel_rfl) (by kernel_rfl) (laidMet.tail (laidMet.tail h))⟩
def needRow'(a b c:Int)(d:Bool):List Lit:=[.int .i64 a,.int .i64 b,.int .i64 c,.bool d]
def useRow'(a b c d e:Bool)(x y:Int):List Lit:=[.bool a,.bool b,.bool c,.bool d,.bool e,.int .i64 x,.int .i64 y]
def needsR:List (List Lit):=[needRow' 0 0 0 false,needRow' 0 0 0 false,needRow' 0 0 0 false,needRow' 1 0 0 false,needRow' 2 0 0 false,needRow' 0 2 8 false,needRow' 1 1 1 false,needRow' 1 0 0 true]
def usesR:List (List Lit):=[useRow' false false false false false 0 0,useRow' true true false false false 0 0,useRow' true true false false false 0 0,useRow' true true false false false 0 0,useRow' false true true false false 0 0,useRow' false false true false false 1 1,useRow' false false true false false 2 4,useRow' false false true false false 0 0,useRow' false true false true false 0 0,useRow' false false true true true 0 0]
theorem needs_at:∀j,j<32→(needsR.map (·.map lv))[j/4]?.bind (·[j%4]?)=needsT[j]? :=fun j hj=>
 List.map_inj_left.1 (show(List.range 32).map (fun j=>(needsR.map (·.map lv))[j/4]?.bind (·[j%4]?))=(List.range 32).map (fun j=>needsT[j]?)from by kernel_rfl) j (List.mem_range.2 hj)
theorem uses_at:∀j,j<70→(usesR.map (·.map lv))[j/7]?.bind (·[j%7]?)=usesT[j]? :=fun j hj=>
 List.map_inj_left.1 (show(List.range 70).map (fun j=>(usesR.map (·.map lv))[j/7]?.bind (·[j%7]?))=(List.range 70).map (fun j=>usesT[j]?)from by kernel_rfl) j (List.mem_range.2 hj)
theorem tb_of{W:World}{r:List (String×DataW Unit)}(h:laidMet prog (("veilstone/terms.needs",.agg (needsR.map fun ls=>.agg (ls.map .lit)))::("veilstone/terms.uses",.agg (usesR.map fun ls=>.agg (ls.map .lit)))::r) W):TB (oldT W):=by
 obtain⟨_,⟨g1,t1,cs1,n1,_,_,hg1,ht1,hv1,hd1,h2,_⟩,_⟩:=h
 obtain⟨g2,t2,cs2,n2,_,_,hg2,ht2,hv2,hd2,_,_⟩:=h2
 obtain rfl:=Option.some.inj (gNeeds.symm.trans hg1)
 obtain rfl:=Option.some.inj (gtNeeds.symm.trans ht1)
 obtain rfl:=Option.some.inj (gUses.symm.trans hg2)
 obtain rfl:=Option.some.inj (gtUses.symm.trans ht2)
 constructor
 ·intro j v e
  have hj:j<32:=(List.getElem?_eq_some_iff.1 e).1
  have hr:=trod_rows underlying190 underlying189 (by kernel_rfl) (by
   intro i f hf
   match i,hf with
   |0,hf|1,hf|2,hf=>cases hf;exact⟨rfl,one3⟩
   |3,hf=>cases hf;exact⟨rfl,one4⟩) hd1 (j/4) (j%4) v (by rw[needs_at j hj];exact e)
  change cs1.toList[j/4*4+j%4]? =_ at hr
  rw[Nat.div_add_mod']at hr
  have hc:=World.var?_cell gNeeds hv1 j
  rw[Array.getElem?_toList]at hr
  exact hc.trans hr
 ·intro j v e
  have hj:j<70:=(List.getElem?_eq_some_iff.1 e).1
  have hr:=trod_rows underlying64 underlying63 (by kernel_rfl) (by
   intro i f hf
   match i,hf with
   |0,hf|1,hf|2,hf|3,hf|4,hf=>cases hf;exact⟨rfl,one4⟩
   |5,hf|6,hf=>cases hf;exact⟨rfl,one3⟩) hd2 (j/7) (j%7) v (by rw[uses_at j hj];exact e)
  change cs2.toList[j/7*7+j%7]? =_ at hr
  rw[Nat.div_add_mod']at hr
  have hc:=World.var?_cell gUses hv2 j
  rw[Array.getElem?_toList]at hr
  exact hc.trans hr
theorem tb_row{W:World}(h:laidMetH prog Rows.topParsedRow.laid W):TB (oldT W):=tb_of (r:=[]) (laidMet.tail (laidMet.tail (laidMet.tail (laidMet.tail (laidMet.tail h)))))
theorem tw_row{W:World}(h:laidMetH prog Rows.topParsedRow.laid W):TW W:=tw_of h
end Go.Proofs.YticgonfhjcaohaaGreatDoor
