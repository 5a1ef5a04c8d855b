/- TopParsed, part 40. -/
import Derived.Test.YticgonfhjcaohaaGreatDoorP38
set_option maxRecDepth 100000
set_option maxHeartbeats 32000000
namespace Go.Proofs.YticgonfhjcaohaaGreatDoor
open Go.RowKit Go.VT _root_.Go.Proofs.Tryz
theorem rW_flat(l:List C):rW l=((l.map cW).map ([32]++ ·)).flatten:=by
 induction l with
 |nil=>rfl
 |cons c r ih=>rw[rW,ih];simp
theorem cW_and(l:List C):cW (.and l)=o_inter++40::(Lib.join (l.map cW) [32]++[41]):=by
 cases l with
 |nil=>simp[cW,Lib.join,List.intercalate]
 |cons c r=>rw[cW,List.map_cons,join_cons,rW_flat];simp
theorem join_mem{x:Bs}{l:List Bs}(h:x∈l):x.length≤(Lib.join l [32]).length:=by
 cases l with
 |nil=>cases h
 |cons a r=>
  rw[join_cons,List.length_append]
  rcases List.mem_cons.1 h with rfl|h
  ·omega
  ·have:∀r:List Bs,x∈r→x.length≤((r.map ([32]++ ·)).flatten).length:=fun r=>by
    induction r with
    |nil=>intro h;cases h
    |cons b q ih=>
     intro h
     rw[List.map_cons,List.flatten_cons,List.length_append]
     rcases List.mem_cons.1 h with rfl|h
     ·simp;omega
     ·have:=ih h;omega
   exact Nat.le_trans (this r h) (Nat.le_add_left _ _)
abbrev crowA(c:C)(a:Option Addr)(n m:Nat):Array Value:=#[.int .i64 c.kind,.string (str c.nm),.int .i64 c.lo,.int .i64 c.hi,.slice a n m]
theorem owTop(w:World)(a:Option Addr)(n m:Nat):Calls prog 82 #[cv C.top (.slice a n m)] w fun e w'=>e=.returned (.string (str (cW .top)))∧Cll none w w':=by
 go_enter func82,ntmps82
 go_wp2
 go_ret
 exact⟨rfl,Bel.c⟩
theorem owBot(w:World)(a:Option Addr)(n m:Nat):Calls prog 82 #[cv C.bot (.slice a n m)] w fun e w'=>e=.returned (.string (str (cW .bot)))∧Cll none w w':=by
 go_enter func82,ntmps82
 go_wp2
 go_ret
 exact⟨rfl,Bel.c⟩
theorem owNamed(w:World)(s:Bs)(a:Option Addr)(n m:Nat)(hs:s.length≤140737488355328):Calls prog 82 #[cv (C.named s) (.slice a n m)] w fun e w'=>e=.returned (.string (str (cW (.named s))))∧Cll none w w':=by
 have H:=hid (name83_c s hs)
 go_enter func82,ntmps82
 go_wp2_with fail
 refine(H.out _).mono ?_
 rintro e w1 ⟨rfl,rfl⟩
 go_wp2_with fail
 go_ret
 exact⟨rfl,Bel.c⟩
theorem owNom(w:World)(s:Bs)(a:Option Addr)(n m:Nat)(hs:s.length≤140737488355328)(hl:(cW (.nom s)).length≤140737488355328):Calls prog 82 #[cv (C.nom s) (.slice a n m)] w fun e w'=>e=.returned (.string (str (cW (.nom s))))∧Cll none w w':=by
 have H:=hid (name83_c s hs)
 have hj:o_oneof++40::(Lib.join [nameW s] [32]++[41])=cW (.nom s):=by simp[join_cons,cW]
 have HL:=hid hl
 have HJ:=hid hj
 simp only[o_oneof,List.cons_append,List.nil_append]at hj
 have HJ2:=hid hj
 clear hl hj
 obtain⟨W,hW⟩:∃W,W=w.alloc (.cells (crowA (C.nom s) a n m) 31):=⟨_,rfl⟩
 have hG:Bel none w W:=by rw[hW];exact ii
 have hh:=heap_alloc_new w (.cells (crowA (C.nom s) a n m) 31)
 rw[←hW]at hh
 have c0:W.cell? ⟨w.heap.size,0,none⟩=some (.int .i64 4):=by rw[cell_of_row W w.heap.size 0 _ 31 (0,0) hh];rfl
 have c1:W.cell? ⟨w.heap.size,1,none⟩=some (.string (str s)):=by rw[cell_of_row W w.heap.size 1 _ 31 (0,0) hh];rfl
 have HW:=hid hW
 clear hh hW
 go_enter func82,ntmps82
 repeat((fail_if_success (with_reducible show Code.wp _ (Code.region 1 _ _) _ _ _));go_step)
 rw[←HW.out]
 go_wp2_with fail
 refine(H.out _).mono ?_
 rintro e w1 ⟨rfl,rfl⟩
 go_wp2_with fail
 refine(call_new _ 9 o_oneof [nameW s] (by simp) (by rw[HJ.out];exact HL.out)).mono ?_
 rintro e w2 ⟨rfl,hc2⟩
 go_wp2_with fail
 go_ret
 exact⟨by rw[HJ2.out];rfl,Bel.c⟩
theorem owSome(w:World)(D:Gh)[hk:Keeps D w](r:Bs)(c:C)(b o:Nat)(a':Option Addr)(n' m m':Nat)(hs:r.length≤140737488355328)
  (h82:∀w',Cll none w w'→Calls prog 82 #[cv c (.slice a' n' m')] w' fun e w''=>e=.returned (.string (str (cW c)))∧Cll none w' w'')
  (hcell:∀j u,(crowA c a' n' m')[j]? =some u→D b (o+j)=some u) (hlen:(cW (.some r c)).length≤140737488355328):
  Calls prog 82 #[cv (C.some r c) (.slice (some ⟨b,o,none⟩) 1 m)] w fun e w'=>e=.returned (.string (str (cW (.some r c))))∧Cll none w w':=by
 have hj:o_somev++40::(Lib.join [nameW r,cW c] [32]++[41])=cW (.some r c):=by simp[join_cons,cW]
 have H:=hid (name83_c r hs)
 have H4:=hid h82
 have HL:=hid hlen
 have HJ:=hid hj
 simp only[o_somev,List.cons_append,List.nil_append]at hj
 have HJ2:=hid hj
 clear h82 hlen hj
 obtain⟨W,hW⟩:∃W,W=w.alloc (.cells (crowA (C.some r c) (some ⟨b,o,none⟩) 1 m) 31):=⟨_,rfl⟩
 have hB2:Box W D w.heap.size 31 (crowA (C.some r c) (some ⟨b,o,none⟩) 1 m):=by rw[hW];exact ii
 have hG:Bel none w W:=by rw[hW];exact ii
 have hK:Keeps D W:=by rw[hW];exact ii
 have SH:∀W':World,Cll none W W'→(W'.cell? ⟨w.heap.size,1,none⟩=some (.string (str r))∧W'.cell? ⟨w.heap.size,4,none⟩=some (.slice (some ⟨b,o,none⟩) 1 m)
   ∧W'.cell? ⟨b,o,none⟩=some (.int .i64 c.kind)∧W'.cell? ⟨b,o+1,none⟩=some (.string (str c.nm))∧W'.cell? ⟨b,o+2,none⟩=some (.int .i64 c.lo)∧W'.cell? ⟨b,o+3,none⟩=some (.int .i64 c.hi)∧W'.cell? ⟨b,o+4,none⟩=some (.slice a' n' m')):=fun W' hc=>by
  have k1:Keeps D W':=ii
  have b2:Box W' D w.heap.size 31 (crowA (C.some r c) (some ⟨b,o,none⟩) 1 m):=Box.call W W' D _ _ _ none
  exact⟨(b2.held (i:=1) rfl).1,(b2.held (i:=4) rfl).1,k1.out _ _ _ (hcell 0 _ rfl),k1.out _ _ _ (hcell 1 _ rfl),k1.out _ _ _ (hcell 2 _ rfl),k1.out _ _ _ (hcell 3 _ rfl),k1.out _ _ _ (hcell 4 _ rfl)⟩
 have HSH:=hid SH
 have HW:=hid hW
 have c0:W.cell? ⟨w.heap.size,0,none⟩=some (.int .i64 6):=(hB2.held (i:=0) rfl).1
 clear SH hcell hW hB2
 go_enter func82,ntmps82
 repeat((fail_if_success (with_reducible show Code.wp _ (Code.region 1 _ _) _ _ _));go_step)
 rw[←HW.out]
 go_wp2_with fail
 go_region_held3 (fun W'=>(W'.cell? ⟨w.heap.size,1,none⟩=some (.string (str r))∧W'.cell? ⟨w.heap.size,4,none⟩=some (.slice (some ⟨b,o,none⟩) 1 m)
   ∧W'.cell? ⟨b,o,none⟩=some (.int .i64 c.kind)∧W'.cell? ⟨b,o+1,none⟩=some (.string (str c.nm))∧W'.cell? ⟨b,o+2,none⟩=some (.int .i64 c.lo)∧W'.cell? ⟨b,o+3,none⟩=some (.int .i64 c.hi)∧W'.cell? ⟨b,o+4,none⟩=some (.slice a' n' m')))
  (first|(refine HSH.out _ ?_;exact Bel.c;done)|go_keep)
  (first|(go_at_call 82;refine(H4.out _ Bel.c).mono ?_;rintro e w1 ⟨rfl,hc1⟩)|(go_at_call 83;refine(H.out _).mono ?_;rintro e w1 ⟨rfl,rfl⟩)|(go_at_call 84;refine(call_new _ _ o_somev [nameW r,cW c] (by simp) (by rw[HJ.out];exact HL.out)).mono ?_;rintro e w2 ⟨rfl,hc2⟩))
 all_goals
  go_wp2_with fail
  go_ret
  exact⟨by rw[HJ2.out];rfl,Bel.c⟩
theorem owRange(w:World)[hT:TW w](f:Bs)(lo hi:Int)(a:Option Addr)(n m:Nat)(hs:f.length≤140737488355328)(h1: -9223372036854775808≤lo)(h2:lo≤9223372036854775807)(h3: -9223372036854775808≤hi)(h4:hi≤9223372036854775807)(hlen:(cW (.range f lo hi)).length≤140737488355328):
  Calls prog 82 #[cv (C.range f lo hi) (.slice a n m)] w fun e w'=>e=.returned (.string (str (cW (.range f lo hi))))∧Cll none w w':=by
 have hj1:o_restr++40::(Lib.join [o_xint,facetW o_minc lo,facetW o_maxc hi] [32]++[41])=spanW lo hi:=by simp[join_cons,spanW]
 have hj:o_datas++40::(Lib.join [nameW f,spanW lo hi] [32]++[41])=cW (.range f lo hi):=by simp[join_cons,cW]
 have hln:(spanW lo hi).length≤140737488355328:=by simp[cW]at hlen;omega
 have hl1:(facetW o_minc lo).length≤140737488355328:=by simp[spanW]at hln;omega
 have hl2:(facetW o_maxc hi).length≤140737488355328:=by simp[spanW]at hln;omega
 have H:=hid (name83_c f hs)
 have HL:=hid hlen
 have HLN:=hid hln
 have HJ:=hid hj
 have HJ1:=hid hj1
 simp only[o_datas,List.cons_append,List.nil_append]at hj
 have HJ2:=hid hj
 simp only[o_restr,List.cons_append,List.nil_append]at hj1
 have HJ3:=hid hj1
 clear hlen hj hj1 hln
 obtain⟨W,hW⟩:∃W,W=w.alloc (.cells (crowA (C.range f lo hi) a n m) 31):=⟨_,rfl⟩
 have hG:Bel none w W:=by rw[hW];exact ii
 have hTW:TW W:=by rw[hW];exact ii
 have hh:=heap_alloc_new w (.cells (crowA (C.range f lo hi) a n m) 31)
 rw[←hW]at hh
 have SH:∀W':World,Cll none W W'→(W'.cell? ⟨w.heap.size,1,none⟩=some (.string (str f))∧W'.cell? ⟨w.heap.size,2,none⟩=some (.int .i64 lo)∧W'.cell? ⟨w.heap.size,3,none⟩=some (.int .i64 hi)):=fun W' hc=>by
  have hb:=(hc.out.block w.heap.size (by rw[hW];simp) (by simp)).trans hh
  refine⟨?_,?_,?_⟩
  ·rw[cell_of_row W' w.heap.size 1 _ 31 (0,0) hb];rfl
  ·rw[cell_of_row W' w.heap.size 2 _ 31 (0,0) hb];rfl
  ·rw[cell_of_row W' w.heap.size 3 _ 31 (0,0) hb];rfl
 have c0:W.cell? ⟨w.heap.size,0,none⟩=some (.int .i64 7):=by rw[cell_of_row W w.heap.size 0 _ 31 (0,0) hh];rfl
 have HSH:=hid SH
 have HW:=hid hW
 have HF:=hid (fun(W':World)(hc:Cll none W W')(wd:Bs)(x:Int)(h0: -9223372036854775808≤x)(h1:x≤9223372036854775807)(hl:(facetW wd x).length≤140737488355328)=>@facet145_c W' TW.call wd x h0 h1 hl)
 clear SH hh hW
 go_enter func82,ntmps82
 repeat((fail_if_success (with_reducible show Code.wp _ (Code.region 1 _ _) _ _ _));go_step)
 rw[←HW.out]
 go_wp2_with fail
 go_region_held3 (fun W'=>(W'.cell? ⟨w.heap.size,1,none⟩=some (.string (str f))∧W'.cell? ⟨w.heap.size,2,none⟩=some (.int .i64 lo)∧W'.cell? ⟨w.heap.size,3,none⟩=some (.int .i64 hi)))
  (first|(refine HSH.out _ ?_;exact Bel.c;done)|go_keep)
  (first|(go_at_call 145;first|(refine(HF.out _ Bel.c o_minc lo h1 h2 hl1).mono ?_;rintro e w1 ⟨rfl,hc1⟩)|(refine(HF.out _ Bel.c o_maxc hi h3 h4 hl2).mono ?_;rintro e w1 ⟨rfl,hc1⟩))|(go_at_call 84;refine(call_new _ _ o_restr [o_xint,facetW o_minc lo,facetW o_maxc hi] (by simp) (by rw[HJ1.out];exact HLN.out)).mono ?_;rintro e w2 ⟨rfl,hc2⟩))
 all_goals
  rw[HJ3.out]
  have k1:=(HSH.out w2 Bel.c).1
  go_wp2_with fail
  refine(H.out _).mono ?_
  rintro e w3 ⟨rfl,rfl⟩
  go_wp2_with fail
  refine(call_new _ 9 o_datas [nameW f,spanW lo hi] (by simp) (by rw[HJ.out];exact HL.out)).mono ?_
  rintro e w4 ⟨rfl,hc4⟩
  go_wp2_with fail
  go_ret
  exact⟨by rw[HJ2.out];rfl,Bel.c⟩
theorem owAnd(w:World)(D:Gh)[hk:Keeps D w][hT:TW w](l:List C)(a:Option Addr)(len m:Nat)(hp:PV D l (.slice a len m))(hl:l.length≤65536)(hl0:0<l.length)
  (h82:∀c∈l,∀(w':World)(a':Option Addr)(n' m':Nat),Keeps D w'→TW w'→PV D c.parts (.slice a' n' m')→Calls prog 82 #[cv c (.slice a' n' m')] w' fun e w''=>e=.returned (.string (str (cW c)))∧Cll none w' w'')
  (hlen:(cW (.and l)).length≤140737488355328):
  Calls prog 82 #[cv (C.and l) (.slice a len m)] w fun e w'=>e=.returned (.string (str (cW (.and l))))∧Cll none w w':=by
 obtain⟨hlen0,hm1,hm2⟩:=PV_len hp
 have HL:=hid hlen0
 have HT:=hid hlen
 have H4:=hid h82
 have hl1:len≤65536:=by omega
 have hlp:0<len:=by omega
 have hj:=cW_and l
 rw[hj]at hlen
 have HT2:=hid hlen
 have HJ0:=hid hj
 simp only[o_inter,List.cons_append,List.nil_append]at hj
 have HJ:=hid hj.symm
 clear hlen0 hlen h82 hl hl0 hj
 obtain⟨W,hW⟩:∃W,W=w.alloc (.cells (crowA (C.and l) a len m) 31):=⟨_,rfl⟩
 have hB1:Box W D w.heap.size 31 (crowA (C.and l) a len m):=by rw[hW];exact ii
 have hG0:Gr none w D W D:=by rw[hW];exact ii
 have hsw:W.heap.size=w.heap.size+1:=by rw[hW];simp
 have c0:W.cell? ⟨w.heap.size,0,none⟩=some (.int .i64 5):=(hB1.held (i:=0) rfl).1
 have c4:W.cell? ⟨w.heap.size,4,none⟩=some (.slice a len m):=(hB1.held (i:=4) rfl).1
 have HW:=hid hW
 clear hW hB1
 go_enter func82,ntmps82
 repeat((fail_if_success (with_reducible show Code.wp _ (Code.region 1 _ _) _ _ _));go_step)
 rw[←HW.out]
 go_wp2_with fail
 go_loopg [3,25] len (fun gk v3 v25 wr=>∃(i:Nat)(a0:Option Addr)(c0:Nat),v25=.int .i64 i∧v3=.slice a0 i c0∧gk+i=len∧Gr none w D wr D∧w.heap.size+1≤wr.heap.size∧VT.Own wr D (w.heap.size+1) 9 1 (.slice a0 i c0) i (((l.take i).map cW).map fun s=>.string (str s)))
 case atStart=>exact⟨0,none,0,rfl,rfl,rfl,hG0,by omega,⟨⟨by simp,.inl ⟨rfl,rfl⟩⟩,⟨fun g h=>by cases h⟩⟩⟩
 case round=>
  obtain⟨i,a0,c0,rfl,rfl,hgk,hG,hsz,hO⟩:=hrel
  have:=hG.keeps
  have hc0:Cll none w wr:=⟨hG.bl⟩
  have hTr:TW wr:=ii
  by_cases hi:i<len
  ·obtain⟨c',b,o,a',n',m',hj,rfl,rfl,hp',r0,r1,r2,r3,r4,r5⟩:=PV_elem (w:=wr) hp (i:=i) (by rw[←HL.out];exact hi)
   have HJ':=hid hj
   clear hj
   go_wp2_with fail
   refine(H4.out c' (List.mem_of_getElem? HJ'.out) _ a' _ m' ?_ ?_ hp').mono ?_
   ·exact ii
   ·exact ii
   rintro e w4 ⟨rfl,hc4⟩
   have hOx:∀o,VT.Own (w4.alloc o) D (w.heap.size+1) 9 1 (.slice a0 i c0) i (((l.take i).map cW).map fun s=>.string (str s)):=fun o=>ii
   have hBx:∀s,Box (w4.alloc (.cells #[.string s] 9)) D w4.heap.size 9 #[.string s]:=fun _=>ii
   have hs2:wr.heap.size+1≤w4.heap.size:=by have:=hc4.size;simpa using this
   go_wp2_with (at_builtin;refine wp_append_1 (v:=.slice a0 i c0) rfl (.tmp 29) (.tmp 32) 32 rfl underlying32 el9 rfl (hOx _) rfl (hBx _) rfl (own_strs_one [cW c']) (by unfold maxLen;omega) (by omega) (by simp;omega) ?_;intro v5 w5 hO5 hc5)
   have n2:VT.Sub (Value.slice a0 i c0).ownBlock none w:=⟨fun k hk _ e=>by have:=(hO.lt k e.symm).1;omega⟩
   have n3:=hO.off
   have g4:Gr none w D w4 D:=ii
   have hg5:Gr none w D w5 D:=ii
   have:=hg5.keeps
   obtain⟨_,_,hs5⟩:=VT.Own.pub hO5
   obtain⟨a6,c6,rfl,_,_⟩:=SlN.form hs5
   clear hs5
   go_roundg (gk-1)
   case measure=>omega
   case rel=>
    refine⟨i+1,a6,c6,by simp,rfl,by omega,ii,?_,?_⟩
    ·have:=hc5.size
     simp at this
     omega
    ·rw[List.take_add_one,HJ'.out,List.map_append,List.map_append];exact hO5
  ·obtain⟨D',hpub,hs⟩:=VT.Own.pub hO
   have:=hpub.keeps
   obtain⟨_,_,h1,h2,h3⟩:=SlN.cells (w:=wr) hs
   obtain⟨b5,o5,rfl,hc5⟩:=h3 (by omega)
   have hxl:((l.take i).map cW).length=i:=by have:=HL.out;simp;omega
   have hxs:l.take i=l:=List.take_of_length_le (by have:=HL.out;omega)
   have hcl:∀(j:Nat)(x:Bs),((l.take i).map cW)[j]? =some x→wr.cell? ⟨b5,o5+j,none⟩=some (.string (str x)):=fun j x e=>hc5 j _ (by rw[List.getElem?_map,e];rfl)
   have hlt:b5<wr.heap.size:=by
    obtain⟨x,hx⟩:∃x,((l.take i).map cW)[0]? =some x:=⟨_,List.getElem?_eq_getElem (by omega)⟩
    exact World.block_lt_of_cell? wr _ (hcl 0 x hx)
   have hJ:=call84_c wr o_inter b5 o5 c0 ((l.take i).map cW) hcl hlt (by rw[hxl];exact h1) (by rw[hxl];omega) (by rw[hxs];exact HT2.out)
   rw[hxl,hxs,←HJ0.out]at hJ
   have HJJ:=hid hJ
   clear hJ hcl hc5 h3 hxl hxs hs hpub
   go_wp2_with fail
   refine HJJ.out.mono ?_
   rintro e w6 ⟨rfl,hc6⟩
   go_wp2_with fail
   go_ret
   exact⟨rfl,Bel.c⟩
end Go.Proofs.YticgonfhjcaohaaGreatDoor
namespace Go.Proofs.YticgonfhjcaohaaGreatDoor
open Go.RowKit Go.VT _root_.Go.Proofs.Tryz
theorem ow_all:∀(n:Nat)(c:C),c.size≤n→c.size≤65536→c.wf→(cW c).length≤140737488355328→∀(w:World)(D:Gh)(a:Option Addr)(k m:Nat),Keeps D w→TW w→PV D c.parts (.slice a k m)→
  Calls prog 82 #[cv c (.slice a k m)] w (fun e w'=>e=.returned (.string (str (cW c)))∧Cll none w w'):=by
 intro n
 induction n with
 |zero=>intro c h;have:=C.size_pos c;omega
 |succ n ih=>
  intro c hn hs hw hl w D a k m hk hT hp
  cases c with
  |top=>exact owTop w a k m
  |bot=>exact owBot w a k m
  |named s=>have:=name_len hw;exact owNamed w s a k m (by omega)
  |nom s=>have:=name_len hw;exact owNom w s a k m (by omega) hl
  |and l=>
   have hss:(C.and l).size=1+sizeL l:=rfl
   have hsz:=size_len l
   have hjl:(Lib.join (l.map cW) [32]).length≤140737488355328:=by rw[cW_and]at hl;simp at hl;omega
   exact owAnd w D l a k m hp (by omega) (by have:=hw.1;omega) (fun c hc w2 a' n' m' hk2 hT2 hp2=>ih c (by have:=size_mem hc;omega) (by have:=size_mem hc;omega) (wfL_mem hw.2 c hc) (Nat.le_trans (join_mem (List.mem_map_of_mem hc)) hjl) w2 D a' n' m' hk2 hT2 hp2) hl
  |some r c=>
   have hss:(C.some r c).size=1+c.size:=rfl
   have hrl:=name_len hw.1
   obtain⟨hlen,_,_⟩:=PV_len hp
   obtain rfl:k=1:=hlen
   obtain⟨b,o,p,rfl,hcl,hp2⟩:=hp.at_ (hj:=(rfl:(C.some r c).parts[0]? =some c))
   obtain⟨a',m',rfl,_,_⟩:=PV.form hp2
   have hcr:Crow D b o c (.slice a' c.parts.length m'):=by rw[Nat.zero_mul,Nat.add_zero]at hcl;exact hcl
   have hcell:∀(j:Nat)(u:Value),(crowA c a' c.parts.length m')[j]? =some u→D b (o+j)=some u:=by
    intro j u e
    match j with
    |0=>obtain rfl:=Option.some.inj e;exact hcr.h0
    |1=>obtain rfl:=Option.some.inj e;exact hcr.h1
    |2=>obtain rfl:=Option.some.inj e;exact hcr.h2
    |3=>obtain rfl:=Option.some.inj e;exact hcr.h3
    |4=>obtain rfl:=Option.some.inj e;exact hcr.h4
    |j+5=>cases e
   have hcl2:(cW c).length≤140737488355328:=by simp[cW]at hl;omega
   exact owSome w D r c b o a' _ m m' (by omega) (fun w2 h2=>ih c (by omega) (by omega) hw.2 hcl2 w2 D a' _ m' (Keeps.call none D w w2) (TW.call (w:=w)) hp2) hcell hl
  |range f lo hi=>
   obtain⟨hw1,hw2,hw3,hw4⟩:=hw
   unfold maxN at hw2 hw4
   have:=name_len hw1
   exact owRange w f lo hi a k m (by omega) (by omega) (by omega) (by omega) (by omega) hl
end Go.Proofs.YticgonfhjcaohaaGreatDoor
namespace Go.Proofs.YticgonfhjcaohaaGreatDoor
open Go.RowKit Go.VT _root_.Go.Proofs.Tryz
theorem call84_own{w:World}{D:Gh}[hk:Keeps D w]{B:Nat}{a:Option Addr}{n c:Nat}{xs:List Bs}(hO:VT.Own w D B 9 1 (.slice a n c) n (xs.map fun s=>.string (str s)))(hn:0<n)(hN:n≤140737488355328)(wd:Bs)(hlen:(wd++40::(Lib.join xs [32]++[41])).length≤140737488355328):
  Calls prog 84 #[.string (str wd),.slice a n c] w fun e w'=>e=.returned (.string (str (wd++40::(Lib.join xs [32]++[41]))))∧Cll none w w':=by
 obtain⟨D',hpub,hs⟩:=VT.Own.pub hO
 have:=hpub.keeps
 obtain⟨_,h0,h1,h2,h3⟩:=SlN.cells (w:=w) hs
 obtain⟨b5,o5,rfl,hc5⟩:=h3 hn
 have hxl:xs.length=n:=by simpa using h0
 have hcl:∀(j:Nat)(x:Bs),xs[j]? =some x→w.cell? ⟨b5,o5+j,none⟩=some (.string (str x)):=fun j x e=>hc5 j _ (by rw[List.getElem?_map,e];rfl)
 have hlt:b5<w.heap.size:=by
  obtain⟨x,hx⟩:∃x,xs[0]? =some x:=⟨_,List.getElem?_eq_getElem (by omega)⟩
  exact World.block_lt_of_cell? w _ (hcl 0 x hx)
 have:=call84_c w wd b5 o5 c xs hcl hlt (by omega) (by omega) hlen
 rw[hxl]at this
 exact this
def preN(op:Bool):List Bs:=if op then[noteW]else[]
theorem aW_join(x:Ax)(args:List Bs)(h0:args≠[])(h:Lib.join args [32]=argsW x.k):kW x.k++40::(Lib.join (preN x.op++args) [32]++[41])=aW x:=by
 unfold aW preN
 cases x.op with
 |false=>simp[h]
 |true=>
  rw[if_pos rfl,if_pos rfl,List.singleton_append,join_cons]
  rcases args with _|⟨a,r⟩
  ·exact absurd rfl h0
  ·rw[←h,join_cons];simp
theorem app_own{w:World}{D:Gh}{B:Nat}{v:Value}{n:Nat}{xs ys:List Bs}(h:VT.Own w D B 9 1 v n ((xs.map fun s=>Value.string (str s))++(ys.map fun s=>Value.string (str s)))):VT.Own w D B 9 1 v n ((xs++ys).map fun s=>Value.string (str s)):=by rw[List.map_append];exact h
theorem own_note(W:World)(D:Gh)[hk:Keeps D W](s:ByteArray)(B:Nat)(hB:B≤W.heap.size):
  VT.Own ((W.alloc (.cells #[.string s] 9)).alloc (.cells (#[.string s]++Builtin.zeroCells #[Value.string {data:=#[]}] ((Question.appendCap 1 0 9).cut (W.tape W.drawn (Question.appendCap 1 0 9))-1)) 9)).drew D B 9 1 (.slice (some ⟨W.heap.size+1,0,none⟩) 1 ((Question.appendCap 1 0 9).cut (W.tape W.drawn (Question.appendCap 1 0 9)))) 1 [.string s]∧Cll none W ((W.alloc (.cells #[.string s] 9)).alloc (.cells (#[.string s]++Builtin.zeroCells #[Value.string {data:=#[]}] ((Question.appendCap 1 0 9).cut (W.tape W.drawn (Question.appendCap 1 0 9))-1)) 9)).drew:=by
 obtain⟨w,hw⟩:∃w,w=W.alloc (.cells #[.string s] 9):=⟨_,rfl⟩
 have hcell:w.cell? ⟨W.heap.size,0,none⟩=some (.string s):=by rw[hw];exact Box.cell (h:=(ii:Box (W.alloc (.cells #[.string s] 9)) D W.heap.size 9 #[.string s])) 0
 have hgw:Gr none W D w D:=by rw[hw];exact ii
 have hcw:Cll none W w:=⟨hgw.bl⟩
 have:Keeps D w:=Keeps.call none D W w
 have hsz:w.heap.size=W.heap.size+1:=by rw[hw];simp
 have hO0:VT.Own w D B 9 1 (.slice none 0 0) 0 []:=⟨⟨by simp,.inl ⟨rfl,rfl⟩⟩,⟨fun g h=>by cases h⟩⟩
 have hcl:∀(j:Nat)(u:Value),[Value.string s][j]? =some u→w.cell? ⟨W.heap.size,0+j,none⟩=some u:=by
  intro j u e
  match j with
  |0=>obtain rfl:=Option.some.inj e;exact hcell
  |j+1=>cases e
 obtain⟨v',w',hr,hO,hc⟩:=run_append_N (P:=prog) (t:=32) (ty:=32) underlying32 el9 hO0 (b:=W.heap.size) (o:=0) (m:=1) (c:=1) (news:=[.string s]) rfl hcl (by intro u hu;obtain rfl:=List.mem_singleton.1 hu;rfl) (by simp[maxLen]) (by omega) (by omega)
 obtain⟨i,z,hi,hz,h1,h2,h3⟩:=(el9:El prog 9 1 _).out
 have hr2:=run_append_nil (P:=prog) (w:=w) 32 32 9 i z underlying32 hi hz ⟨W.heap.size,0,none⟩ 1 1 [.string s] (by rw[h1];rfl) (fun j u e=>by rw[Addr.add_lit];exact hcl j u e) (by omega) (by omega) (by rw[h2];omega)
 rw[hr2]at hr
 injection hr with e1 e2
 have hz2:(prog.info? 9).bind (fun i=>i.zero)=some (.string {data:=#[]}):=by kernel_rfl
 rw[hi]at hz2
 have hz3:z=.string {data:=#[]}:=Option.some.inj (hz.symm.trans hz2)
 clear hr2 hz hz2
 subst hz3
 subst e1;subst e2
 have hc0:Cll none w _:=hc
 have hc2:=(⟨Gr.bl D D⟩:Cll none W (w.drew.alloc (Obj.cells (#[Value.string s]++Builtin.zeroCells (Value.string {data:=#[]}).cells (grownCap w 1 0 9-1)) 9)))
 rw[hsz]at hO
 subst hw
 exact⟨hO,hc2⟩
theorem step_append_N{w:World}{ops:Array Oper}{o:Oper}{a:Act}{K:Act→World→Prop}{Q:Exit→Act→World→Prop}{E:Prop}(hgd:o.guard=none)(x y:Operand)(t:TypeId)
  (ho:o.op=.call {callee:=.builtin .append,args:=#[x,y],argTypes:=#[t,t]}) {e:TypeId} {s bytes:Nat} (ht:prog.underlying t=some (.slice e)) (hE:El prog e s bytes)
  {D:Gh} {B:Nat} {v:Value} {n:Nat} {xs:List Value} (hx:a.eval x=v) (h:VT.Own w D B e s v n xs) [hk:Keeps D w]
  {b off m c:Nat} {news:List Value} (hy:a.eval y=.slice (some ⟨b,off,none⟩) m c) (hl:news.length=m*s) (hc:∀j u,news[j]? =some u→w.cell? ⟨b,off+j,none⟩=some u) (h1:∀u∈news,u.oneCell'=true)
  (h63:n+m≤maxLen) (hbytes:(n+m)*bytes≤140737488355328) (hB:B≤w.heap.size)
  (hK:∀v' w',VT.Own w' D B e s v' (n+m) (xs++news)→Cll v.ownBlock w w'→K (a.put o.dst v') w'):if Region.wanted o (yielded ops a.tmps)=true then Oper.wp prog o a w K Q else E:=by
 have hw:Region.wanted o (yielded ops a.tmps)=true:=by simp[Region.wanted,hgd]
 obtain⟨v',w',hrun,h2,h3⟩:=run_append_N (P:=prog) (ty:=o.type) ht hE h (c:=c) hl hc h1 h63 hbytes hB
 rw[if_pos hw]
 unfold Oper.wp execOp
 simp only[ho,resolve,invoke,builtin,Sem.run_bind,Sem.run_pure,Result.andThen_ok,List.map_toArray,List.map_cons,List.map_nil,hx,hy,hrun]
 exact hK v' w' h2 h3
theorem call84_S{w:World}{D:Gh}[hk:Keeps D w]{B:Nat}{v:Value}{n:Nat}{xs:List Bs}(wd S:Bs)(hO:VT.Own w D B 9 1 v n (xs.map fun s=>.string (str s)))(hn:0<n)(hN:n≤140737488355328)(hS:wd++40::(Lib.join xs [32]++[41])=S)(hlen:S.length≤140737488355328):
  Calls prog 84 #[.string (str wd),v] w fun e w'=>e=.returned (.string (str S))∧Cll none w w':=by
 subst hS
 obtain⟨a,c,rfl⟩:=own_form hO
 exact call84_own hO hn hN wd hlen
theorem aW_eq{x:Ax}{S:Bs}{xs args:List Bs}(hS:S=aW x)(hx:xs=preN x.op++args)(h0:args≠[])(h:Lib.join args [32]=argsW x.k):kW x.k++40::(Lib.join xs [32]++[41])=S:=by rw[hS,hx];exact aW_join x args h0 h
theorem ow30_refl(w:World)(D:Gh)[hk:Keeps D w][hT:TW w](op:Bool)(s:Bs)(lp rp rl:Value)(hlp:∃a n m,lp=.slice a n m)(hrp:∃a n m,rp=.slice a n m)(hrl:∃a n m,rl=.slice a n m)(hs:s.length≤100)(hlen:(aW ⟨op,.refl s⟩).length≤140737488355328):
  Calls prog 30 #[.agg (axc ⟨op,.refl s⟩ lp rp rl)] w fun e w'=>e=.returned (.string (str (aW ⟨op,.refl s⟩)))∧Cll none w w':=by
 obtain⟨a1,n1,m1,rfl⟩:=hlp
 obtain⟨a2,n2,m2,rfl⟩:=hrp
 obtain⟨a3,n3,m3,rfl⟩:=hrl
 have HL:=hid hlen
 obtain⟨k0,hk0⟩:∃n,n=(preN op).length:=⟨_,rfl⟩
 have hk1:k0≤1:=by rw[hk0];cases op<;>simp[preN]
 have HK0:=hid hk0
 obtain⟨W,hW⟩:∃W,W=w.alloc (.cells (axc ⟨op,.refl s⟩ (.slice a1 n1 m1) (.slice a2 n2 m2) (.slice a3 n3 m3)) 34):=⟨_,rfl⟩
 have hB2:Box W D w.heap.size 34 (axc ⟨op,.refl s⟩ (.slice a1 n1 m1) (.slice a2 n2 m2) (.slice a3 n3 m3)):=by rw[hW];exact ii
 have hG:Gr none w D W D:=by rw[hW];exact ii
 have hsw:W.heap.size=w.heap.size+1:=by rw[hW];simp
 have HW:=hid hW
 clear hlen hk0 hW
 have c1:W.cell? ⟨w.heap.size,1,none⟩=some (.bool op):=(hB2.held (i:=1) rfl).1
 have:=hG.keeps
 go_enter func30,ntmps30
 repeat((fail_if_success (with_reducible show Code.wp _ (Code.region 1 _ _) _ _ _));go_step)
 rw[←HW.out]
 repeat((fail_if_success (with_reducible show Code.wp _ (Code.seq (Code.region 3 _ _) _) _ _ _));go_step)
 go_cut [4]from 8 (fun v4 wx=>∃(a0:Option Addr)(c0:Nat),v4=.slice a0 k0 c0∧Gr none w D wx D∧Box wx D w.heap.size 34 (axc ⟨op,.refl s⟩ (.slice a1 n1 m1) (.slice a2 n2 m2) (.slice a3 n3 m3))∧w.heap.size+1≤wx.heap.size∧VT.Own wx D (w.heap.size+1) 9 1 (.slice a0 k0 c0) k0 ((preN op).map fun s=>.string (str s)))
 case first=>
  have hO0:VT.Own W D (w.heap.size+1) 9 1 (.slice none 0 0) 0 []:=⟨⟨by simp,.inl ⟨rfl,rfl⟩⟩,⟨fun g h=>by cases h⟩⟩
  cases op
  ·obtain rfl:k0=0:=HK0.out
   go_wp2_with fail
   go_meet
   case rel=>exact⟨none,0,rfl,hG,hB2,by omega,hO0⟩
  ·obtain rfl:k0=1:=HK0.out
   go_wp2_with fail
   go_meet
   case rel=>have hn:=own_note W D (str noteW) (w.heap.size+1) (by omega);rw[hsw]at hn;have hg5:=hn.2;have hz5:=hn.2.size;exact⟨_,_,rfl,(ii:Gr none w D _ D),@Box.call _ _ D w.heap.size 34 _ none hn.2 hB2 ii,by rw[←hsw];exact hz5,hn.1⟩
 case rest=>
  obtain⟨a0,c0,rfl,hG,hB,hsz,hO⟩:=hcut
  have:=hG.keeps
  have hc0:Cll none w wc:=⟨hG.bl⟩
  have hTr:TW wc:=ii
  have l0:=hB.lt
  have z0:=Box.cell (h:=hB) 0
  have z13:=Box.cell (h:=hB) 13
  have H:=hid (name83_c s (by omega))
  go_wp2_with fail
  refine(H.out _).mono ?_
  rintro e w1 ⟨rfl,rfl⟩
  have hOx:∀o,VT.Own (w1.alloc o) D (w.heap.size+1) 9 1 (.slice a0 k0 c0) k0 ((preN op).map fun s=>.string (str s)):=fun o=>ii
  have hBx:∀s,Box (w1.alloc (.cells #[.string s] 9)) D w1.heap.size 9 #[.string s]:=fun _=>ii
  go_wp2_with (at_builtin;refine wp_append_1 (v:=.slice a0 k0 c0) rfl (.tmp 97) (.tmp 101) 32 rfl underlying32 el9 rfl (hOx _) rfl (hBx _) rfl (own_strs_one [nameW s]) (by simp[maxLen];omega) (by omega) (by simp;omega) ?_;intro v5 w5 hO5 hc5)
  have hc5i:=hc5
  have hsub:=VT.Own.sub (hOx (.cells #[.string (str (nameW s))] 9)) none (a:=w) (Nat.le_succ _)
  have hofx:OffX D (Value.slice a0 k0 c0).ownBlock:=⟨fun g hg=>(hOx (.cells #[.string (str (nameW s))] 9)).off.out g hg⟩
  have hg5:Gr none w D w5 D:=ii
  have:=hg5.keeps
  have hq:=aW_eq (x:=⟨op,.refl s⟩) (xs:=preN op++[nameW s]) (args:=[nameW s]) rfl rfl (by simp) (by simp[join_cons,argsW])
  refine(call84_S o_refl (aW ⟨op,.refl s⟩) (app_own hO5) (by omega) (by omega) hq HL.out).mono ?_
  rintro e w6 ⟨rfl,hc6⟩
  go_wp2_with fail
  go_ret
  exact⟨rfl,Bel.c⟩
theorem ow30_link(w:World)(D:Gh)[hk:Keeps D w][TW w](op:Bool)(x r y:Bs)(lp rp rl:Value)(hlp:∃a n m,lp=.slice a n m)(hrp:∃a n m,rp=.slice a n m)(hrl:∃a n m,rl=.slice a n m)(hx:x.length≤100)(hr:r.length≤100)(hy:y.length≤100)(hlen:(aW ⟨op,.link x r y⟩).length≤140737488355328):
  Calls prog 30 #[.agg (axc ⟨op,.link x r y⟩ lp rp rl)] w fun e w'=>e=.returned (.string (str (aW ⟨op,.link x r y⟩)))∧Cll none w w':=by
 obtain⟨a1,n1,m1,rfl⟩:=hlp
 obtain⟨a2,n2,m2,rfl⟩:=hrp
 obtain⟨a3,n3,m3,rfl⟩:=hrl
 have HL:=hid hlen
 obtain⟨k0,hk0⟩:∃n,n=(preN op).length:=⟨_,rfl⟩
 have hk1:k0≤1:=by rw[hk0];cases op<;>simp[preN]
 have HK0:=hid hk0
 obtain⟨W,hW⟩:∃W,W=w.alloc (.cells (axc ⟨op,.link x r y⟩ (.slice a1 n1 m1) (.slice a2 n2 m2) (.slice a3 n3 m3)) 34):=⟨_,rfl⟩
 have hB2:Box W D w.heap.size 34 (axc ⟨op,.link x r y⟩ (.slice a1 n1 m1) (.slice a2 n2 m2) (.slice a3 n3 m3)):=by rw[hW];exact ii
 have hG:Gr none w D W D:=by rw[hW];exact ii
 have hsw:W.heap.size=w.heap.size+1:=by rw[hW];simp
 have HW:=hid hW
 clear hlen hk0 hW
 have c1:W.cell? ⟨w.heap.size,1,none⟩=some (.bool op):=(hB2.held (i:=1) rfl).1
 have:=hG.keeps
 go_enter func30,ntmps30
 repeat((fail_if_success (with_reducible show Code.wp _ (Code.region 1 _ _) _ _ _));go_step)
 rw[←HW.out]
 repeat((fail_if_success (with_reducible show Code.wp _ (Code.seq (Code.region 3 _ _) _) _ _ _));go_step)
 go_cut [4]from 8 (fun v4 wx=>∃(a0:Option Addr)(c0:Nat),v4=.slice a0 k0 c0∧Gr none w D wx D∧Box wx D w.heap.size 34 (axc ⟨op,.link x r y⟩ (.slice a1 n1 m1) (.slice a2 n2 m2) (.slice a3 n3 m3))∧w.heap.size+1≤wx.heap.size∧VT.Own wx D (w.heap.size+1) 9 1 (.slice a0 k0 c0) k0 ((preN op).map fun s=>.string (str s)))
 case first=>
  have hO0:VT.Own W D (w.heap.size+1) 9 1 (.slice none 0 0) 0 []:=⟨⟨by simp,.inl ⟨rfl,rfl⟩⟩,⟨fun g h=>by cases h⟩⟩
  cases op
  ·obtain rfl:k0=0:=HK0.out
   go_wp2_with fail
   go_meet
   case rel=>exact⟨none,0,rfl,hG,hB2,by omega,hO0⟩
  ·obtain rfl:k0=1:=HK0.out
   go_wp2_with fail
   go_meet
   case rel=>have hn:=own_note W D (str noteW) (w.heap.size+1) (by omega);rw[hsw]at hn;have hg5:=hn.2;have hz5:=hn.2.size;exact⟨_,_,rfl,(ii:Gr none w D _ D),@Box.call _ _ D w.heap.size 34 _ none hn.2 hB2 ii,by rw[←hsw];exact hz5,hn.1⟩
 case rest=>
  obtain⟨a0,c0,rfl,hG,hB,hsz,hO⟩:=hcut
  have:=hG.keeps
  have hc0:Cll none w wc:=⟨hG.bl⟩
  have hTr:TW wc:=ii
  have l0:=hB.lt
  have z0:=Box.cell (h:=hB) 0
  have H0:=hid (name83_c r (by omega))
  have H1:=hid (name83_c x (by omega))
  have H2:=hid (name83_c y (by omega))
  have hne:NeX w.heap.size (Value.slice a0 k0 c0).ownBlock:=own_ne hO (Nat.lt_succ_self _)
  have hsub:=VT.Own.sub hO none (a:=w) (Nat.le_succ _)
  have hofx:OffX D (Value.slice a0 k0 c0).ownBlock:=⟨fun g hg=>hO.off.out g hg⟩
  have SH:∀W':World,Box W' D w.heap.size 34 (axc ⟨op,.link x r y⟩ (.slice a1 n1 m1) (.slice a2 n2 m2) (.slice a3 n3 m3))→(W'.cell? ⟨w.heap.size,13,none⟩=some (.string (str r))∧W'.cell? ⟨w.heap.size,14,none⟩=some (.string (str x))∧W'.cell? ⟨w.heap.size,15,none⟩=some (.string (str y))):=fun W' hb=>⟨(hb.held (i:=13) rfl).1,(hb.held (i:=14) rfl).1,(hb.held (i:=15) rfl).1⟩
  have HSH:=hid SH
  clear SH
  have hq:=hid (aW_eq (x:=⟨op,.link x r y⟩) (xs:=preN op++[nameW r,nameW x,nameW y]) (args:=[nameW r,nameW x,nameW y]) rfl rfl (by simp) (by simp[join_cons,argsW]))
  have hOw:∀W',Keeps D W'→Cll none wc W'→VT.Own W' D (w.heap.size+1) 9 1 (.slice a0 k0 c0) k0 ((preN op).map fun s=>.string (str s)):=fun W' _ _=>ii
  have HOW:=hid hOw
  clear hOw
  go_wp2_with fail
  go_region_held3 (fun W'=>(W'.cell? ⟨w.heap.size,13,none⟩=some (.string (str r))∧W'.cell? ⟨w.heap.size,14,none⟩=some (.string (str x))∧W'.cell? ⟨w.heap.size,15,none⟩=some (.string (str y))))
   (first|(refine HSH.out _ ?_;exact ii;done)|go_keep)
   (first|(go_at_call 83;(first|(refine(H0.out _).mono ?_)|(refine(H1.out _).mono ?_)|(refine(H2.out _).mono ?_));rintro e w1 ⟨rfl,rfl⟩)|(refine step_append_N (v:=.slice a0 k0 c0) (D:=D) (news:=[nameW r,nameW x,nameW y].map fun s=>.string (str s)) (by rfl) (.tmp 116) (.tmp 126) 32 (by rfl) underlying32 el9 (by rfl) (h:=by exact ii) (hy:=by rfl) (hl:=rfl) (hc:=fun j u e=>by rw[Nat.zero_add];exact(Box.cell (h:=Box.newAt (D:=D) (by simp)) j).trans (by simpa using e)) (h1:=own_strs_one _) (h63:=by unfold maxLen;omega) (hbytes:=by omega) (hB:=by simp;omega) ?_;intro v5 w5 hO5 hc5;have hc5i:=hc5))
  have hg5:Gr none w D w5 D:=ii
  have:=hg5.keeps
  go_wp2_with fail
  refine(call84_S o_link (aW ⟨op,.link x r y⟩) (app_own hO5) (by omega) (by omega) hq.out HL.out).mono ?_
  rintro e w6 ⟨rfl,hc6⟩
  go_wp2_with fail
  go_ret
  exact⟨rfl,Bel.c⟩
end Go.Proofs.YticgonfhjcaohaaGreatDoor
