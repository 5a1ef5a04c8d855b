/- TopParsed, part 44. -/
import Derived.Test.YticgonfhjcaohaaGreatDoorP26
import Derived.Test.YticgonfhjcaohaaGreatDoorP42
set_option maxRecDepth 100000
set_option maxHeartbeats 32000000
namespace Go.Proofs.YticgonfhjcaohaaGreatDoor
open Go.RowKit Go.VT _root_.Go.Proofs.Tryz
attribute [local go_sem] Oper.semAt_some
def kdB(k:Int):Bool:=k==3||(k==6||(k==7||k==4))
structure Bks(B:Nat)(m:Int→Nat)(M:Nat):Prop where
 inj:∀j k,kdB j=true→kdB k=true→m j=m k→j=k
 ge:∀k,kdB k=true→B≤m k∧m k<M
abbrev mapV(m:Int→Nat):List (Int×Value):=[(3,.map (some (m 3))),(6,.map (some (m 6))),(7,.map (some (m 7))),(4,.map (some (m 4)))]
theorem mapV_look(m:Int→Nat){k:Int}(h:kdB k=true):lookI (mapV m) k=some (.map (some (m k))):=by
 simp only[kdB,Bool.or_eq_true,beq_iff_eq]at h
 rcases h with rfl|rfl|rfl|rfl<;>simp[lookI]
theorem mapV_none(m:Int→Nat){k:Int}(h:kdB k=false):lookI (mapV m) k=none:=by
 simp only[kdB,Bool.or_eq_false_iff,beq_eq_false_iff_ne]at h
 obtain⟨h1,h2,h3,h4⟩:=h
 simp[lookI,Ne.symm h1,Ne.symm h2,Ne.symm h3,Ne.symm h4]
theorem run_lookup_int2{P:Program}{t k e:TypeId}(ht:P.underlying t=some (.map k e))(hk:P.underlying k=some (.int .i64)){z:Value}(hz:∀w,(zeroValue e).run P w=.ok z w)
  {w:World} {m:Nat} {l:List (Int×Value)} (hm:MI w m l) (s:Int):
  (Instr.lookup t (.map (some m)) (.int .i64 s) true).run P w=.ok (match lookI l s with|some v=>.tuple #[v,.bool true]|none=>.tuple #[z,.bool false]) w:=by
 obtain⟨es,c,hm,hes⟩:=hm.out
 obtain⟨j,hj⟩:=findNow_int l s es.toList 0 hes
 have hck:∀e,(Instr.checkKey e 10000 k (.int .i64 s)).run P w=.ok () w:=fun e=>MapKept.run_checkKey hk (by simp[MapKept.IsKey]) e 9999
 cases hl:lookI l s with
 |none=>
  rw[hl]at hj
  simp[Instr.lookup,run_underlying ht,MapKept.run_getObj_map hm,hck,MapKept.run_findKey hk hj,Result.andThen,hz]
 |some v=>
  rw[hl]at hj
  simp[Instr.lookup,run_underlying ht,MapKept.run_getObj_map hm,hck,MapKept.run_findKey hk hj,Result.andThen]
structure VI(w0:World)(D0 D:Gh)(B b0 bO M:Nat)(m:Int→Nat)(n:Nat)(S:Int→List Bs)(W:World):Prop where
 g:Gr none w0 D0 W D
 b:Box W D b0 78 #[.slice none 0 0,.slice none 0 0,.slice none 0 0,.slice none 0 0]
 o:Box W D bO 122 #[.map (some M)]
 mp:MI W M (mapV m)
 bk:Bks B m M
 le:w0.heap.size≤b0∧b0<B∧M<bO
 s:∀k,kdB k=true→MS W (m k) n (S k)
 off:∀k,kdB k=true→Off D (m k)
section
variable{w0 W W':World}{D0 D D':Gh}{B b0 bO M n:Nat}{m:Int→Nat}{S:Int→List Bs}
theorem MS.le{b n n':Nat}{S:List Bs}(h:MS W b n S)(hn:n≤n'):MS W b n' S:=by
 obtain⟨D,h1,h2⟩:=h.out
 exact⟨D,h1.mono hn,h2⟩
theorem VI.gro(h:VI w0 D0 D B b0 bO M m n S W)(hc:Gro none W D W' D'):VI w0 D0 D' B b0 bO M m n S W':=by
 have:=h.g
 have:=h.b
 have:=h.o
 have:=h.mp
 have:=hc
 exact⟨ii,ii,ii,MI.call (w:=W) none,h.bk,h.le,fun k hk=>(h.s k hk).cll (X:=none) ⟨hc.bl⟩ (by simp),fun k hk=>⟨fun o=>(hc.old _ (h.s k hk).lt o).trans ((h.off k hk).out o)⟩⟩
theorem VI.cll(h:VI w0 D0 D B b0 bO M m n S W)(hc:Cll none W W'):VI w0 D0 D B b0 bO M m n S W':=
 h.gro (have:=h.g.keeps;⟨hc.out,Keeps.call none D W W',⟨fun _ _ _ h=>h⟩,fun _ _ _=>rfl⟩)
theorem VI.put(h:VI w0 D0 D B b0 bO M m n S W){l:Nat}{o:Obj}(o':Obj)(hl:bO<l)(ho:W.heap[l]? =some o)(hc:o.isCells=false):VI w0 D0 D B b0 bO M m n S (W.putObj l o'):=by
 obtain⟨l1,l2,l3⟩:=h.le
 have hM:=h.mp
 have hk:=h.g.keeps
 refine⟨⟨h.g.bl.put (by have:=(h.bk.ge 3 rfl);omega) o',hk.put o' ho hc,h.g.le,h.g.old⟩,h.b.put o' ho hc,h.o.put o' ho hc,hM.of (World.putObj_heap_other (by omega)),h.bk,h.le,fun k hk=>(h.s k hk).put_ o' (by have:=h.bk.ge k hk;omega),h.off⟩
theorem VI.step(h:VI w0 D0 D B b0 bO M m n S W){n':Nat}{S':Int→List Bs}(hn:n≤n')(hS:∀k,kdB k=true→∀s,s∈S k↔s∈S' k):VI w0 D0 D B b0 bO M m n' S' W:=
 ⟨h.g,h.b,h.o,h.mp,h.bk,h.le,fun k hk=>((h.s k hk).perm (hS k hk)).le hn,h.off⟩
theorem VI.turn(h:VI w0 D0 D B b0 bO M m n S W){k:Int}(hk:kdB k=true)(hc:Cll (some (m k)) W W'){n':Nat}{S':Int→List Bs}(hn:n≤n')(hS:MS W' (m k) n' (S' k))(hS':∀j,j≠k→S' j=S j):VI w0 D0 D B b0 bO M m n' S' W':=by
 obtain⟨l1,l2,l3⟩:=h.le
 have hge:=h.bk.ge k hk
 have:=h.g
 have:=h.b
 have:=h.o
 have:=h.mp
 have:=h.g.keeps
 have:New w0 (m k):=⟨by omega⟩
 have:=h.off k hk
 have n1:NeX b0 (some (m k)):=neGt (by omega)
 have n2:NeX bO (some (m k)):=neLt (by omega)
 have n3:NeX M (some (m k)):=neLt (by omega)
 refine⟨ii,ii,ii,MI.call (w:=W) (some (m k)),h.bk,h.le,fun j hj=>?_,h.off⟩
 by_cases e:j=k
 ·subst e;exact hS
 ·rw[hS' j e];exact((h.s j hj).cll hc (fun q=>e (h.bk.inj j k hj hk (Option.some.inj q)))).le hn
theorem VI.upd(h:VI w0 D0 D B b0 bO M m n S W){k:Int}(hk:kdB k=true)(s:Bs)(hs:s.length≤maxLen)(hn:n<maxLen):
  ∃W',(Instr.mapUpdate 89 (.map (some (m k))) (.string (str s)) (.bool true)).run prog W=.ok () W'∧VI w0 D0 D B b0 bO M m (n+1) (fun j=>if j=k then S j++[s]else S j) W'∧Cll (some (m k)) W W':=by
 obtain⟨W',hr,h1,hc⟩:=(h.s k hk).upd s hs hn
 exact⟨W',hr,h.turn hk hc (Nat.le_succ n) (by rw[if_pos rfl];exact h1) (fun j hj=>if_neg hj),hc⟩
theorem VI.del(h:VI w0 D0 D B b0 bO M m n S W){k:Int}(hk:kdB k=true)(s:Bs)(hs:s.length≤maxLen)(ty:TypeId):
  ∃W',(Builtin.delete_ #[89,9] ty #[.map (some (m k)),.string (str s)]).run prog W=.ok (.tuple #[]) W'∧VI w0 D0 D B b0 bO M m n (fun j=>if j=k then(S j).filter (· != s)else S j) W'∧Cll (some (m k)) W W':=by
 obtain⟨W',hr,h1,hc⟩:=(h.s k hk).del s hs ty
 exact⟨W',hr,h.turn hk hc (Nat.le_refl n) (by rw[if_pos rfl];exact h1) (fun j hj=>if_neg hj),hc⟩
end
abbrev cvO(o:Option C)(p:Value):Value:=.agg #[.int .i64 (oK o),.string (str (oN o)),.int .i64 (oLo o),.int .i64 (oHi o),p]
def RdO(D:Gh)(o:Option C)(v:Value):Prop:=∃a n m,v=cvO o (.slice a n m)∧PV D (oP o) (.slice a n m)
def kindsB(o:Option C):Bool:=kdB (oK o)
theorem nmO_on{o:Option C}(h:kindsB o=true)(k:Int):nmO k o=if k=oK o then[oN o]else[]:=by
 cases o with
 |none=>exact absurd h (by decide)
 |some c=>
  show(if c.kind=k then[c.nm]else[])=if k=c.kind then[c.nm]else[]
  by_cases e:c.kind=k
  ·rw[if_pos e,if_pos e.symm]
  ·rw[if_neg e,if_neg (Ne.symm e)]
theorem nmO_off{o:Option C}(h:kindsB o=false){k:Int}(hk:kdB k=true):nmO k o=[]:=by
 cases o with
 |none=>rfl
 |some c=>
  rw[nmO,if_neg]
  intro e
  rw[kindsB,show oK (some c)=k from e,hk]at h
  cases h
def axV(k:Int)(q:K):List Bs:=(nodesK q).flatMap (nmO k)++((if k=6 then q.roles++[q.role]else[])++(if k=4 then[q.a,q.b]else[]))
theorem walk0_s(D0:Gh)(b:Nat)(hc:∀(j:Nat) u,#[Value.int .i64 0,.string (str []),.int .i64 0,.int .i64 0,.slice none 0 0][j]? =some u→D0 b j=some u):SeqV prog 137 [.pointer (some ⟨b,0,none⟩)].toArray (RdO D0) [none] D0:=by
 intro l J Jx W D hD hJk hJg hJx hY hJ
 have:=hJk _ _ _ hJ
 obtain⟨D1,hg1,hc1⟩:=new_pub (w:=W) (D:=D) 31 #[.int .i64 0,.string (str []),.int .i64 0,.int .i64 0,.slice none 0 0]
 have hJ1:=hJg _ _ _ _ _ hJ hg1
 have hc4:D1 W.heap.size 4=some (.slice none 0 0):=hc1 4 _ rfl
 have hyy:=hY [] none D1 _ (.agg #[.int .i64 0,.string (str []),.int .i64 0,.int .i64 0,.slice none 0 0]) hJ1 (by simp) ⟨none,0,0,rfl,PV.nil⟩
 have hv:Calls prog 138 #[.agg #[.int .i64 0,.string (str []),.int .i64 0,.int .i64 0,.slice none 0 0],.func (.yield l) #[] #[]] W fun e W'=>(e=.returned (.bool true)∧∃D',Le D D'∧J [none] D' W')∨(e=.returned (.bool false)∧∃D',Le D D'∧Jx [none] D' W'):=by
  have HD:=hid hg1.le
  have HJK:=hid hJk
  clear hJ hc1 hg1 hJk hJg hJx hY hD hc
  go_enter func138,ntmps138
  repeat((fail_if_success (with_reducible show Code.wp _ (Code.region 1 _ _) _ _ _));go_step)
  obtain⟨fn,tmps,asg,body,hy,hR⟩:=hyy
  have HR:=hid hR
  clear hR hJ1
  refine(wpIn_wide (n:=1)).1 ?_
  gi_wp2
  refine HR.out.mono ?_
  clear HR hy
  rintro e W4(⟨rfl,D4,hd4,hJ4⟩|⟨rfl,D4,hd4,hJx4⟩)
  ·gi_wp2
   have:=HJK.out _ _ _ hJ4
   have c4:=Keeps.out (D:=D4) (w:=W4) _ _ _ (hd4.out _ _ _ hc4)
   go_wp2_with fail
   go_loopg [14] (0:Nat) (fun gk v wr=>v=.int .i64 0∧gk=0∧W4=wr)
   case atStart=>exact⟨rfl,rfl,rfl⟩
   case round=>
    obtain⟨rfl,hgk,rfl⟩:=hrel
    go_wp2_with fail
    go_ret
    exact .inl ⟨rfl,D4,le_trans HD.out hd4,hJ4⟩
  ·gi_wp2
   go_wp2
   go_ret
   exact .inr ⟨rfl,D4,le_trans HD.out hd4,hJx4⟩
 have:=keeps_le hD (w:=W)
 have r0:=Keeps.out (D:=D0) (w:=W) _ _ _ (hc 0 _ rfl)
 have r1:=Keeps.out (D:=D0) (w:=W) _ _ _ (hc 1 _ rfl)
 have r2:=Keeps.out (D:=D0) (w:=W) _ _ _ (hc 2 _ rfl)
 have r3:=Keeps.out (D:=D0) (w:=W) _ _ _ (hc 3 _ rfl)
 have r4:=Keeps.out (D:=D0) (w:=W) _ _ _ (hc 4 _ rfl)
 have r5:=Keeps.lt (D:=D0) (w:=W) (hc 0 _ rfl)
 clear hY hJk hJg hJx hc hyy hJ1
 show Calls prog 137 #[.func (.yield l) #[] #[],.pointer (some ⟨b,0,none⟩)] W _
 go_enter func137,ntmps137
 go_wp2_with fail
 refine hv.mono ?_
 clear hv
 rintro e W6(⟨rfl,D6,hd6,hJ6⟩|⟨rfl,D6,hd6,hJ6⟩)
 ·go_wp2
  go_end0
  exact⟨⟨_,rfl⟩,.inl ⟨D6,hd6,hJ6⟩⟩
 ·go_wp2
  go_end0
  exact⟨⟨_,rfl⟩,.inr ⟨[none],D6,hd6,by simp,hJ6⟩⟩
theorem walkO_c(w:World)(D:Gh)(o:Option C)(a:Option Addr)(n m:Nat)(hp:PV D (oP o) (.slice a n m))[hk:Keeps D w]:
  Calls prog 74 #[cvO o (.slice a n m)] w fun e w'=>∃b D',e=.returned (.func (.func 137) #[] #[.pointer (some ⟨b,0,none⟩)])∧Gro none w D w' D'∧SeqV prog 137 #[.pointer (some ⟨b,0,none⟩)] (RdO D') (preO o) D':=by
 cases o with
 |some c=>
  refine(walk_c w D c a n m).mono ?_
  rintro e w' ⟨b,D',rfl,hg,hcr⟩
  have:=hg.le
  have:PV D c.parts (.slice a n m):=hp
  exact⟨b,D',rfl,hg,SeqV.map some (RdO D') (walk_seq D' c b a n m hcr ii) (fun x v hx=>hx)⟩
 |none=>
  obtain⟨D1,hg1,hc1⟩:=new_pub (w:=w) (D:=D) 31 #[.int .i64 0,.string (str []),.int .i64 0,.int .i64 0,.slice a n m]
  have hnil:Value.slice a n m=.slice none 0 0:=by cases hp with|nil=>rfl|rows h0=>exact absurd rfl h0
  cases hnil
  have hs:=walk0_s D1 w.heap.size hc1
  clear hc1
  go_enter func74,ntmps74
  go_wp2
  go_ret
  exact⟨w.heap.size,D1,rfl,hg1,hs⟩
end Go.Proofs.YticgonfhjcaohaaGreatDoor
namespace Go.Proofs.YticgonfhjcaohaaGreatDoor
open Go.RowKit Go.VT _root_.Go.Proofs.Tryz
theorem wordsV_snoc(l:List Bs)(s:Bs):wordsV (l++[s])=wordsV l++(if hasC s then[(cutC s).1]else[]):=by
 unfold wordsV
 rw[List.filter_append,List.map_append]
 cases h:hasC s<;>simp[h]
theorem compact_len(xs:List Bs):(Lib.compact xs).length≤xs.length:=by
 unfold Lib.compact Lib.compactUpTo
 rw[List.length_map]
 refine Nat.le_trans (List.length_filter_le _ _) ?_
 simp
theorem wordsV_len(l:List Bs):(wordsV l).length≤l.length:=by
 unfold wordsV
 rw[List.length_map]
 exact List.length_filter_le _ _
theorem foreign_c(w:World)(D:Gh)[hk:Keeps D w](cs rs fs is:List Bs)(v1 v2 v3 v4:Value)(h1:SV D cs v1)(h2:SV D rs v2)(h3:SV D fs v3)(h4:SV D is v4)(hN:(cs++(rs++(fs++is))).length≤1099511627776)(hs:∀s∈cs++(rs++(fs++is)),s.length≤1099511627776):
  Calls prog 28 #[.agg #[v1,v2,v3,v4]] w fun e w'=>∃(v:Value)(ws:List Bs)(D':Gh),e=.returned v∧SV D' ws v∧Gro none w D w' D'∧ws.Nodup∧(∀s,s∈ws↔s∈wordsV (cs++(rs++(fs++is))))∧ws.length≤(cs++(rs++(fs++is))).length:=by
 obtain⟨a1,m1,rfl,_⟩:=SlN.form h1
 obtain⟨a2,m2,rfl,_⟩:=SlN.form h2
 obtain⟨a3,m3,rfl,_⟩:=SlN.form h3
 obtain⟨a4,m4,rfl,_⟩:=SlN.form h4
 obtain⟨all,hall⟩:∃a,a=cs++(rs++(fs++is)):=⟨_,rfl⟩
 rw[←hall]at hN hs⊢
 obtain⟨W,hW⟩:∃W,W=w.alloc (.cells #[.slice a1 cs.length m1,.slice a2 rs.length m2,.slice a3 fs.length m3,.slice a4 is.length m4] 78):=⟨_,rfl⟩
 have hB0:Box W D w.heap.size 78 #[.slice a1 cs.length m1,.slice a2 rs.length m2,.slice a3 fs.length m3,.slice a4 is.length m4]:=by rw[hW];exact ii
 have hG0:Gr none w D W D:=by rw[hW];exact ii
 have hcat:Hid (∀W':World,Gr none w D W' D→Calls prog 77 #[.slice (some ⟨W'.heap.size,0,none⟩) 4 4] (W'.alloc (.cells #[.slice a1 cs.length m1,.slice a2 rs.length m2,.slice a3 fs.length m3,.slice a4 is.length m4] 32)) fun e w'=>∃v,e=.returned v∧VT.Own w' D (W'.heap.size+1) 9 1 v all.length (all.map fun s=>.string (str s))∧Cll none W' w'):=hid fun W' hG=>by
  have:=hG.keeps
  have hb:Box (W'.alloc (.cells #[.slice a1 cs.length m1,.slice a2 rs.length m2,.slice a3 fs.length m3,.slice a4 is.length m4] 32)) D W'.heap.size 32 _:=Box.new W' D 32 _
  have hfm:([(cs,Value.slice a1 cs.length m1),(rs,.slice a2 rs.length m2),(fs,.slice a3 fs.length m3),(is,.slice a4 is.length m4)]:List (List Bs×Value)).flatMap (·.1)=all:=by rw[hall];simp
  have:=concat_c (W'.alloc (.cells #[.slice a1 cs.length m1,.slice a2 rs.length m2,.slice a3 fs.length m3,.slice a4 is.length m4] 32)) D [(cs,.slice a1 cs.length m1),(rs,.slice a2 rs.length m2),(fs,.slice a3 fs.length m3),(is,.slice a4 is.length m4)] W'.heap.size 0 4
   (fun j x e=>by
    rw[Nat.zero_add,Box.cell (h:=hb)]
    match j with
    |0=>obtain rfl:=Option.some.inj e;rfl
    |1=>obtain rfl:=Option.some.inj e;rfl
    |2=>obtain rfl:=Option.some.inj e;rfl
    |3=>obtain rfl:=Option.some.inj e;rfl
    |j+4=>cases e) (by simp) (Nat.le_refl _)
   (fun x hx=>by
    simp only[List.mem_cons,List.not_mem_nil,or_false]at hx
    rcases hx with rfl|rfl|rfl|rfl<;>assumption) (by rw[hfm];exact hN) (by simp)
  rw[hfm]at this
  refine this.mono ?_
  rintro e w' ⟨v,rfl,hO,hc⟩
  have hz:(W'.alloc (.cells #[.slice a1 cs.length m1,.slice a2 rs.length m2,.slice a3 fs.length m3,.slice a4 is.length m4] 32)).heap.size=W'.heap.size+1:=by simp
  rw[hz]at hO
  have h0:Cll none W' (W'.alloc (.cells #[.slice a1 cs.length m1,.slice a2 rs.length m2,.slice a3 fs.length m3,.slice a4 is.length m4] 32)):=Bel.c
  exact⟨v,rfl,hO,⟨h0.out.trans hc.out⟩⟩
 have b0:=Box.cell (h:=hB0) 0
 have b1:=Box.cell (h:=hB0) 1
 have b2:=Box.cell (h:=hB0) 2
 have b3:=Box.cell (h:=hB0) 3
 have hsz:W.heap.size=w.heap.size+1:=by rw[hW];simp
 have HSZ:=hid hsz
 have HW:=hid hW
 have HALL:=hid hall
 have HS:=hid hs
 obtain⟨N,hNN⟩:∃n,n=all.length:=⟨_,rfl⟩
 rw[←hNN]at hN hcat
 have HNN:=hid hNN
 clear hall hW hs h1 h2 h3 h4 hNN hsz
 go_enter func28,ntmps28
 repeat((fail_if_success (with_reducible show Code.wp _ (Code.region 1 _ _) _ _ _));go_step)
 rw[←HW.out]
 go_wp2_with fail
 refine(hcat.out W hG0).mono ?_
 rintro e W2 ⟨vall,rfl,hO,hc2⟩
 have:=hG0.keeps
 have:Keeps D W2:=Keeps.call none D W W2
 obtain⟨D2,hP,hSA⟩:=SV.of_own hO
 have hgr2:Gr none w D W2 D:=⟨hG0.bl.trans hc2.out,Keeps.call none D W W2,fun _ _ _ h=>h,fun _ _ _=>rfl⟩
 have hG2:Gr none w D W2 D2:=hP.gr none w D hgr2 (fun k hk=>by have:=(VT.Own.lt hO k hk).1;have:=HSZ.out;omega)
 obtain⟨aa,ma,rfl,hm1,hm2⟩:=SlN.form hSA
 obtain⟨B,hB⟩:∃B,B=W2.heap.size:=⟨_,rfl⟩
 have hO0:VT.Own W2 D2 B 9 1 (.slice none 0 0) 0 []:=by have:=hG2.keeps;rw[hB];exact VT.Own.nil _ _ _ _
 have hBz:B≤W2.heap.size:=by omega
 have hwB:w.heap.size≤B:=by have:=hG2.bl.size;omega
 obtain⟨wv,hwv⟩:∃wv:Nat→List Bs,∀i,wv i=wordsV (all.take i):=⟨_,fun _=>rfl⟩
 have HWV:=hid hwv
 have HSA:=hid hSA
 have HGG:=hid hgr2
 rw[←HNN.out]at hm1⊢
 clear hO hc2 hP hG0 hB0 b0 b1 b2 b3 hcat hwv hSA hB hgr2
 go_wp2_with fail
 go_loopg [2,19] N (fun gk v2 v19 wr=>∃i:Nat,v19=.int .i64 i∧gk+i=N∧Gr none w D wr D2∧VT.Own wr D2 B 9 1 v2 (wv i).length ((wv i).map fun s=>.string (str s))∧B≤wr.heap.size)
 case atStart=>exact⟨0,rfl,rfl,hG2,by rw[HWV.out];exact hO0,hBz⟩
 case round=>
  obtain⟨i,rfl,hgk,hG,hO,hz⟩:=hrel
  have:=hG
  have:=hG.keeps
  by_cases hi:i<N
  ·obtain⟨s,b,o,hj,rfl,r0,r1⟩:=SV_elem (w:=wr) HSA.out (i:=i) (by rw[←HNN.out];exact hi)
   have hwv1:wv (i+1)=wv i++(if hasC s then[(cutC s).1]else[]):=by rw[HWV.out,HWV.out,List.take_add_one,hj];exact wordsV_snoc _ _
   have hwl:(wv i).length≤N:=by
    rw[HWV.out,HNN.out];exact Nat.le_trans (wordsV_len _) (by simp;omega)
   have HCUT:=hid (cut_c s (HS.out s (List.mem_of_getElem? hj)))
   have HV1:=hid hwv1
   have hi':(i:Int)<(N:Int):=by omega
   obtain⟨k0,hk0⟩:∃k,k=(wv i).length:=⟨_,rfl⟩
   rw[←hk0]at hO hwl
   have HK0:=hid hk0
   clear hj hwv1 hk0
   cases hc:hasC s
   ·rw[hc]at HCUT HV1
    clear hc
    go_wp2_with fail
    refine(HCUT.out _).mono ?_
    rintro e w3 ⟨rfl,q,rfl⟩
    go_wp2_with fail
    go_roundg (gk-1)
    case measure=>omega
    case rel=>exact⟨i+1,by simp,by omega,ii,by rw[HV1.out,if_neg (by simp),List.append_nil,←HK0.out];exact ii,hz⟩
   ·rw[hc]at HCUT HV1
    clear hc
    go_wp2_with fail
    refine(HCUT.out _).mono ?_
    rintro e w3 ⟨rfl,q,rfl⟩
    have hOx:∀o,VT.Own ((wr.drewN q).alloc o) D2 B 9 1 u2 k0 ((wv i).map fun s=>.string (str s)):=fun o=>ii
    have hBx:∀s,Box ((wr.drewN q).alloc (.cells #[.string s] 9)) D2 (wr.drewN q).heap.size 9 #[.string s]:=fun _=>ii
    go_wp2_with (at_builtin;refine wp_append_1 (v:=u2) rfl (.tmp 30) (.tmp 32) 32 rfl underlying32 el9 rfl (hOx _) rfl (hBx _) rfl (own_strs_one [(cutC s).1]) (by simp[maxLen];omega) (by omega) (by simp;omega) ?_;intro v5 w5 hO5 hc5)
    have hc5i:=hc5
    have hsub:=VT.Own.sub (hOx (.cells #[.string (str (cutC s).1)] 9)) none (a:=w) hwB
    have hofx:OffX D2 u2.ownBlock:=⟨fun g hg=>(hOx (.cells #[.string (str (cutC s).1)] 9)).off.out g hg⟩
    have hG5:Gr none w D w5 D2:=ii
    have hz5:=hc5.out.size
    go_wp2_with fail
    go_roundg (gk-1)
    case measure=>omega
    case rel=>exact⟨i+1,by simp,by omega,hG5,by rw[HV1.out];simp only[if_true];rw[List.length_append,List.map_append,←HK0.out];exact hO5,by simp at hz5;omega⟩
  ·obtain rfl:i=N:=by omega
   have hi':¬(i:Int)<(i:Int):=by omega
   have hwl:(wv i).length≤i:=by
    rw[HWV.out];refine Nat.le_trans (wordsV_len _) ?_;simp;omega
   have hfin:wv i=wordsV all:=by rw[HWV.out,HNN.out,List.take_length]
   rw[hfin]at hO hwl
   have HWL:=hid hwl
   clear hfin hwl
   go_wp2_with fail
   refine(sortS_c wr D2 B _ u2 (wordsV all) hO (by have:=HWL.out;omega)).mono ?_
   rintro e w3 ⟨rfl,hO3,hc3⟩
   go_wp2_with fail
   refine(compactS_c w3 D2 B _ u2 _ hO3 (by have:=HWL.out;omega)).mono ?_
   rintro e w4 ⟨v4,rfl,hO4,hc4⟩
   have hofx:OffX D2 u2.ownBlock:=⟨fun g hg=>hO.off.out g hg⟩
   have hsub:=VT.Own.sub hO none (a:=w) hwB
   have:=hc3
   have hG3:Gr none w D w3 D2:=ii
   have:=hc4
   have hG4:Gr none w D w4 D2:=ii
   have:=hG4.keeps
   obtain⟨D',hP,hS'⟩:=SV.of_own hO4
   have hG5:Gr none w D w4 D':=hP.gr none w D hG4 (fun k hk=>by have:=(VT.Own.lt hO4 k hk).1;omega)
   obtain⟨q1,q2⟩:=compact_sorted _ (sort_sorted (wordsV all))
   have hfm:∀s,s∈Lib.compact ((wordsV all).mergeSort fun x y=>decide (x≤y))↔s∈wordsV all:=fun s=>(q2 s).trans (List.mergeSort_perm (wordsV all) _).mem_iff
   have hcl:(Lib.compact ((wordsV all).mergeSort fun x y=>decide (x≤y))).length≤i:=by
    refine Nat.le_trans (compact_len _) ?_
    rw[List.length_mergeSort];exact HWL.out
   clear hO hO3 hO4 hc3 hc4 hP q2
   go_wp2_with fail
   go_ret
   exact⟨_,_,D',rfl,hS',(have:=hG5;Gr.g),q1,hfm,by rw[←HNN.out];exact hcl⟩
end Go.Proofs.YticgonfhjcaohaaGreatDoor
