/- TopParsed, part 5. -/
import Derived.Deep.CutBlock
import Derived.Test.YticgonfhjcaohaaGreatDoorP03
import Derived.Test.YticgonfhjcaohaaGreatDoorP04
set_option maxRecDepth 100000
set_option maxHeartbeats 32000000
namespace Go.Proofs.YticgonfhjcaohaaGreatDoor
open Go.RowKit Go.VT _root_.Go.Proofs.Tryz
theorem fld54_0(a b c:Value)(w:World):Sem.run prog (Instr.field 54 (.agg #[a,b,c]) 0) w=.ok a w:=by kernel_rfl
theorem atName_eq(p:PC){n:Nat}{t:Tk}(h:p.toks[n]? =some t):atName (p.ts n)=(decide (t.kind=1)&& !keyword t.text):=by
 rw[p.ts_cons h];simp only[atName];congr 1
theorem atName_c(w:World)(D:Gh)(p:PC)(n:Nat)[Keeps D w][hP:PS w D p n][hT:TS D p]:
  Calls prog 114 #[p.ptr] w fun e w'=>e=.returned (.bool (atName (p.ts n)))∧Cll none w w':=by
 go_enter func114,ntmps114
 go_wp2_with fail
 refine(token_c w D p n).mono ?_
 rintro e w1 ⟨⟨t,ht,rfl⟩,hc⟩
 have HH:=hid (atName_eq p ht)
 clear ht
 cases hk:decide (t.kind=1)
 ·have hk2:(t.kind==1)=false:=by simpa using hk
  go_wp2
  go_ret
  exact⟨by rw[HH.out,hk];rfl,Bel.c⟩
 ·have hk2:(t.kind==1)=true:=by simpa using hk
  go_wp2_with (go_at_call 161;refine(keyword_c _ _).mono ?_;rintro e w' ⟨rfl,rfl⟩)
  go_ret
  exact⟨by rw[HH.out,hk];rfl,Bel.c⟩
theorem pName_some{p:PC}{n:Nat}{s:Bs}{r:List Tk}(h:pName (p.ts n)=some (s,r)):∃t,p.toks[n]? =some t∧t.text=s∧atName (p.ts n)=true∧(∃c q,s=c::q∧¬c=95)∧plainB s=true∧r=p.ts (n+1):=by
 rcases Nat.lt_or_ge n p.toks.length with hl|hl
 ·have ht:=List.getElem?_eq_getElem hl
  refine⟨_,ht,?_⟩
  rw[p.ts_cons ht]at h⊢
  simp only[pName]at h
  split at h
  ·rename_i hc
   simp only[Bool.and_eq_true,Bool.not_eq_true',beq_eq_false_iff_ne,ne_eq]at hc
   obtain⟨⟨h1,h2⟩,h3⟩:=hc
   injection h with h
   obtain⟨rfl,rfl⟩:=Prod.mk.inj h
   refine⟨rfl,h1,?_,h3,rfl⟩
   rcases he:p.toks[n].text with _|⟨c,q⟩
   ·rw[he]at h3;exact absurd h3 (by decide)
   ·exact⟨c,q,rfl,fun e=>h2 (by rw[he,e];rfl)⟩
  ·cases h
 ·rw[PC.ts,List.drop_eq_nil_of_le hl]at h;cases h
theorem pName_plain{ts:List Tk}{s:Bs}{r:List Tk}(h:pName ts=some (s,r)):plainB s=true:=by
 rcases ts with _|⟨t,q⟩
 ·cases h
 ·simp only[pName]at h
  split at h
  ·rename_i hc
   simp only[Bool.and_eq_true]at hc
   cases h;exact hc.2
  ·cases h
theorem last_lt{D:Gh}{p:PC}[hT:TS D p]{n:Nat}{t:Tk}(h:p.toks[n]? =some t)(h1:t.kind≠4):n+1<p.toks.length:=by
 obtain⟨hl,_⟩:=List.getElem?_eq_some_iff.1 h
 have:=(hT.last n t h).2
 rcases Nat.lt_or_ge (n+1) p.toks.length with h|h
 ·exact h
 ·exact absurd (this.2 (by omega)) h1
theorem tok_text(t t':Tk)(p:PC)(n:Nat)(h:p.toks[n]? =some t)(h':p.toks[n]? =some t'):t=t':=by rw[h]at h';exact Option.some.inj h'
theorem name_ok(w:World)(D:Gh)(p:PC)(n:Nat)(s:Bs)(r:List Tk)(h:pName (p.ts n)=some (s,r))[Keeps D w][hP:PS w D p n][hT:TS D p]:
  Calls prog 112 #[p.ptr] w fun e w'=>e=.returned (.string (str s))∧Cll (some p.g) w w'∧PS w' D p (n+1):=by
 obtain⟨t,ht,htx,hat,⟨c,q,hcq,hc⟩,hpl,rfl⟩:=pName_some h
 clear h
 have hk:t.kind≠4:=by
  have:=atName_eq p ht
  rw[hat]at this
  intro e;rw[e]at this;simp at this
 have hl:=last_lt (D:=D) ht hk
 have hlen:=hT.len t (List.mem_of_getElem? ht)
 have hl3:=hT.lim.2.2
 have HTX:=hid htx
 rw[htx,hcq]at hlen
 have hg:=str_get0 c q
 have hS:=str_size s
 have hpos:0<s.length:=by rw[hcq];simp
 have h1:((c.toNat:Int)==95)=false:=beq_eq_false_iff_ne.2 (fun e=>hc (UInt8.toNat_inj.1 (by simp;omega)))
 rw[←hcq]at hg hlen
 clear hcq htx hk
 have HT':=hid ht
 clear ht
 go_enter func112,ntmps112
 go_wp2_with fail
 refine(atName_c w D p n).mono ?_
 rintro e w1 ⟨rfl,hc1⟩
 go_wp2_with fail
 refine(token_c w1 D p n).mono ?_
 rintro e w2 ⟨⟨t',ht',rfl⟩,hc2⟩
 obtain rfl:=tok_text _ _ p n ht' HT'.out
 clear ht'
 rw[HTX.out]
 have f1:=fld54_1
 go_wp2_with fail
 refine(checkName_ok s w2 (by omega) hpl).mono ?_
 rintro e w3 ⟨rfl,hc3⟩
 have hP3:PS w3 D p n:=ii
 have c1:=@Box.held _ _ _ _ _ hP3.box 1 (.int .i64 n) rfl
 have b1:=Box.lt (h:=hP3.box)
 clear hg
 go_wp2
 go_ret
 exact⟨rfl,Bel.c,hP3.next hl⟩
theorem name_bad(w:World)(D:Gh)(p:PC)(n:Nat)(h:pName (p.ts n)=none)[Keeps D w][hP:PS w D p n][hT:TS D p]:
  Calls prog 112 #[p.ptr] w fun e w'=>Fault e∧Cll none w w':=by
 obtain⟨t,ht⟩:∃t,p.toks[n]? =some t:=⟨_,List.getElem?_eq_getElem hP.lt⟩
 have hlen:=hT.len t (List.mem_of_getElem? ht)
 have hw:=hT.word t (List.mem_of_getElem? ht)
 have hn:=atName_eq p ht
 rw[p.ts_cons ht]at h
 have h':atName (p.ts n)=true→t.text.head?=some 95∨plainB t.text=false:=by
  rw[p.ts_cons ht]
  intro ha
  simp only[pName,ha,Bool.true_and]at h
  split at h
  ·cases h
  ·rename_i hc
   simp only[Bool.and_eq_true,Bool.not_eq_true',beq_eq_false_iff_ne,ne_eq,not_and,Bool.not_eq_true]at hc
   by_cases h95:t.text.head?=some 95
   ·exact .inl h95
   ·exact .inr (hc h95)
 clear h
 go_enter func112,ntmps112
 have HT':=hid ht
 have HN:=hid hn
 have H':=hid h'
 have HW:=hid hw
 clear ht hn h' hw
 go_wp2_with fail
 refine(atName_c w D p n).mono ?_
 rintro e w1 ⟨rfl,hc1⟩
 cases ha:atName (p.ts n)
 ·go_wp2_with fail
  refine(fail_c w1 D p n 30).mono ?_
  rintro e w2 ⟨⟨a,c,rfl⟩,hc2⟩
  go_wp2
  exact⟨rfl,⟨_,_,rfl⟩,Bel.c⟩
 ·have hk:t.kind=1:=by have:=HN.out;rw[ha]at this;simp at this;exact this.1
  go_wp2_with fail
  refine(token_c w1 D p n).mono ?_
  rintro e w2 ⟨⟨t',ht',rfl⟩,hc2⟩
  obtain rfl:=tok_text _ _ p n ht' HT'.out
  clear ht'
  have f1:=fld54_1
  have h2:=H'.out ha
  have hne:=HW.out hk
  clear HN HW HT' H' hk ha
  rcases htx:t'.text with _|⟨c,q⟩
  ·exact absurd htx hne
  ·rw[htx]at hlen h2
   have hg:=str_get0 c q
   have hS:=str_size (c::q)
   have hpos:0<(c::q).length:=by simp
   have hcn:=checkName_no c q
   clear htx hne
   by_cases h95:c=95
   ·have h1:((c.toNat:Int)==95)=true:=by rw[h95];rfl
    clear hcn h2 h95
    generalize c::q=s at*
    go_wp2_with fail
    refine(fail_c w2 D p n 20).mono ?_
    rintro e w3 ⟨⟨a,c,rfl⟩,hc3⟩
    go_wp2
    exact⟨rfl,⟨_,_,rfl⟩,Bel.c⟩
   ·have h1:((c.toNat:Int)==95)=false:=beq_eq_false_iff_ne.2 (fun e=>h95 (UInt8.toNat_inj.1 (by simp;omega)))
    have h3:plainB (c::q)=false:=by
     rcases h2 with h2|h2
     ·exact absurd (by simpa using h2) h95
     ·exact h2
    clear h2
    generalize c::q=s at*
    go_wp2_with fail
    refine(hcn w2 (by omega) h95 h3).mono ?_
    rintro e w3 ⟨rfl,hc3⟩
    clear hcn hg
    go_wp2_with fail
    refine(fail_c w3 D p n 20).mono ?_
    rintro e w4 ⟨⟨a,c,rfl⟩,hc4⟩
    go_wp2
    exact⟨rfl,⟨_,_,rfl⟩,Bel.c⟩
theorem pNum_some{p:PC}{n:Nat}{least v:Int}{r:List Tk}(h:pNum least (p.ts n)=some (v,r)):∃t,p.toks[n]? =some t∧t.kind=2∧intVal t.text=v∧v≤maxN∧least≤v∧r=p.ts (n+1):=by
 rcases Nat.lt_or_ge n p.toks.length with hl|hl
 ·have ht:=List.getElem?_eq_getElem hl
  refine⟨_,ht,?_⟩
  rw[p.ts_cons ht]at h
  simp only[pNum]at h
  split at h
  ·rename_i hc
   simp only[Bool.and_eq_true,decide_eq_true_eq,beq_iff_eq]at hc
   injection h with h
   obtain⟨rfl,rfl⟩:=Prod.mk.inj h
   exact⟨hc.1.1,rfl,hc.1.2,hc.2,rfl⟩
  ·cases h
 ·rw[PC.ts,List.drop_eq_nil_of_le hl]at h;cases h
theorem pNum_none{p:PC}{n:Nat}{least:Int}{t:Tk}(ht:p.toks[n]? =some t)(h:pNum least (p.ts n)=none):t.kind≠2∨maxN<intVal t.text∨intVal t.text<least:=by
 rw[p.ts_cons ht]at h
 simp only[pNum]at h
 split at h
 ·cases h
 ·rename_i hc
  simp only[Bool.and_eq_true,decide_eq_true_eq,beq_iff_eq,not_and,Int.not_le]at hc
  by_cases h1:t.kind=2
  ·by_cases h2:intVal t.text≤maxN
   ·exact .inr (.inr (hc ⟨h1,h2⟩))
   ·exact .inr (.inl (by omega))
  ·exact .inl h1
theorem ext2_0(a b:Value)(w:World):Sem.run prog (Instr.extract (.tuple #[a,b]) 0) w=.ok a w:=by kernel_rfl
theorem ext2_1(a b:Value)(w:World):Sem.run prog (Instr.extract (.tuple #[a,b]) 1) w=.ok b w:=by kernel_rfl
theorem atoi_c(t:Bs)(ht:integerB t=true)(hl:t.length≤65536)(w:World):Calls prog 217 #[.string (str t)] w fun e w'=>e=.returned (.tuple #[.int .i64 (intVal t),.nilIface])∧Cll none w w':=by
 refine(strconv_Atoi_ok (str t) (by rw[str_size];omega) (intVal t) (by rw[str_data];exact(atoi_int ht).1) w).mono ?_
 rintro e w' ⟨rfl,rfl|⟨u,rfl⟩⟩
 ·exact⟨rfl,Bel.c⟩
 ·exact⟨rfl,⟨rfl,rfl,rfl,by rw[Lib.bytesWorld_size];omega,fun j hj _=>Lib.bytesWorld_at_old w 5 u j hj⟩⟩
theorem number_ok(w:World)(D:Gh)(p:PC)(n:Nat)(least v:Int)(r:List Tk)(h:pNum least (p.ts n)=some (v,r))[Keeps D w][hP:PS w D p n][hT:TS D p]:
  Calls prog 192 #[p.ptr,.int .i64 least] w fun e w'=>e=.returned (.int .i64 v)∧Cll (some p.g) w w'∧PS w' D p (n+1):=by
 obtain⟨t,ht,hk,hv,hmax,hle,rfl⟩:=pNum_some h
 clear h
 have hi:=hT.int t (List.mem_of_getElem? ht) hk
 have hl:=last_lt (D:=D) ht (by omega)
 have hlen:=hT.len t (List.mem_of_getElem? ht)
 have hl3:=hT.lim.2.2
 have hb:=(atoi_int hi).2
 have hat:=atoi_c t.text hi hlen
 rw[hv]at hat hb
 unfold maxN at hmax
 have hk2:(t.kind != 2)=false:=by rw[hk];rfl
 have HT':=hid ht
 clear ht hk hv hi
 go_enter func192,ntmps192
 go_wp2_with fail
 refine(token_c w D p n).mono ?_
 rintro e w1 ⟨⟨t',ht',rfl⟩,hc1⟩
 obtain rfl:=tok_text _ _ p n ht' HT'.out
 clear ht'
 have f0:=fld54_0
 have f1:=fld54_1
 have e0:=ext2_0
 have e1:=ext2_1
 go_wp2_with fail
 refine(token_c w1 D p n).mono ?_
 rintro e w2 ⟨⟨t'',ht',rfl⟩,hc2⟩
 obtain rfl:=tok_text _ _ p n ht' HT'.out
 clear ht'
 go_wp2_with fail
 refine(hat w2).mono ?_
 rintro e w3 ⟨rfl,hc3⟩
 have hP3:PS w3 D p n:=ii
 have c1:=@Box.held _ _ _ _ _ hP3.box 1 (.int .i64 n) rfl
 have b1:=Box.lt (h:=hP3.box)
 clear hat
 go_wp2
 go_ret
 exact⟨rfl,Bel.c,hP3.next hl⟩
theorem number_bad(w:World)(D:Gh)(p:PC)(n:Nat)(least:Int)(h:pNum least (p.ts n)=none)[Keeps D w][hP:PS w D p n][hT:TS D p]:
  Calls prog 192 #[p.ptr,.int .i64 least] w fun e w'=>Fault e∧Cll none w w':=by
 obtain⟨t,ht⟩:∃t,p.toks[n]? =some t:=⟨_,List.getElem?_eq_getElem hP.lt⟩
 have hi:=hT.int t (List.mem_of_getElem? ht)
 have hlen:=hT.len t (List.mem_of_getElem? ht)
 have h':=pNum_none ht h
 clear h
 have HT':=hid ht
 have HI:=hid hi
 have H':=hid h'
 clear ht hi h'
 go_enter func192,ntmps192
 go_wp2_with fail
 refine(token_c w D p n).mono ?_
 rintro e w1 ⟨⟨t',ht',rfl⟩,hc1⟩
 obtain rfl:=tok_text _ _ p n ht' HT'.out
 clear ht'
 have f0:=fld54_0
 have f1:=fld54_1
 have e0:=ext2_0
 have e1:=ext2_1
 by_cases hk:t'.kind=2
 ·have hat:=atoi_c t'.text (HI.out hk) hlen
  have hb:=(atoi_int (HI.out hk)).2
  have h2:=H'.out.resolve_left (fun h=>h hk)
  have hk2:(t'.kind != 2)=false:=by rw[hk];rfl
  clear HI H' hk
  go_wp2_with fail
  refine(token_c w1 D p n).mono ?_
  rintro e w2 ⟨⟨t'',ht',rfl⟩,hc2⟩
  obtain rfl:=tok_text _ _ p n ht' HT'.out
  clear ht' HT'
  generalize intVal t''.text=v at*
  unfold maxN at h2
  go_wp2_with fail
  refine(hat w2).mono ?_
  rintro e w3 ⟨rfl,hc3⟩
  clear hat
  by_cases hm:1099511627776<v
  ·clear h2
   go_wp2_with fail
   refine(fail_c w3 D p n 21).mono ?_
   rintro e w4 ⟨⟨a,c,rfl⟩,hc4⟩
   go_wp2
   exact⟨rfl,⟨_,_,rfl⟩,Bel.c⟩
  ·have h3:v<least:=by omega
   have h4:v≤1099511627776:=by omega
   clear h2 hm
   go_wp2_with fail
   refine(fail_c w3 D p n 21).mono ?_
   rintro e w4 ⟨⟨a,c,rfl⟩,hc4⟩
   go_wp2
   exact⟨rfl,⟨_,_,rfl⟩,Bel.c⟩
 ·have hk2:(t'.kind != 2)=true:=by simp[hk]
  clear HI H' hk
  go_wp2_with fail
  refine(fail_c w1 D p n 30).mono ?_
  rintro e w2 ⟨⟨a,c,rfl⟩,hc2⟩
  go_wp2
  exact⟨rfl,⟨_,_,rfl⟩,Bel.c⟩
end Go.Proofs.YticgonfhjcaohaaGreatDoor
namespace Go.Proofs.YticgonfhjcaohaaGreatDoor
open Go.RowKit Go.VT _root_.Go.Proofs.Tryz
theorem isEmpty_z(w:World):Calls prog 121 #[.agg #[.int .i64 0,.string ⟨#[]⟩,.int .i64 0,.int .i64 0,.slice none 0 0]] w fun e w'=>e=.returned (.bool true)∧Cll none w w':=by
 go_enter func121,ntmps121
 go_wp2
 go_ret
 exact⟨rfl,Bel.c⟩
theorem PV_elem{D:Gh}{w:World}[Keeps D w]{l:List C}{a:Option Addr}{m cap i:Nat}(h:PV D l (.slice a m cap))(hi:i<l.length):
  ∃c b o a' n' m',l[i]? =some c∧a=some ⟨b,o,none⟩∧n'=c.parts.length∧PV D c.parts (.slice a' n' m')∧w.cell? ⟨b,o+i*5,none⟩=some (.int .i64 c.kind)∧w.cell? ⟨b,o+i*5+1,none⟩=some (.string (str c.nm))∧w.cell? ⟨b,o+i*5+2,none⟩=some (.int .i64 c.lo)∧w.cell? ⟨b,o+i*5+3,none⟩=some (.int .i64 c.hi)∧w.cell? ⟨b,o+i*5+4,none⟩=some (.slice a' n' m')∧b<w.heap.size:=by
 have hj:=List.getElem?_eq_getElem hi
 obtain⟨b,o,p,rfl,hc,hp⟩:=h.at_ hj
 obtain⟨a',m',rfl,_,_⟩:=PV.form hp
 have h:=hc.held (w:=w)
 exact⟨_,b,o,a',_,m',hj,rfl,rfl,hp,h.1,h.2.1,h.2.2.1,h.2.2.2.1,h.2.2.2.2.1,h.2.2.2.2.2⟩
theorem PV_len{D:Gh}{l:List C}{a:Option Addr}{n m:Nat}(h:PV D l (.slice a n m)):n=l.length∧n≤m∧m≤9223372036854775807:=by
 obtain⟨a',cap,he,h1,h2⟩:=PV.form h
 cases he
 exact⟨rfl,h1,h2⟩
theorem sizeL_take(l:List C)(i:Nat)(c:C)(h:l[i]? =some c):sizeL (l.take (i+1))=sizeL (l.take i)+c.size:=by
 induction l generalizing i with
 |nil=>simp at h
 |cons a r ih=>
  cases i with
  |zero=>simp at h;subst h;simp[sizeL]
  |succ i=>simp only[List.take_succ_cons,sizeL];rw[ih i (by simpa using h)];omega
theorem sizeL_at(l:List C)(i:Nat)(c:C)(h:l[i]? =some c):sizeL (l.take i)+c.size≤sizeL l:=by
 induction l generalizing i with
 |nil=>simp at h
 |cons a r ih=>
  cases i with
  |zero=>simp at h;subst h;simp[sizeL]
  |succ i=>simp only[List.take_succ_cons,sizeL];have:=ih i (by simpa using h);omega
theorem depthL_le{l:List C}{k:Nat}:depthL l≤k↔∀c∈l,1+c.depth≤k:=by
 induction l with
 |nil=>simp[depthL]
 |cons a r ih=>simp only[depthL,List.mem_cons,forall_eq_or_imp,←ih];omega
def fitsB(c:C)(d sz:Nat):Bool:=decide (d+c.depth≤8)&&decide (sz+c.size≤64)
theorem fits_no{c c':C}{d sz i:Nat}(h:c.size=1+sizeL c.parts∧c.depth=depthL c.parts)(hj:c.parts[i]? =some c')(hf:fitsB c' (d+1) (sz+1+sizeL (c.parts.take i))=false):fitsB c d sz=false:=by
 have h1:=sizeL_at _ _ _ hj
 have h2:=depthL_le.1 (Nat.le_refl (depthL c.parts)) c' (List.mem_of_getElem? hj)
 simp only[fitsB,Bool.and_eq_false_iff,decide_eq_false_iff_not]at hf⊢
 omega
theorem fits_s(n:Nat)(w:World)(D:Gh)(c:C)(a:Option Addr)(len m d sz gs:Nat)(hn:c.size≤n+1)(hsz:sz≤64)(hd:d≤9)
  (ih:∀(w:World)(D:Gh)(c:C)(a:Option Addr)(len m d sz:Nat),c.size≤n→sz≤64→d≤9→PV D c.parts (.slice a len m)→∀[Keeps D w][Box w D gs 3 #[.int .i64 sz]],
   Calls prog 124 #[cv c (.slice a len m),.int .i64 d,.pointer (some ⟨gs,0,none⟩)] w fun e w'=>e=.returned (.bool (fitsB c d sz))∧Cll (some gs) w w'∧∃sz':Nat,Box w' D gs 3 #[.int .i64 sz']∧(fitsB c d sz=true→sz'=sz+c.size))
  (hp:PV D c.parts (.slice a len m)) [Keeps D w] [hB:Box w D gs 3 #[.int .i64 sz]]:
  Calls prog 124 #[cv c (.slice a len m),.int .i64 d,.pointer (some ⟨gs,0,none⟩)] w fun e w'=>e=.returned (.bool (fitsB c d sz))∧Cll (some gs) w w'∧∃sz':Nat,Box w' D gs 3 #[.int .i64 sz']∧(fitsB c d sz=true→sz'=sz+c.size):=by
 have hs:=Box.lt (h:=hB)
 obtain⟨hlen,hm1,hm2⟩:=PV_len hp
 have hsp:=c.size_parts
 have hdp:=c.depth_parts
 have IH:=hid ih
 clear ih
 have c0:=hB.held (i:=0) rfl
 have HS:=hid (And.intro hsp hdp)
 have HL:=hid hlen
 clear hsp hdp hlen
 have:=hB.off
 have hne:NeX w.heap.size (some gs):=ne_size hs 0
 have hne2:NeX gs (some w.heap.size):=⟨fun e=>by have:=Option.some.inj e;omega⟩
 by_cases h1:(8:Int)<(d:Int)
 ·go_enter func124,ntmps124
  go_wp2
  go_ret
  have hf:fitsB c d sz=false:=by simp only[fitsB,Bool.and_eq_false_iff,decide_eq_false_iff_not];left;omega
  exact⟨by rw[hf];rfl,Bel.c,sz+1,ii,fun h=>by rw[hf]at h;cases h⟩
 ·by_cases h2:(64:Int)<(sz:Int)+1
  ·go_enter func124,ntmps124
   go_wp2
   go_ret
   have hf:fitsB c d sz=false:=by have:=C.size_pos c;simp only[fitsB,Bool.and_eq_false_iff,decide_eq_false_iff_not];right;omega
   exact⟨by rw[hf];rfl,Bel.c,sz+1,ii,fun h=>by rw[hf]at h;cases h⟩
  ·go_enter func124,ntmps124
   go_wp2_with fail
   go_loopg [25] len (fun gk v wr=>∃i:Nat,v=.int .i64 i∧gk+i=len∧Gr (some gs) w D wr D∧Box wr D gs 3 #[.int .i64 (sz+1+sizeL (c.parts.take i):Nat)]∧sz+1+sizeL (c.parts.take i)≤64∧Hid (∀c'∈c.parts.take i,d+1+c'.depth≤8))
   case atStart=>
    refine⟨0,rfl,rfl,ii,?_,by simp[sizeL];omega,fun c' h=>by simp at h⟩
    have:Box ((w.setCell ⟨gs,0,none⟩ (.int .i64 ((sz:Int)+1))).alloc (.cells #[.int .i64 c.kind,.string (str c.nm),.int .i64 c.lo,.int .i64 c.hi,.slice a len m] 31)) D gs 3 #[.int .i64 ((sz:Int)+1)]:=ii
    simpa[sizeL]using this
   case round=>
    obtain⟨i,rfl,hgk,hG,hBr,hsi,hdep⟩:=hrel
    have:=hG.keeps
    have hle:=hG.bl.size
    have hsr:=Box.lt (h:=hBr)
    by_cases hi:i<len
    ·obtain⟨c',b,o,a',n',m',hj,rfl,rfl,hp',r0,r1,r2,r3,r4,r5⟩:=PV_elem (w:=wr) hp (i:=i) (by rw[←HL.out];exact hi)
     have HJ:=hid hj
     clear hj
     have hne:NeX gs (some wr.heap.size):=⟨fun e=>by have:=Option.some.inj e;omega⟩
     go_wp2_with fail
     have hc':c'.size≤n:=by
      have h1:=sizeL_at _ _ _ HJ.out
      have h2:=HS.out.1
      omega
     have ih1:=IH.out (wr.alloc (.cells #[.int .i64 c'.kind,.string (str c'.nm),.int .i64 c'.lo,.int .i64 c'.hi,.slice a' c'.parts.length m'] 31)) D c' a' c'.parts.length m' (d+1) _ hc' hsi (by omega) hp'
     refine ih1.mono ?_
     clear ih1
     rintro e w3 ⟨rfl,hc3,sz',hB3,hsz'⟩
     cases hf:fitsB c' (d+1) (sz+1+sizeL (c.parts.take i))
     ·go_wp2
      go_ret
      have:=hG.toBel
      have hff:fitsB c d sz=false:=fits_no HS.out HJ.out hf
      exact⟨by rw[hff];rfl,Bel.c,sz',hB3,fun h=>by rw[hff]at h;cases h⟩
     ·go_wp2_with fail
      have hz:=hsz' hf
      have hst:=sizeL_take _ _ _ HJ.out
      obtain⟨q1,q2⟩:d+1+c'.depth≤8∧sz+1+sizeL (c.parts.take i)+c'.size≤64:=by simpa[fitsB]using hf
      clear hsz'
      go_roundg (gk-1)
      case measure=>omega
      case rel=>
       refine⟨i+1,by simp,by omega,ii,?_,by omega,fun x hx=>?_⟩
       ·rw[hst,←Nat.add_assoc,←hz];exact hB3
       ·rw[List.take_add_one,HJ.out]at hx
        rcases List.mem_append.1 hx with hx|hx
        ·exact hdep x hx
        ·simp at hx;subst hx;exact q1
    ·go_wp2_with fail
     have:=hG.toBel
     have hil:c.parts.take i=c.parts:=List.take_of_length_le (by have:=HL.out;omega)
     rw[hil]at hBr hsi hdep
     have hff:fitsB c d sz=true:=by
      have h1:=HS.out.1
      have h2:c.depth≤8-d:=by rw[HS.out.2,depthL_le];intro x hx;have:=hdep x hx;omega
      simp only[fitsB,Bool.and_eq_true,decide_eq_true_eq];omega
     have h1:=HS.out.1
     go_ret
     exact⟨by rw[hff];rfl,Bel.c,_,hBr,fun _=>by omega⟩
theorem fits_c(w:World)(D:Gh)(c:C)(a:Option Addr)(len m d sz gs:Nat)(hsz:sz≤64)(hd:d≤9)(hp:PV D c.parts (.slice a len m))[Keeps D w][hB:Box w D gs 3 #[.int .i64 sz]]:
  Calls prog 124 #[cv c (.slice a len m),.int .i64 d,.pointer (some ⟨gs,0,none⟩)] w fun e w'=>e=.returned (.bool (fitsB c d sz))∧Cll (some gs) w w'∧∃sz':Nat,Box w' D gs 3 #[.int .i64 sz']∧(fitsB c d sz=true→sz'=sz+c.size):=by
 have key:∀(n:Nat)(w:World)(D:Gh)(c:C)(a:Option Addr)(len m d sz:Nat),c.size≤n→sz≤64→d≤9→PV D c.parts (.slice a len m)→∀[Keeps D w][Box w D gs 3 #[.int .i64 sz]],
   Calls prog 124 #[cv c (.slice a len m),.int .i64 d,.pointer (some ⟨gs,0,none⟩)] w fun e w'=>e=.returned (.bool (fitsB c d sz))∧Cll (some gs) w w'∧∃sz':Nat,Box w' D gs 3 #[.int .i64 sz']∧(fitsB c d sz=true→sz'=sz+c.size):=by
  intro n
  induction n with
  |zero=>intro w D c a len m d sz hc;have:=C.size_pos c;omega
  |succ n ih=>intro w D c a len m d sz hc h1 h2 hp _ _;exact fits_s n w D c a len m d sz gs hc h1 h2 ih hp
 exact key c.size w D c a len m d sz (Nat.le_refl _) hsz hd hp
end Go.Proofs.YticgonfhjcaohaaGreatDoor
namespace Go.VT
open Go.RowKit
def trow(x:C×Value×Value):List Value:=[.int .i64 x.1.kind,.string (str x.1.nm),.int .i64 x.1.lo,.int .i64 x.1.hi,x.2.1,.int .i64 x.1.size,x.2.2]
abbrev tv(c:C)(p q:Value):Value:=.agg #[.int .i64 c.kind,.string (str c.nm),.int .i64 c.lo,.int .i64 c.hi,p,.int .i64 c.size,q]
structure Trow(D:Gh)(b o:Nat)(c:C)(p q:Value):Prop where
 h0:D b o=some (.int .i64 c.kind)
 h1:D b (o+1)=some (.string (str c.nm))
 h2:D b (o+2)=some (.int .i64 c.lo)
 h3:D b (o+3)=some (.int .i64 c.hi)
 h4:D b (o+4)=some p
 h5:D b (o+5)=some (.int .i64 c.size)
 h6:D b (o+6)=some q
class inductive TV(D:Gh):List C→Value→Prop where
 |nil:TV D [] (.slice none 0 0)
 |rows {l:List C} {cap b o:Nat} {pv qv:Nat→Value} (h0:l≠[]) (hcap:l.length≤cap) (hm:cap≤9223372036854775807)
   (hc:∀j c,l[j]? =some c→Trow D b (o+j*7) c (pv j) (qv j)) (hp:∀j c,l[j]? =some c→PV D c.parts (pv j)) (hq:∀j c,l[j]? =some c→TV D c.parts (qv j)):TV D l (.slice (some ⟨b,o,none⟩) l.length cap)
attribute [instance] TV.nil
theorem Trow.le{D D':Gh}[hd:Le D D']{b o:Nat}{c:C}{p q:Value}(h:Trow D b o c p q):Trow D' b o c p q:=
 ⟨hd.out _ _ _ h.h0,hd.out _ _ _ h.h1,hd.out _ _ _ h.h2,hd.out _ _ _ h.h3,hd.out _ _ _ h.h4,hd.out _ _ _ h.h5,hd.out _ _ _ h.h6⟩
instance TV.le(D D':Gh)(l:List C)(p:Value)[hd:Le D D'][h:TV D l p]:TV D' l p:=by
 induction h with
 |nil=>exact .nil
 |rows h0 hcap hm hc hp _ ih=>exact .rows h0 hcap hm (fun j c e=>(hc j c e).le) (fun j c e=>have:=hp j c e;inferInstance) ih
theorem TV.form{D:Gh}{l:List C}{p:Value}(h:TV D l p):∃a cap,p=.slice a l.length cap∧l.length≤cap∧cap≤9223372036854775807:=by
 cases h with
 |nil=>exact⟨none,0,rfl,by simp,by omega⟩
 |rows h0 hcap hm _ _ _=>exact⟨_,_,rfl,hcap,hm⟩
theorem TV.at_{D:Gh}{l:List C}{a:Option Addr}{m cap:Nat}(h:TV D l (.slice a m cap)){j:Nat}{c:C}(hj:l[j]? =some c):∃b o p q,a=some ⟨b,o,none⟩∧Trow D b (o+j*7) c p q∧PV D c.parts p∧TV D c.parts q:=by
 cases h with
 |nil=>simp at hj
 |rows h0 hcap hm hc hp hq=>exact⟨_,_,_,_,rfl,hc j c hj,hp j c hj,hq j c hj⟩
theorem Trow.held{D:Gh}{w:World}[hk:Keeps D w]{b o:Nat}{c:C}{p q:Value}(h:Trow D b o c p q):
  w.cell? ⟨b,o,none⟩=some (.int .i64 c.kind)∧w.cell? ⟨b,o+1,none⟩=some (.string (str c.nm))∧w.cell? ⟨b,o+2,none⟩=some (.int .i64 c.lo)∧w.cell? ⟨b,o+3,none⟩=some (.int .i64 c.hi)∧w.cell? ⟨b,o+4,none⟩=some p∧
   w.cell? ⟨b,o+5,none⟩=some (.int .i64 c.size)∧w.cell? ⟨b,o+6,none⟩=some q∧b<w.heap.size:=
 ⟨hk.out _ _ _ h.h0,hk.out _ _ _ h.h1,hk.out _ _ _ h.h2,hk.out _ _ _ h.h3,hk.out _ _ _ h.h4,hk.out _ _ _ h.h5,hk.out _ _ _ h.h6,Keeps.lt h.h0⟩
theorem trow_len(xs:List (C×Value×Value)):(xs.flatMap trow).length=xs.length*7:=by
 induction xs with
 |nil=>rfl
 |cons x r ih=>simp only[List.flatMap_cons,List.length_append,List.length_cons,ih,trow,List.length_nil];omega
theorem trow_at(xs:List (C×Value×Value))(j:Nat)(x:C×Value×Value)(h:xs[j]? =some x)(i:Nat)(u:Value)(hu:(trow x)[i]? =some u):(xs.flatMap trow)[j*7+i]? =some u:=by
 induction xs generalizing j with
 |nil=>simp at h
 |cons y r ih=>
  rw[List.flatMap_cons]
  have hi:i<7:=by
   rcases Nat.lt_or_ge i 7 with hi|hi
   ·exact hi
   ·rw[List.getElem?_eq_none (by simpa[trow]using hi)]at hu;cases hu
  cases j with
  |zero=>
   obtain rfl:y=x:=by simpa using h
   rw[List.getElem?_append_left (by simp[trow];omega),Nat.zero_mul,Nat.zero_add];exact hu
  |succ j=>
   rw[List.getElem?_append_right (by simp[trow];omega)]
   have e:(j+1)*7+i-(trow y).length=j*7+i:=by simp[trow];omega
   rw[e];exact ih j (by simpa using h)
theorem TV.of_rows{D:Gh}{v:Value}{xs:List (C×Value×Value)}(h:SlN D 7 v xs.length (xs.flatMap trow))(hn:xs=[]→v=.slice none 0 0)(hp:∀x∈xs,PV D x.1.parts x.2.1)(hq:∀x∈xs,TV D x.1.parts x.2.2):TV D (xs.map (·.1)) v:=by
 obtain⟨_,a,c,rfl,h1,h2,h3,h4⟩:=h
 rcases xs with _|⟨x0,r⟩
 ·rw[hn rfl];exact .nil
 ·obtain⟨b,o,rfl,hc⟩:=h4 (by simp)
  have key:∀(j:Nat)(x:C×Value×Value),(x0::r)[j]? =some x→∀i u,(trow x)[i]? =some u→D b (o+j*7+i)=some u:=fun j x hx i u hu=>by
   rw[Nat.add_assoc];exact hc _ _ (trow_at _ j x hx i u hu)
  have hlen:(List.map (·.1) (x0::r)).length=(x0::r).length:=by simp
  rw[←hlen]
  refine .rows (pv:=fun j=>((x0::r)[j]?.map (·.2.1)).getD undef) (qv:=fun j=>((x0::r)[j]?.map (·.2.2)).getD undef) (by simp) (by rw[hlen];exact h1) (by unfold maxLen at h2;omega) (fun j c e=>?_) (fun j c e=>?_) (fun j c e=>?_)
  ·rw[List.getElem?_map]at e
   obtain⟨x,hx,rfl⟩:=Option.map_eq_some_iff.1 e
   rw[hx]
   have k:=key j x hx
   exact⟨k 0 _ rfl,k 1 _ rfl,k 2 _ rfl,k 3 _ rfl,k 4 _ rfl,k 5 _ rfl,k 6 _ rfl⟩
  ·rw[List.getElem?_map]at e
   obtain⟨x,hx,rfl⟩:=Option.map_eq_some_iff.1 e
   rw[hx]
   exact hp x (List.mem_of_getElem? hx)
  ·rw[List.getElem?_map]at e
   obtain⟨x,hx,rfl⟩:=Option.map_eq_some_iff.1 e
   rw[hx]
   exact hq x (List.mem_of_getElem? hx)
theorem Own.pubTV{w:World}{D:Gh}[Keeps D w]{B:Nat}{e:TypeId}{v:Value}{n:Nat}{xs:List (C×Value×Value)}(h:Own w D B e 7 v n (xs.flatMap trow))(hn:xs=[]→v=.slice none 0 0)(hp:∀x∈xs,PV D x.1.parts x.2.1)(hq:∀x∈xs,TV D x.1.parts x.2.2):∃D',Pub w D D' v.ownBlock∧TV D' (xs.map (·.1)) v:=by
 obtain⟨D',hP,hS⟩:=h.pub
 have hl:n=xs.length:=by have:=h.own.1;rw[trow_len]at this;omega
 subst hl
 have:=hP.le
 exact⟨D',hP,TV.of_rows hS hn (fun x hx=>have:=hp x hx;inferInstance) (fun x hx=>have:=hq x hx;inferInstance)⟩
end Go.VT
namespace Go.Proofs.YticgonfhjcaohaaGreatDoor
open Go.RowKit Go.VT _root_.Go.Proofs.Tryz
def needsT:List Value:=
 [.int .i64 0,.int .i64 0,.int .i64 0,.bool false,
  .int .i64 0,.int .i64 0,.int .i64 0,.bool false,
  .int .i64 0,.int .i64 0,.int .i64 0,.bool false,
  .int .i64 1,.int .i64 0,.int .i64 0,.bool false,
  .int .i64 2,.int .i64 0,.int .i64 0,.bool false,
  .int .i64 0,.int .i64 2,.int .i64 8,.bool false,
  .int .i64 1,.int .i64 1,.int .i64 1,.bool false,
  .int .i64 1,.int .i64 0,.int .i64 0,.bool true]
def useRow(l r ro a b:Bool)(x y:Int):List Value:=[.bool l,.bool r,.bool ro,.bool a,.bool b,.int .i64 x,.int .i64 y]
def usesT:List Value:=
 useRow false false false false false 0 0++useRow true true false false false 0 0++useRow true true false false false 0 0++useRow true true false false false 0 0++
 useRow false true true false false 0 0++useRow false false true false false 1 1++useRow false false true false false 2 4++useRow false false true false false 0 0++
 useRow false true false true false 0 0++useRow false false true true true 0 0
class TB(D:Gh):Prop where
 needs:∀j v,needsT[j]? =some v→D 1 j=some v
 uses:∀j v,usesT[j]? =some v→D 0 j=some v
instance TB_le(D D':Gh)[hd:Le D D'][h:TB D]:TB D':=⟨fun j v e=>hd.out _ _ _ (h.needs j v e),fun j v e=>hd.out _ _ _ (h.uses j v e)⟩
theorem PV_nil{D:Gh}{p:Value}(h:PV D [] p):p=.slice none 0 0:=by
 cases h with
 |nil=>rfl
 |rows h0=>exact absurd rfl h0
def shal:C→Bool
 |.and l=>decide (l.length≤8)
 |_=>true
def shalE(c:C):Int:=if shal c then 0 else 21
theorem wf_len{s:Bs}(h:plainB s=true):s.length≤100000:=by
 simp only[plainB,Bool.and_eq_true,decide_eq_true_eq]at h;omega
theorem checkFields_c(w:World)(D:Gh)(c:C)(a:Option Addr)(len m:Nat)(hw:c.wf)(hp:PV D c.parts (.slice a len m))[hk:Keeps D w][hT:TB D]:
  Calls prog 125 #[cv c (.slice a len m)] w fun e w'=>e=.returned (.int .i64 (shalE c))∧Cll none w w':=by
 have h1:1<w.heap.size:=Keeps.lt (hT.needs 0 _ rfl)
 cases c with
 |top=>
  obtain⟨⟩:=PV_nil hp
  have k0:=hk.out _ _ _ (hT.needs 4 _ rfl)
  have k1:=hk.out _ _ _ (hT.needs 5 _ rfl)
  have k2:=hk.out _ _ _ (hT.needs 6 _ rfl)
  have k3:=hk.out _ _ _ (hT.needs 7 _ rfl)
  change Calls prog 125 #[.agg #[.int .i64 1,.string ⟨#[]⟩,.int .i64 0,.int .i64 0,.slice none 0 0]] w _
  go_enter func125,ntmps125
  go_wp2
  go_ret
  exact⟨rfl,Bel.c⟩
 |bot=>
  obtain⟨⟩:=PV_nil hp
  have k0:=hk.out _ _ _ (hT.needs 8 _ rfl)
  have k1:=hk.out _ _ _ (hT.needs 9 _ rfl)
  have k2:=hk.out _ _ _ (hT.needs 10 _ rfl)
  have k3:=hk.out _ _ _ (hT.needs 11 _ rfl)
  change Calls prog 125 #[.agg #[.int .i64 2,.string ⟨#[]⟩,.int .i64 0,.int .i64 0,.slice none 0 0]] w _
  go_enter func125,ntmps125
  go_wp2
  go_ret
  exact⟨rfl,Bel.c⟩
 |named s=>
  obtain⟨⟩:=PV_nil hp
  have k0:=hk.out _ _ _ (hT.needs 12 _ rfl)
  have k1:=hk.out _ _ _ (hT.needs 13 _ rfl)
  have k2:=hk.out _ _ _ (hT.needs 14 _ rfl)
  have k3:=hk.out _ _ _ (hT.needs 15 _ rfl)
  have hw:plainB s=true:=hw
  change Calls prog 125 #[.agg #[.int .i64 3,.string (str s),.int .i64 0,.int .i64 0,.slice none 0 0]] w _
  have hts:=str_toList s
  go_enter func125,ntmps125
  go_wp2_with fail
  refine(isPlain_c s _ (wf_len hw)).mono ?_
  rintro e w1 ⟨rfl,hc1⟩
  rw[hw]
  go_wp2
  go_ret
  exact⟨rfl,Bel.c⟩
 |nom s=>
  obtain⟨⟩:=PV_nil hp
  have k0:=hk.out _ _ _ (hT.needs 16 _ rfl)
  have k1:=hk.out _ _ _ (hT.needs 17 _ rfl)
  have k2:=hk.out _ _ _ (hT.needs 18 _ rfl)
  have k3:=hk.out _ _ _ (hT.needs 19 _ rfl)
  have hw:plainB s=true:=hw
  change Calls prog 125 #[.agg #[.int .i64 4,.string (str s),.int .i64 0,.int .i64 0,.slice none 0 0]] w _
  have hts:=str_toList s
  go_enter func125,ntmps125
  go_wp2_with fail
  refine(isPlain_c s _ (wf_len hw)).mono ?_
  rintro e w1 ⟨rfl,hc1⟩
  rw[hw]
  go_wp2
  go_ret
  exact⟨rfl,Bel.c⟩
 |and l=>
  obtain⟨hl,hm1,hm2⟩:=PV_len hp
  have k0:=hk.out _ _ _ (hT.needs 20 _ rfl)
  have k1:=hk.out _ _ _ (hT.needs 21 _ rfl)
  have k2:=hk.out _ _ _ (hT.needs 22 _ rfl)
  have k3:=hk.out _ _ _ (hT.needs 23 _ rfl)
  obtain⟨hw1,_⟩:=hw
  simp only[C.parts]at hl
  have hl2:¬(len:Int)<2:=by omega
  rw[show shalE (.and l)=if len≤8 then 0 else 21 from by simp[shalE,shal,hl]]
  clear hp hl hw1
  change Calls prog 125 #[.agg #[.int .i64 5,.string ⟨#[]⟩,.int .i64 0,.int .i64 0,.slice a len m]] w _
  by_cases h8:len≤8
  ·have h8':¬(8:Int)<(len:Int):=by omega
   rw[if_pos h8]
   go_enter func125,ntmps125
   go_wp2
   go_ret
   exact⟨rfl,Bel.c⟩
  ·have h8':(8:Int)<(len:Int):=by omega
   rw[if_neg h8]
   go_enter func125,ntmps125
   go_wp2
   go_ret
   exact⟨rfl,Bel.c⟩
 |some s c=>
  obtain⟨hl,hm1,hm2⟩:=PV_len hp
  have k0:=hk.out _ _ _ (hT.needs 24 _ rfl)
  have k1:=hk.out _ _ _ (hT.needs 25 _ rfl)
  have k2:=hk.out _ _ _ (hT.needs 26 _ rfl)
  have k3:=hk.out _ _ _ (hT.needs 27 _ rfl)
  obtain rfl:len=1:=by simpa[C.parts]using hl
  clear hl hp
  obtain⟨hw,_⟩:=hw
  change Calls prog 125 #[.agg #[.int .i64 6,.string (str s),.int .i64 0,.int .i64 0,.slice a 1 m]] w _
  have hts:=str_toList s
  go_enter func125,ntmps125
  go_wp2_with fail
  refine(isPlain_c s _ (wf_len hw)).mono ?_
  rintro e w1 ⟨rfl,hc1⟩
  rw[hw]
  go_wp2
  go_ret
  exact⟨rfl,Bel.c⟩
 |range s lo hi=>
  obtain⟨⟩:=PV_nil hp
  have k0:=hk.out _ _ _ (hT.needs 28 _ rfl)
  have k1:=hk.out _ _ _ (hT.needs 29 _ rfl)
  have k2:=hk.out _ _ _ (hT.needs 30 _ rfl)
  have k3:=hk.out _ _ _ (hT.needs 31 _ rfl)
  obtain⟨hw,w1,w2,w3⟩:=hw
  unfold maxN at w1 w3
  have w1':¬lo< -1099511627776:=by omega
  have w2':¬hi<lo:=by omega
  have w3':¬1099511627776<hi:=by omega
  change Calls prog 125 #[.agg #[.int .i64 7,.string (str s),.int .i64 lo,.int .i64 hi,.slice none 0 0]] w _
  have hts:=str_toList s
  go_enter func125,ntmps125
  go_wp2_with fail
  refine(isPlain_c s _ (wf_len hw)).mono ?_
  rintro e w1 ⟨rfl,hc1⟩
  rw[hw]
  go_wp2
  go_ret
  exact⟨rfl,Bel.c⟩
end Go.Proofs.YticgonfhjcaohaaGreatDoor
namespace Go.Proofs.YticgonfhjcaohaaGreatDoor
open Go.RowKit Go.VT _root_.Go.Proofs.Tryz
def idxSpec(l:List C)(e:Ending)(w w':World):Prop:=∃r:Int,e=.returned (.int .i64 r)∧(decide (0≤r)=bareL l)∧Cll none w w'
theorem bare_take{l:List C}{i:Nat}{c:C}(h:l[i]? =some c)(hb:bareB c=true):bareL l=true:=bareL_mem.2 ⟨c,List.mem_of_getElem? h,hb⟩
theorem indexFunc_s(N:Nat)(ih:∀(w:World)(D:Gh)(c:C)(a:Option Addr)(n m:Nat),c.size≤N→PV D c.parts (.slice a n m)→∀[Keeps D w],Calls prog 53 #[cv c (.slice a n m)] w fun e w'=>e=.returned (.bool (bareB c))∧Cll none w w')
  (w:World) (D:Gh) (l:List C) (a:Option Addr) (n m:Nat) (hl:sizeL l≤N) (hp:PV D l (.slice a n m)) [hk:Keeps D w]:
  Calls prog 165 #[.slice a n m,.func (.func 53) #[] #[]] w (fun e w'=>idxSpec l e w w'):=by
 obtain⟨hlen,hm1,hm2⟩:=PV_len hp
 have IH:=hid ih
 have HL:=hid hlen
 have HZ:=hid hl
 clear ih hlen hl
 have eg:∀args w,(callFunc 53 args).run prog w=.ok (.enter 53 args) w:=enters_of func53 (by kernel_rfl) rfl
 go_enter func165,ntmps165
 go_wp2_with fail
 go_loopg [8] n (fun gk v wr=>∃i:Nat,v=.int .i64 i∧gk+i=n∧Gr none w D wr D∧Hid (∀c'∈l.take i,bareB c'=false))
 case atStart=>exact⟨0,rfl,rfl,ii,hid fun c' h=>by simp at h⟩
 case round=>
  obtain⟨i,rfl,hgk,hG,HB⟩:=hrel
  have:=hG.keeps
  by_cases hi:i<n
  ·obtain⟨c',b,o,a',n',m',hj,rfl,rfl,hp',r0,r1,r2,r3,r4,r5⟩:=PV_elem (w:=wr) hp (i:=i) (by rw[←HL.out];exact hi)
   have HJ:=hid hj
   have hc':c'.size≤N:=by have:=sizeL_at _ _ _ hj;have:=HZ.out;omega
   clear hj
   go_wp2_with fail
   refine(IH.out wr D c' a' _ m' hc' hp').mono ?_
   rintro e w3 ⟨rfl,hc3⟩
   have:=hG.toBel
   cases hb:bareB c'
   ·go_wp2_with fail
    go_roundg (gk-1)
    case measure=>omega
    case rel=>
     refine⟨i+1,by simp,by omega,ii,hid fun x hx=>?_⟩
     rw[List.take_add_one,HJ.out]at hx
     rcases List.mem_append.1 hx with hx|hx
     ·exact HB.out x hx
     ·simp at hx;subst hx;exact hb
   ·go_wp2_with fail
    go_ret
    exact⟨i,rfl,by rw[bare_take HJ.out hb];simp,Bel.c⟩
  ·go_wp2_with fail
   have:=hG.toBel
   go_ret
   refine⟨-1,rfl,?_,Bel.c⟩
   have hil:l.take i=l:=List.take_of_length_le (by have:=HL.out;omega)
   have hb:=HB.out
   rw[hil]at hb
   have:bareL l=false:=by
    cases h:bareL l
    ·rfl
    ·obtain⟨x,hx,hbx⟩:=bareL_mem.1 h
     rw[hb x hx]at hbx;cases hbx
   rw[this];decide
theorem isBare_s(N:Nat)(ih:∀(w:World)(D:Gh)(c:C)(a:Option Addr)(n m:Nat),c.size≤N→PV D c.parts (.slice a n m)→∀[Keeps D w],Calls prog 53 #[cv c (.slice a n m)] w fun e w'=>e=.returned (.bool (bareB c))∧Cll none w w')
  (w:World) (D:Gh) (c:C) (a:Option Addr) (n m:Nat) (hN:c.size≤N+1) (hp:PV D c.parts (.slice a n m)) [hk:Keeps D w]:
  Calls prog 53 #[cv c (.slice a n m)] w fun e w'=>e=.returned (.bool (bareB c))∧Cll none w w':=by
 have IH:=hid ih
 clear ih
 have hk4:c.kind=4→bareB c=true:=by cases c<;>simp[C.kind,bareB]
 have hk5:c.kind=5→bareB c=bareL c.parts:=by cases c<;>simp[C.kind,bareB,C.parts]
 have hk0:c.kind≠4→c.kind≠5→bareB c=false:=by cases c<;>simp[C.kind,bareB]
 have hsz:sizeL c.parts≤N:=by have:=C.size_parts c;omega
 by_cases h4:c.kind=4
 ·have d4:(c.kind==4)=true:=by simp[h4]
  have HE:=hid (hk4 h4)
  clear hk4 hk5 hk0 h4 hsz
  go_enter func53,ntmps53
  go_wp2
  go_ret
  exact⟨by rw[HE.out];rfl,Bel.c⟩
 ·have d4:(c.kind==4)=false:=by simp[h4]
  by_cases h5:c.kind=5
  ·have d5:(c.kind==5)=true:=by simp[h5]
   have HE:=hid (hk5 h5)
   clear hk4 hk5 hk0 h4 h5 hN
   have HP:=hid hp
   clear hp
   go_enter func53,ntmps53
   go_wp2_with fail
   go_enter func126,ntmps126
   go_wp2_with fail
   refine(indexFunc_s N IH.out _ D c.parts a n m hsz HP.out).mono ?_
   rintro e w3 ⟨r,rfl,hr,hc⟩
   have HR:Hid (decide (0≤r)=bareB c):=hid (by rw[hr,HE.out])
   clear hr
   go_wp2
   go_ret
   exact⟨by rw[←HR.out];rfl,Bel.c⟩
  ·have HE:=hid (hk0 h4 h5)
   have d5:(c.kind==5)=false:=by simp[h5]
   clear hk4 hk5 hk0 h4 h5
   go_enter func53,ntmps53
   go_wp2
   go_ret
   exact⟨by rw[HE.out];rfl,Bel.c⟩
theorem isBare_c(w:World)(D:Gh)(c:C)(a:Option Addr)(n m:Nat)(hp:PV D c.parts (.slice a n m))[hk:Keeps D w]:
  Calls prog 53 #[cv c (.slice a n m)] w fun e w'=>e=.returned (.bool (bareB c))∧Cll none w w':=by
 have key:∀(N:Nat)(w:World)(D:Gh)(c:C)(a:Option Addr)(n m:Nat),c.size≤N→PV D c.parts (.slice a n m)→∀[Keeps D w],Calls prog 53 #[cv c (.slice a n m)] w fun e w'=>e=.returned (.bool (bareB c))∧Cll none w w':=by
  intro N
  induction N with
  |zero=>intro w D c a n m hc;have:=C.size_pos c;omega
  |succ N ih=>intro w D c a n m hc hp _;exact isBare_s N ih w D c a n m hc hp
 exact key c.size w D c a n m (Nat.le_refl _) hp
end Go.Proofs.YticgonfhjcaohaaGreatDoor
