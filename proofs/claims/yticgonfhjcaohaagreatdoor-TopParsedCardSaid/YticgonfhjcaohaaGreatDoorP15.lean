/- TopParsed, part 15. -/
import Derived.Test.YticgonfhjcaohaaGreatDoorP11
import Derived.Test.YticgonfhjcaohaaGreatDoorP12
set_option maxRecDepth 100000
set_option maxHeartbeats 32000000
namespace Go.Proofs.YticgonfhjcaohaaGreatDoor
open Go.RowKit Go.VT _root_.Go.Proofs.Tryz
theorem u8_ne(u:UInt8)(k:UInt8):(((u.toNat:Nat):Int)==((k.toNat:Nat):Int))=decide (u=k):=by
 by_cases h:u=k
 ·subst h;simp
 ·have:u.toNat≠k.toNat:=fun e=>h (UInt8.toNat_inj.1 e)
  have:(u.toNat:Int)≠(k.toNat:Int):=by omega
  simp[h,this]
theorem inIRI_c(u:UInt8)(w:World):Calls prog 26 #[.int .u8 (u.toNat:Int)] w fun e w'=>e=.returned (.bool (iriB u))∧w=w':=by
 have hu:(u.toNat:Int)<256:=by have:=u.toNat_lt;omega
 have key:iriB u=decide (33≤(u.toNat:Int)∧(u.toNat:Int)≤126∧(u.toNat:Int)≠60∧(u.toNat:Int)≠62∧(u.toNat:Int)≠34):=by
  rw[Bool.eq_iff_iff];simp[iriB,UInt8.le_iff_toNat_le,←UInt8.toNat_inj];omega
 have HK:=hid key
 clear key
 go_enter func26,ntmps26
 go_wp2
 all_goals
  go_ret
  refine⟨?_,rfl⟩
  rw[HK.out]
  simp only[Array.getD_eq_getD_getElem?,List.getElem?_toArray,List.getElem?_cons_succ,List.getElem?_cons_zero,Option.getD_some,Ending.returned.injEq,Value.bool.injEq]
  rw[Bool.eq_iff_iff]
  simp
  omega
theorem inString_c(u:UInt8)(w:World):Calls prog 190 #[.int .u8 (u.toNat:Int)] w fun e w'=>e=.returned (.bool (strB u))∧w=w':=by
 have hu:(u.toNat:Int)<256:=by have:=u.toNat_lt;omega
 have key:strB u=decide (32≤(u.toNat:Int)∧(u.toNat:Int)≤126∧(u.toNat:Int)≠34):=by
  rw[Bool.eq_iff_iff];simp[strB,UInt8.le_iff_toNat_le,←UInt8.toNat_inj];omega
 have HK:=hid key
 clear key
 go_enter func190,ntmps190
 go_wp2
 all_goals
  go_ret
  refine⟨?_,rfl⟩
  rw[HK.out]
  simp only[Array.getD_eq_getD_getElem?,List.getElem?_toArray,List.getElem?_cons_succ,List.getElem?_cons_zero,Option.getD_some,Ending.returned.injEq,Value.bool.injEq]
  rw[Bool.eq_iff_iff]
  simp
  omega
theorem isLetterO_c(u:UInt8)(w:World):Calls prog 157 #[.int .u8 (u.toNat:Int)] w fun e w'=>e=.returned (.bool (letterB u))∧w=w':=by
 have hu:(u.toNat:Int)<256:=by have:=u.toNat_lt;omega
 have key:letterB u=decide ((97≤(u.toNat:Int)∧(u.toNat:Int)≤122)∨(65≤(u.toNat:Int)∧(u.toNat:Int)≤90)):=by
  rw[Bool.eq_iff_iff];simp[letterB,UInt8.le_iff_toNat_le];omega
 have HK:=hid key
 clear key
 go_enter func157,ntmps157
 go_wp2
 all_goals
  go_ret
  refine⟨?_,rfl⟩
  rw[HK.out]
  simp only[Array.getD_eq_getD_getElem?,List.getElem?_toArray,List.getElem?_cons_succ,List.getElem?_cons_zero,Option.getD_some,Ending.returned.injEq,Value.bool.injEq]
  rw[Bool.eq_iff_iff]
  simp
  omega
theorem inWord_c(u:UInt8)(w:World):Calls prog 191 #[.int .u8 (u.toNat:Int)] w fun e w'=>e=.returned (.bool (owB u))∧w=w':=by
 have hu:(u.toNat:Int)<256:=by have:=u.toNat_lt;omega
 have key:owB u=(letterB u||decide ((48≤(u.toNat:Int)∧(u.toNat:Int)≤57)∨(u.toNat:Int)=95∨(u.toNat:Int)=58)):=by
  unfold owB
  rw[Bool.or_assoc,Bool.or_assoc]
  congr 1
  rw[Bool.eq_iff_iff];simp[digitB,UInt8.le_iff_toNat_le,←UInt8.toNat_inj];omega
 have HK:=hid key
 clear key
 go_enter func191,ntmps191
 go_wp2_with fail
 refine(isLetterO_c u w).mono ?_
 rintro e w1 ⟨rfl,rfl⟩
 cases hl:letterB u
 all_goals
  go_wp2
 all_goals
  go_ret
  refine⟨?_,rfl⟩
  rw[HK.out,hl]
  simp only[Array.getD_eq_getD_getElem?,List.getElem?_toArray,List.getElem?_cons_succ,List.getElem?_cons_zero,Option.getD_some,Ending.returned.injEq,Value.bool.injEq]
  rw[Bool.eq_iff_iff]
  simp
  try omega
theorem spanN_cons(p:UInt8→Bool)(c:UInt8)(r:Bs):spanN p (c::r)=if p c then spanN p r+1 else 0:=by
 unfold spanN
 rw[List.takeWhile_cons]
 cases h:p c<;>simp
theorem spanN_le(p:UInt8→Bool)(b:Bs):spanN p b≤b.length:=List.Sublist.length_le (List.takeWhile_sublist _)
theorem span_c(w:World)(D:Gh)(f:Nat)(p:UInt8→Bool)(hf:(f=26∧p=iriB)∨(f=190∧p=strB)∨(f=191∧p=owB))(b o c:Nat)(bs:Bs)[hk:Keeps D w][hB:Byt D b o bs](hn:bs.length≤1099511627776):
  Calls prog 187 #[.slice (some ⟨b,o,none⟩) bs.length c,.func (Fn.func f) #[] #[]] w fun e w'=>e=.returned (.int .i64 (spanN p bs))∧∃q,w'=w.drewN q:=by
 have hc:∀(u:UInt8)(w:World),Calls prog f #[.int .u8 (u.toNat:Int)] w fun e w'=>e=.returned (.bool (p u))∧w=w':=by
  rcases hf with⟨rfl,rfl⟩|⟨rfl,rfl⟩|⟨rfl,rfl⟩
  ·exact inIRI_c
  ·exact inString_c
  ·exact inWord_c
 have hf':f=26∨f=190∨f=191:=by rcases hf with⟨h,_⟩|⟨h,_⟩|⟨h,_⟩<;>simp[h]
 clear hf
 obtain⟨n,hl⟩:∃n,n=bs.length:=⟨_,rfl⟩
 rw[←hl]at hn⊢
 have HL:=hid hl
 have HC:=hid hc
 clear hl hc
 rcases hf' with rfl|rfl|rfl
 all_goals
  go_enter func187,ntmps187
  go_wp2_with fail
  go_loopg [4] n (fun gk v wr=>∃i q:Nat,v=.int .i64 i∧gk+i=n∧wr=w.drewN q∧Hid (spanN p bs=i+spanN p (bs.drop i)))
  case atStart=>exact⟨0,0,rfl,rfl,rfl,hid (by simp)⟩
  case round=>
   obtain⟨i,q,rfl,hgk,rfl,HR⟩:=hrel
   by_cases hi:i<n
   ·obtain⟨c0,hc0⟩:∃c0,bs[i]? =some c0:=⟨_,List.getElem?_eq_getElem (by have:=HL.out;omega)⟩
    have k1:=Keeps.out (D:=D) (w:=w) _ _ _ (hB.out i c0 hc0)
    have hrc:spanN p (bs.drop i)=if p c0 then spanN p (bs.drop (i+1))+1 else 0:=by
     obtain⟨hlt,rfl⟩:=List.getElem?_eq_some_iff.1 hc0
     rw[List.drop_eq_getElem_cons hlt,spanN_cons]
    have HD:=hid hrc
    clear hrc hc0
    cases hp:p c0
    ·go_wp2_with fail
     refine(HC.out _ _).mono ?_
     rintro e w1 ⟨rfl,rfl⟩
     rw[hp]
     go_wp2_with fail
     go_ret
     exact⟨by rw[HR.out,HD.out,hp];simp,_,rfl⟩
    ·go_wp2_with fail
     refine(HC.out _ _).mono ?_
     rintro e w1 ⟨rfl,rfl⟩
     rw[hp]
     go_wp2_with fail
     go_roundg (gk-1)
     case measure=>omega
     case rel=>exact⟨i+1,_,by simp,by omega,rfl,hid (by rw[HR.out,HD.out,hp];simp;omega)⟩
   ·go_wp2_with fail
    go_ret
    exact⟨by rw[HR.out,List.drop_eq_nil_of_le (by have:=HL.out;omega)];simp[spanN],_,rfl⟩
theorem encl_c(w:World)(D:Gh)(f:Nat)(p:UInt8→Bool)(z:UInt8)(hf:(f=26∧p=iriB)∨(f=190∧p=strB))(b o c:Nat)(c0:UInt8)(r:Bs)(n k:Nat)(hln:n=(c0::r).length)(hcap:(c0::r).length≤c)[hk:Keeps D w][hB:Byt D b o (c0::r)](hn:n≤1099511627776)(hcm:c≤9223372036854775807)(hE:k=spanN p r)(hd:r[k]? =some z):
  Calls prog 189 #[.slice (some ⟨b,o,none⟩) n c,.func (Fn.func f) #[] #[],.int .u8 (z.toNat:Int)] w fun e w'=>e=.returned (.int .i64 ((k+2:Nat):Int))∧∃q,w'=w.drewN q:=by
 have hB1:Byt D b (o+1) r:=by simpa using hB.drop 1
 have hS:=span_c w D f p (by rcases hf with h|h<;>simp[h]) b (o+1) (c-1) r (by simp at hln;omega)
 have hln1:n=r.length+1:=by simpa using hln
 have hkl:k<r.length:=(List.getElem?_eq_some_iff.1 hd).1
 have e1:r.length=n-1:=by omega
 rw[e1,←hE]at hS
 have hn0:1<n:=by omega
 have hcap':n≤c:=by omega
 have hkn:k+1<n:=by omega
 have k1:=Keeps.out (D:=D) (w:=w) _ _ _ (hB.out (k+1) z (by simpa using hd))
 have e2:o+(k+1)=o+(1+k):=by omega
 rw[e2]at k1
 have hz2:(z.toNat:Int)<256:=by have:=z.toNat_lt;omega
 have hc1:¬c=1:=by omega
 have HS:=hid hS
 clear hln1 hS hln hcap e1 hE hkl hd hB1 hf e2
 go_enter func189,ntmps189
 go_wp2_with fail
 refine HS.out.mono ?_
 rintro e w1 ⟨rfl,q,rfl⟩
 clear HS
 go_wp2_with fail
 go_ret
 exact⟨by simp;omega,_,rfl⟩
theorem encl_some{p:UInt8→Bool}{z c0:UInt8}{r:Bs}(h:enclN p z (c0::r)≠0):r[spanN p r]? =some z∧enclN p z (c0::r)=spanN p r+2:=by
 unfold enclN at h⊢
 rw[List.tail_cons]at h⊢
 have e:1+spanN p r=spanN p r+1:=by omega
 simp only[e,List.drop_succ_cons]at h⊢
 cases hd:r.drop (spanN p r)with
 |nil=>rw[hd]at h;exact absurd rfl h
 |cons d q=>
  rw[hd]at h
  simp only at h⊢
  by_cases hz:d=z
  ·subst hz
   refine⟨?_,by rw[if_pos rfl]⟩
   have:=congrArg List.head? hd
   rw[List.head?_drop]at this
   exact this
  ·rw[if_neg hz]at h;exact absurd rfl h
theorem measure_c(w:World)(D:Gh)(b o c:Nat)(c0:UInt8)(r:Bs)(n m:Nat)(kd:Int)(hln:n=(c0::r).length)(hcap:n≤c)[hk:Keeps D w][hB:Byt D b o (c0::r)](hn:n≤1099511627776)(hcm:c≤9223372036854775807)(hm:measO (c0::r)=(kd,m))(h0:m≠0):
  Calls prog 159 #[.slice (some ⟨b,o,none⟩) n c] w fun e w'=>e=.returned (.tuple #[.int .i64 kd,.int .i64 m])∧∃q,w'=w.drewN q:=by
 have k0:=Keeps.out (D:=D) (w:=w) _ _ _ (hB.out 0 c0 rfl)
 rw[Nat.add_zero]at k0
 have hz2:(c0.toNat:Int)<256:=by have:=c0.toNat_lt;omega
 have hn0:0<n:=by rw[hln];simp
 have e40:((c0.toNat:Int)==40)=decide (c0=40):=u8_ne c0 40
 have e41:((c0.toNat:Int)==41)=decide (c0=41):=u8_ne c0 41
 have e61:((c0.toNat:Int)==61)=decide (c0=61):=u8_ne c0 61
 have e94:((c0.toNat:Int)==94)=decide (c0=94):=u8_ne c0 94
 have e60:((c0.toNat:Int)==60)=decide (c0=60):=u8_ne c0 60
 have e34:((c0.toNat:Int)==34)=decide (c0=34):=u8_ne c0 34
 simp only[measO]at hm
 by_cases h1:c0=40∨c0=41∨c0=61
 ·rw[if_pos h1]at hm
  cases hm
  clear hB hln
  rcases h1 with rfl|rfl|rfl
  all_goals
   clear e40 e41 e61 e94 e60 e34
   go_enter func159,ntmps159
   go_wp2_with fail
   go_ret2
   exact⟨rfl,0,rfl⟩
 ·rw[if_neg h1]at hm
  simp only[not_or]at h1
  rw[decide_eq_false h1.1]at e40
  rw[decide_eq_false h1.2.1]at e41
  rw[decide_eq_false h1.2.2]at e61
  by_cases h94:c0=94
  ·subst h94
   rw[if_pos rfl]at hm
   cases r with
   |nil=>cases hm;exact absurd rfl h0
   |cons d r=>
    simp only at hm
    by_cases hd:d=94
    ·subst hd
     rw[if_pos rfl]at hm
     cases hm
     have k1:=Keeps.out (D:=D) (w:=w) _ _ _ (hB.out 1 94 rfl)
     have hn1:1<n:=by rw[hln];simp
     clear hB hln h1 e40 e41 e61 e94 e60 e34
     go_enter func159,ntmps159
     go_wp2_with fail
     go_ret2
     exact⟨rfl,0,rfl⟩
    ·rw[if_neg hd]at hm;cases hm;exact absurd rfl h0
  ·rw[if_neg h94]at hm
   rw[decide_eq_false h94]at e94
   by_cases h60:c0=60
   ·rw[if_pos h60]at hm
    rw[decide_eq_true h60]at e60
    obtain⟨rfl,rfl⟩:=Prod.mk.inj hm
    obtain⟨x1,x2⟩:=encl_some h0
    have hE:=encl_c w D 26 iriB 62 (.inl ⟨rfl,rfl⟩) b o c c0 r n _ hln (by omega) hn hcm rfl x1
    rw[x2]
    have HE:=hid hE
    clear hE x1 x2 h0 hm hB hln h1 h94 h60 e34
    go_enter func159,ntmps159
    go_wp2_with fail
    refine HE.out.mono ?_
    rintro e w1 ⟨rfl,q,rfl⟩
    go_wp2_with fail
    go_ret2
    exact⟨rfl,q,rfl⟩
   ·rw[if_neg h60]at hm
    rw[decide_eq_false h60]at e60
    by_cases h34:c0=34
    ·rw[if_pos h34]at hm
     rw[decide_eq_true h34]at e34
     obtain⟨rfl,rfl⟩:=Prod.mk.inj hm
     obtain⟨x1,x2⟩:=encl_some h0
     have hE:=encl_c w D 190 strB 34 (.inr ⟨rfl,rfl⟩) b o c c0 r n _ hln (by omega) hn hcm rfl x1
     rw[x2]
     have HE:=hid hE
     clear hE x1 x2 h0 hm hB hln h1 h94 h60 h34
     go_enter func159,ntmps159
     go_wp2_with fail
     refine HE.out.mono ?_
     rintro e w1 ⟨rfl,q,rfl⟩
     go_wp2_with fail
     go_ret2
     exact⟨rfl,q,rfl⟩
    ·rw[if_neg h34]at hm
     rw[decide_eq_false h34]at e34
     obtain⟨rfl,rfl⟩:=Prod.mk.inj hm
     have hE:=span_c w D 191 owB (by simp) b o c (c0::r) (by omega)
     rw[←hln]at hE
     have HE:=hid hE
     clear hE h0 hm hB hln h1 h94 h60 h34
     go_enter func159,ntmps159
     go_wp2_with fail
     refine HE.out.mono ?_
     rintro e w1 ⟨rfl,q,rfl⟩
     go_wp2_with fail
     go_ret2
     exact⟨rfl,q,rfl⟩
end Go.Proofs.YticgonfhjcaohaaGreatDoor
namespace Go.Proofs.YticgonfhjcaohaaGreatDoor
open Go.RowKit Go.VT _root_.Go.Proofs.Tryz
theorem skipO_c(w:World)(D:Gh)(g b o c n i0:Nat)(bs pre rest:Bs)(v2 v3 v4 v5 v6 v7 v8:Value)[hk:Keeps D w][hB:Byt D b o bs](hln:n=bs.length)(hn:n≤1099511627776)(hat:i0≤n)(he:bs.drop i0=pre++rest)(hp:pre.all blkB=true)(hr:∀x q,rest=x::q→blkB x=false∧x≠35)
  (hX:Box w D g 93 #[.slice (some ⟨b,o,none⟩) n c,.int .i64 i0,v2,v3,v4,v5,v6,v7,v8]):
  Calls prog 158 #[.pointer (some ⟨g,0,none⟩)] w fun e w'=>e=.returned (.tuple #[])∧Cll (some g) w w'∧Box w' D g 93 #[.slice (some ⟨b,o,none⟩) n c,.int .i64 ((i0+pre.length:Nat):Int),v2,v3,v4,v5,v6,v7,v8]:=by
 have hlen:i0+pre.length+rest.length=n:=by
  have:=congrArg List.length he
  simp only[List.length_drop,List.length_append]at this;omega
 have hA:∀i,i<pre.length→∃x,bs[i0+i]? =some x∧blkB x=true:=fun i hi=>by
  refine⟨pre[i],?_,List.all_eq_true.1 hp _ (List.getElem_mem hi)⟩
  rw[←List.getElem?_drop,he,List.getElem?_append_left hi,List.getElem?_eq_getElem hi]
 have hZ:∀x q,rest=x::q→bs[i0+pre.length]? =some x:=fun x q e=>by
  rw[←List.getElem?_drop,he,List.getElem?_append_right (Nat.le_refl _),e];simp
 have hrl:rest=[]∨∃x q,rest=x::q:=by cases rest<;>simp
 obtain⟨L,hL⟩:∃L,L=pre.length:=⟨_,rfl⟩
 rw[←hL]at hA hZ hlen⊢
 have HA:=hid hA
 have HZ:=hid hZ
 have HR:=hid hr
 have HE:=hid hrl
 have HL:=hid hlen
 have hL2:i0+L≤n:=by omega
 clear he hp hr hA hZ hrl hln hL hlen
 go_enter func158,ntmps158
 go_wp2_with fail
 go_loopg [22] L (fun gk v wr=>∃i:Nat,gk+i=L∧Bel (some g) w wr∧Keeps D wr∧Box wr D g 93 #[.slice (some ⟨b,o,none⟩) n c,.int .i64 ((i0+i:Nat):Int),v2,v3,v4,v5,v6,v7,v8])
 case atStart=>exact⟨0,rfl,ii,hk,hX⟩
 case round=>
  obtain⟨i,hgk,hBl,hK,hX⟩:=hrel
  obtain⟨j,hj⟩:∃j,j=i0+i:=⟨_,rfl⟩
  rw[←hj]at hX
  have HJ:=hid hj
  have hjn:j≤n:=by omega
  have c0:wr.cell? ⟨g,0,none⟩=some (.slice (some ⟨b,o,none⟩) n c):=Box.cell (h:=hX) 0
  have c1:wr.cell? ⟨g,1,none⟩=some (.int .i64 (j:Int)):=Box.cell (h:=hX) 1
  have z1:wr.frozen? ⟨g,1,none⟩=false:=(hX.held (i:=1) rfl).2
  have lb:=hX.lt
  by_cases hi:i<L
  ·obtain⟨x,hx,hb⟩:=HA.out i hi
   rw[←hj]at hx
   have hjl:j<n:=by omega
   have k0:=Keeps.out (D:=D) (w:=wr) _ _ _ (hB.out j x hx)
   have hz2:(x.toNat:Int)<256:=by have:=x.toNat_lt;omega
   have hN:Box (wr.setCell ⟨g,1,none⟩ (.int .i64 ((j:Int)+1))) D g 93 #[.slice (some ⟨b,o,none⟩) n c,.int .i64 ((j:Int)+1),v2,v3,v4,v5,v6,v7,v8]:=by simpa using@Box.set_ wr D g 93 _ 1 (.int .i64 ((j:Int)+1)) hX
   have:=hX.off
   have hN2:Bel (some g) w (wr.setCell ⟨g,1,none⟩ (.int .i64 ((j:Int)+1))):=ii
   have hN3:Keeps D (wr.setCell ⟨g,1,none⟩ (.int .i64 ((j:Int)+1))):=ii
   have e9:((x.toNat:Int)==9)=decide (x=9):=u8_ne x 9
   have e10:((x.toNat:Int)==10)=decide (x=10):=u8_ne x 10
   have e13:((x.toNat:Int)==13)=decide (x=13):=u8_ne x 13
   have e32:((x.toNat:Int)==32)=decide (x=32):=u8_ne x 32
   have hb4:x=9∨x=10∨x=13∨x=32:=by simpa[blkB,or_assoc]using hb
   clear hx hj hb
   rcases hb4 with rfl|rfl|rfl|rfl
   all_goals
    clear e9 e10 e13 e32
    go_wp2_with fail
    go_quiet (fail)
    go_wp2_with fail
    go_quiet (fail)
    go_wp2_with fail
    go_roundg (gk-1)
    case measure=>omega
    case rel=>
     have e:(((i0+(i+1):Nat):Int))=(j:Int)+1:=by have:=HJ.out;omega
     refine⟨i+1,by omega,ii,ii,?_⟩
     rw[e]
     simpa using@Box.set_ _ D g 93 _ 1 (.int .i64 ((j:Int)+1)) (@Box.drewN _ D g _ 93 _ (@Box.drewN _ D g _ 93 _ hX))
  ·obtain rfl:i=L:=by omega
   clear hj
   rcases HE.out with hr|⟨x,q,hr⟩
   ·have hjn2:j=n:=by have:=HL.out;rw[hr]at this;have:=HJ.out;simp at*;omega
    have hjl:n≤j:=by omega
    have hX':=hX
    rw[HJ.out]at hX'
    have HX:=hid hX'
    clear hi hjn2 hX' hr
    go_wp2_with fail
    go_quiet (fail)
    go_wp2_with fail
    go_end0
    exact⟨rfl,Bel.c,@Box.drewN _ D g _ 93 _ HX.out⟩
   ·have hx:=HZ.out x q hr
    obtain⟨hb1,hb2⟩:=HR.out x q hr
    rw[←HJ.out]at hx
    have hX':=hX
    rw[HJ.out]at hX'
    have HX:=hid hX'
    clear hX'
    have hjl:j<n:=by have:=HL.out;rw[hr]at this;have:=HJ.out;simp at*;omega
    have k0:=Keeps.out (D:=D) (w:=wr) _ _ _ (hB.out j x hx)
    have hz2:(x.toNat:Int)<256:=by have:=x.toNat_lt;omega
    have e9:((x.toNat:Int)==9)=decide (x=9):=u8_ne x 9
    have e10:((x.toNat:Int)==10)=decide (x=10):=u8_ne x 10
    have e13:((x.toNat:Int)==13)=decide (x=13):=u8_ne x 13
    have e32:((x.toNat:Int)==32)=decide (x=32):=u8_ne x 32
    have e35:((x.toNat:Int)==35)=decide (x=35):=u8_ne x 35
    have hb4:¬x=9∧¬x=10∧¬x=13∧¬x=32:=by simpa[blkB,and_assoc]using hb1
    rw[decide_eq_false hb4.1]at e9
    rw[decide_eq_false hb4.2.1]at e10
    rw[decide_eq_false hb4.2.2.1]at e13
    rw[decide_eq_false hb4.2.2.2]at e32
    rw[decide_eq_false hb2]at e35
    clear hb4 hb1 hb2 hx hr hi
    go_wp2_with fail
    go_quiet (fail)
    go_wp2_with fail
    go_quiet (fail)
    go_wp2_with fail
    refine bodyPost_ret (v:=.tuple #[]) (by simp[results,results158,go_sem]) rfl ?_
    exact⟨rfl,Bel.c,@Box.drewN _ D g _ 93 _ HX.out⟩
end Go.Proofs.YticgonfhjcaohaaGreatDoor
namespace Go.Proofs.YticgonfhjcaohaaGreatDoor
open Go.RowKit Go.VT _root_.Go.Proofs.Tryz
structure OC where
 g:Nat
 b:Nat
 o:Nat
 c:Nat
 n:Nat
 bs:Bs
 mp:Nat
 mi:Nat
 mc:Nat
abbrev OC.ptr(p:OC):Value:=.pointer (some ⟨p.g,0,none⟩)
abbrev orow(p:OC)(i:Int)(av iri:Value)(op:Bool)(ax:Value):Array Value:=#[.slice (some ⟨p.b,p.o,none⟩) p.n p.c,.int .i64 i,av,.map (some p.mp),iri,.bool op,ax,.map (some p.mi),.map (some p.mc)]
theorem hz152:(prog.info? 152).map (·.size)=some (3:Nat):=by kernel_rfl
theorem tok_one(k a:Int)(s:ByteArray):(#[.int .i64 k,.string s,.int .i64 a]:Array Value).all (fun x=>x.oneCell')=true:=by simp[Value.oneCell']
theorem peek_yes(w:World)(D:Gh)(p:OC)(i:Int)(iri:Value)(op:Bool)(ax:Value)(tb:Nat)(k a:Int)(s:ByteArray)[hk:Keeps D w](h0:D tb 0=some (.int .i64 k))(h1:D tb 1=some (.string s))(h2:D tb 2=some (.int .i64 a))(hX:Box w D p.g 93 (orow p i (.slice (some ⟨tb,0,none⟩) 1 1) iri op ax)):
  Calls prog 108 #[p.ptr] w fun e w'=>e=.returned (.agg #[.int .i64 k,.string s,.int .i64 a])∧Cll none w w':=by
 obtain⟨W,hW⟩:∃W,W=w.alloc (.cells #[.int .i64 0,.string ⟨#[]⟩,.int .i64 0] 152):=⟨_,rfl⟩
 have hB:Box W D w.heap.size 152 #[.int .i64 0,.string ⟨#[]⟩,.int .i64 0]:=by rw[hW];exact ii
 have hG:Bel none w W:=by rw[hW];exact ii
 have hK:Keeps D W:=by rw[hW];exact ii
 have hY:Box W D p.g 93 (orow p i (.slice (some ⟨tb,0,none⟩) 1 1) iri op ax):=by rw[hW];exact ii
 have c2:W.cell? ⟨p.g,2,none⟩=some (.slice (some ⟨tb,0,none⟩) 1 1):=Box.cell (h:=hY) 2
 have k0:W.cell? ⟨tb,0,none⟩=some (.int .i64 k):=hK.out _ _ _ h0
 have k1:W.cell? ⟨tb,1,none⟩=some (.string s):=hK.out _ _ _ h1
 have k2:W.cell? ⟨tb,2,none⟩=some (.int .i64 a):=hK.out _ _ _ h2
 have r0:=hB.held (i:=0) rfl
 have r1:=hB.held (i:=1) rfl
 have r2:=hB.held (i:=2) rfl
 have rs:=hB.lt
 clear h0 h1 h2 hX hY
 go_enter func108,ntmps108
 repeat((fail_if_success (with_reducible show Code.wp _ (Code.region 1 _ _) _ _ _));go_step)
 rw[←hW]
 clear hW
 go_wp2_with fail
 exact bodyPost_ret (v:=.agg #[.int .i64 k,.string s,.int .i64 a]) (by simp[results,results108,go_sem,Box.cell (D:=D) (g:=w.heap.size)]) rfl ⟨rfl,Bel.c⟩
theorem newAtO{w:World}{D:Gh}{g:Nat}{t:TypeId}{cs:Array Value}[Keeps D w](h:w.heap.size=g):Box (w.alloc (.cells cs t)) D g t cs:=h▸Box.new w D t cs
theorem neGt'{a b:Nat}(h:a<b):NeX b (some a):=⟨fun e=>by have:=Option.some.inj e;omega⟩
theorem peek_no(w:World)(D:Gh)(p:OC)(i:Nat)(iri:Value)(op:Bool)(ax:Value)(pre s r:Bs)(k:Int)[hk:Keeps D w][hB:Byt D p.b p.o p.bs](hn:p.n=p.bs.length)(hlim:p.n≤p.c∧p.c≤9223372036854775807∧p.n≤1099511627776)(hi:i≤p.n)(hN:Nx (p.bs.drop i) pre k s r)(hX:Box w D p.g 93 (orow p i (.slice none 0 0) iri op ax)):
  Calls prog 108 #[p.ptr] w fun e w'=>∃(a:Int)(D':Gh)(tb:Nat),e=.returned (.agg #[.int .i64 k,.string (str s),.int .i64 a])∧Gro (some p.g) w D w' D'∧D' tb 0=some (.int .i64 k)∧D' tb 1=some (.string (str s))∧D' tb 2=some (.int .i64 a)∧Box w' D' p.g 93 (orow p ((i+pre.length+s.length:Nat):Int) (.slice (some ⟨tb,0,none⟩) 1 1) iri op ax):=by
 obtain⟨heq,hblk,⟨x,q,hs,hx1,hx2⟩,hms⟩:=hN
 obtain⟨W,hW⟩:∃W,W=w.alloc (.cells #[.int .i64 0,.string ⟨#[]⟩,.int .i64 0] 152):=⟨_,rfl⟩
 have hB0:Box W D w.heap.size 152 #[.int .i64 0,.string ⟨#[]⟩,.int .i64 0]:=by rw[hW];exact ii
 have hG:Gr (some p.g) w D W D:=by rw[hW];exact ii
 have hK:Keeps D W:=by rw[hW];exact ii
 have hY:Box W D p.g 93 (orow p i (.slice none 0 0) iri op ax):=by rw[hW];exact ii
 have hgs:p.g<w.heap.size:=hX.lt
 have hoff:=hX.off
 have c2:W.cell? ⟨p.g,2,none⟩=some (.slice none 0 0):=Box.cell (h:=hY) 2
 have hskip:=skipO_c W D p.g p.b p.o p.c _ i p.bs pre (s++r) _ _ _ _ _ _ _ hn hlim.2.2 hi heq hblk (fun y z e=>by rw[hs]at e;cases e;exact⟨hx1,hx2⟩) hY
 have hlen:i+pre.length+s.length≤p.n:=by
  have:=congrArg List.length heq
  simp only[List.length_drop,List.length_append]at this;omega
 obtain⟨j,hj⟩:∃j,j=i+pre.length:=⟨_,rfl⟩
 obtain⟨m,hm⟩:∃m,m=s.length:=⟨_,rfl⟩
 have hm0:m≠0:=by rw[hm,hs];simp
 have hdr:p.bs.drop j=s++r:=by rw[hj,←List.drop_drop,heq,List.drop_left]
 have hB1:Byt D p.b (p.o+j) (x::(q++r)):=by
  have:=hB.drop j;rw[hdr,hs]at this;exact this
 have hB2:Byt D p.b (p.o+j) s:=by
  have:=hB1.take m;rw[hm,hs]at this;simpa[hs]using this
 have hlr:p.n-j=(x::(q++r)).length:=by
  have:=congrArg List.length hdr;rw[hs,List.length_drop]at this;rw[hn];exact this
 have hmeas:=fun(W':World)(_:Keeps D W')=>measure_c W' D p.b (p.o+j) (p.c-j) x (q++r) (p.n-j) m k hlr (by omega) (by omega) (by omega) (by rw[hm,←hms,hs];rfl) hm0
 have hconv:∀(W':World)[Keeps D W'],Sem.run prog (convert 22 9 (.slice (some ⟨p.b,p.o+j,none⟩) s.length (p.c-j))) W'=.ok (.string (str s)) W':=fun W' _=>byt_str (D:=D)
 rw[←hm,←hj]at hlen
 rw[←hj]at hskip
 rw[←hm]at hconv
 have hjn:j<p.n:=by omega
 have hln:=hlim.1
 have hlc:=hlim.2.1
 have hl3:=hlim.2.2
 have hjc:¬p.c=j:=by omega
 have HSK:=hid hskip
 have HME:=hid hmeas
 have HCV:=hid hconv
 have HJ:=hid (show i+pre.length+s.length=j+m from by omega)
 have HN:=hid hn
 clear hn hX heq hblk hs hx1 hx2 hms hskip hmeas hconv hlr hdr hm hj hlim hi
 go_enter func108,ntmps108
 repeat((fail_if_success (with_reducible show Code.wp _ (Code.region 1 _ _) _ _ _));go_step)
 rw[←hW]
 clear hW
 go_wp2_with fail
 refine HSK.out.mono ?_
 rintro e w1 ⟨rfl,hc1,hX1⟩
 have d1:w1.cell? ⟨p.g,1,none⟩=some (.int .i64 (j:Int)):=Box.cell (h:=hX1) 1
 have hK1:Keeps D w1:=ii
 have hG1:Gr (some p.g) w D w1 D:=ii
 have hB4:Box w1 D w.heap.size 152 #[.int .i64 0,.string ⟨#[]⟩,.int .i64 0]:=by
  have:NeX w.heap.size (some p.g):=neGt' hgs
  exact ii
 have hs1:=hB4.lt
 obtain⟨t3,ht3⟩:∃t,t=w1.heap.size:=⟨_,rfl⟩
 obtain⟨W2,hW2⟩:∃W,W=w1.alloc (.cells #[.int .i64 5,.string ⟨#[]⟩,.int .i64 j] 152):=⟨_,rfl⟩
 have hK2:Keeps D W2:=by rw[hW2];exact ii
 have hG2:Gr (some p.g) w D W2 D:=by rw[hW2];exact ii
 have hT2:Box W2 D w.heap.size 152 #[.int .i64 0,.string ⟨#[]⟩,.int .i64 0]:=by rw[hW2];exact ii
 have hX2:Box W2 D p.g 93 (orow p j (.slice none 0 0) iri op ax):=by rw[hW2];exact ii
 have hY2:Box W2 D t3 152 #[.int .i64 5,.string ⟨#[]⟩,.int .i64 j]:=by rw[hW2,ht3];exact ii
 have HW2:=hid hW2
 have HT3:=hid ht3
 clear hB0 hG hK hY hX1 hc1 hB4 hG1 hW2 ht3
 go_wp2_with fail
 rw[←HT3.out,←HW2.out]
 have lt3:p.g<t3∧w.heap.size<t3∧t3<W2.heap.size:=by
  have:=HT3.out;have:=hY2.lt;omega
 have e0:W2.cell? ⟨p.g,0,none⟩=some (.slice (some ⟨p.b,p.o,none⟩) p.n p.c):=Box.cell (h:=hX2) 0
 have e1:W2.cell? ⟨p.g,1,none⟩=some (.int .i64 (j:Int)):=Box.cell (h:=hX2) 1
 have f1:=(hX2.held (i:=1) rfl).2
 have y0:=hY2.held (i:=0) rfl
 have y1:=hY2.held (i:=1) rfl
 have y2:=hY2.held (i:=2) rfl
 clear c2 d1 hs1
 go_quiet (fail)
 go_wp2_with fail
 refine(HME.out _ ii).mono ?_
 rintro e w3 ⟨rfl,q3,rfl⟩
 go_wp2_with fail
 have hmm:m≤p.c-j:=by omega
 have hcv:=HCV.out
 have hof3:=hY2.off
 clear e0 e1 f1
 go_region_law (fail)
 all_goals
  obtain⟨V,hV⟩:∃V,V=((W2.drewN (nq+q3+1)).setCell ⟨t3,0,none⟩ (.int .i64 k)).setCell ⟨t3,1,none⟩ (.string (str s)):=⟨_,rfl⟩
  rw[←hV]
  have n1:New w t3:=⟨by omega⟩
  have n2:NeX p.g (some t3):=⟨fun e=>by have:=Option.some.inj e;omega⟩
  have n3:NeX w.heap.size (some t3):=⟨fun e=>by have:=Option.some.inj e;omega⟩
  have g1:Gr (some p.g) w D V D:=by rw[hV];exact ii
  have x1:Box V D p.g 93 (orow p j (.slice none 0 0) iri op ax):=by rw[hV];exact ii
  have x2:Box V D w.heap.size 152 #[.int .i64 0,.string ⟨#[]⟩,.int .i64 0]:=by rw[hV];exact ii
  have x3:Box V D t3 152 #[.int .i64 k,.string (str s),.int .i64 j]:=by
   rw[hV]
   simpa using@Box.set_ _ D t3 152 _ 1 (.string (str s)) (@Box.set_ _ D t3 152 _ 0 (.int .i64 k) (@Box.drewN _ D t3 (nq+q3+1) 152 _ hY2))
  clear hV y0 y1 y2 hX2 hY2 hT2 hG2 hK2
  have c1:V.cell? ⟨p.g,1,none⟩=some (.int .i64 (j:Int)):=Box.cell (h:=x1) 1
  have z1:=(x1.held (i:=1) rfl).2
  have l1:=x3.lt
  obtain⟨V1,hV1⟩:∃W,W=V.setCell ⟨p.g,1,none⟩ (.int .i64 ((j:Int)+m)):=⟨_,rfl⟩
  have n4:NeX t3 (some p.g):=⟨fun e=>by have:=Option.some.inj e;omega⟩
  have n5:NeX w.heap.size (some p.g):=⟨fun e=>by have:=Option.some.inj e;omega⟩
  have g2:Gr (some p.g) w D V1 D:=by rw[hV1];exact ii
  have a1:Box V1 D p.g 93 (orow p ((j:Int)+m) (.slice none 0 0) iri op ax):=by
   rw[hV1];simpa using@Box.set_ _ D p.g 93 _ 1 (.int .i64 ((j:Int)+m)) x1
  have a2:Box V1 D w.heap.size 152 #[.int .i64 0,.string ⟨#[]⟩,.int .i64 0]:=by rw[hV1];exact ii
  have a3:Box V1 D t3 152 #[.int .i64 k,.string (str s),.int .i64 j]:=by rw[hV1];exact ii
  have HV1:=hid hV1
  clear hV1 x1 x2 x3 g1
  go_wp2_with (first|(((with_reducible show wpList _ _ _ ((⟨some 61,_,_,_,_,_⟩:Oper)::_) _ _);refine stopL ?_);rw[←HV1.out]))
  unfold Stop
  clear c1 z1 HV1
  have d0:V1.cell? ⟨t3,0,none⟩=some (.int .i64 k):=Box.cell (h:=a3) 0
  have d1:V1.cell? ⟨t3,1,none⟩=some (.string (str s)):=Box.cell (h:=a3) 1
  have d2:V1.cell? ⟨t3,2,none⟩=some (.int .i64 j):=Box.cell (h:=a3) 2
  have b2:=a1.held (i:=2) rfl
  have l2:=a3.lt
  have l4:=a1.lt
  have:=g2.keeps
  obtain⟨tb,htb⟩:∃t,t=V1.heap.size:=⟨_,rfl⟩
  obtain⟨V2,hV2⟩:∃W,W=(V1.setCell ⟨p.g,2,none⟩ (.slice (some ⟨tb,0,none⟩) 1 1)).alloc (.cells #[.int .i64 k,.string (str s),.int .i64 j] 152):=⟨_,rfl⟩
  have n6:NeX tb (some p.g):=⟨fun e=>by have:=Option.some.inj e;omega⟩
  have g3:Gr (some p.g) w D V2 D:=by rw[hV2];exact ii
  have b1:Box V2 D p.g 93 (orow p ((j:Int)+m) (.slice (some ⟨tb,0,none⟩) 1 1) iri op ax):=by
   rw[hV2];simpa using@Box.alloc _ D p.g 93 _ (.cells #[.int .i64 k,.string (str s),.int .i64 j] 152) (@Box.set_ _ D p.g 93 _ 2 (.slice (some ⟨tb,0,none⟩) 1 1) a1)
  have e2:Box V2 D w.heap.size 152 #[.int .i64 0,.string ⟨#[]⟩,.int .i64 0]:=by rw[hV2];exact ii
  have e3:Box V2 D tb 152 #[.int .i64 k,.string (str s),.int .i64 j]:=by
   rw[hV2];exact newAtO (by rw[htb];simp)
  have HV2:=hid hV2
  have HTB:=hid htb
  have l3:t3<tb∧tb<V2.heap.size:=by have:=e3.lt;omega
  clear hV2 htb a1 a2 a3 g2
  go_wp2_with (first|(((with_reducible show wpList _ _ _ ((⟨some 68,_,_,_,_,_⟩:Oper)::_) _ _);refine stopL ?_);rw[←HTB.out,←HV2.out]))
  unfold Stop
  clear d0 d1 d2 b2 HV2 HTB l2 l4
  have c2:V2.cell? ⟨p.g,2,none⟩=some (.slice (some ⟨tb,0,none⟩) 1 1):=Box.cell (h:=b1) 2
  have d0:V2.cell? ⟨tb,0,none⟩=some (.int .i64 k):=Box.cell (h:=e3) 0
  have d1:V2.cell? ⟨tb,1,none⟩=some (.string (str s)):=Box.cell (h:=e3) 1
  have d2:V2.cell? ⟨tb,2,none⟩=some (.int .i64 j):=Box.cell (h:=e3) 2
  have r0:=e2.held (i:=0) rfl
  have r1:=e2.held (i:=1) rfl
  have r2:=e2.held (i:=2) rfl
  have rs:=e2.lt
  have:=g3.keeps
  have:=e2.off
  have n7:NeX p.g (some w.heap.size):=⟨fun e=>by have:=Option.some.inj e;omega⟩
  have n8:NeX tb (some w.heap.size):=⟨fun e=>by have:=Option.some.inj e;omega⟩
  go_wp2_with fail
  have gF:Gr (some p.g) w D (((V2.setCell ⟨w.heap.size,0,none⟩ (.int .i64 k)).setCell ⟨w.heap.size,1,none⟩ (.string (str s))).setCell ⟨w.heap.size,2,none⟩ (.int .i64 j)) D:=ii
  have bF:Box (((V2.setCell ⟨w.heap.size,0,none⟩ (.int .i64 k)).setCell ⟨w.heap.size,1,none⟩ (.string (str s))).setCell ⟨w.heap.size,2,none⟩ (.int .i64 j)) D p.g 93 _:=ii
  have tF:Box (((V2.setCell ⟨w.heap.size,0,none⟩ (.int .i64 k)).setCell ⟨w.heap.size,1,none⟩ (.string (str s))).setCell ⟨w.heap.size,2,none⟩ (.int .i64 j)) D tb 152 _:=ii
  have:=gF.keeps
  obtain⟨D',hP,hD⟩:=Box.pub tF
  have e9:((i+pre.length+s.length:Nat):Int)=(j:Int)+m:=by have:=HJ.out;omega
  refine bodyPost_ret (v:=.agg #[.int .i64 k,.string (str s),.int .i64 j]) (by simp[results,results108,go_sem,Box.cell (D:=D) (g:=w.heap.size)]) rfl ⟨j,D',tb,rfl,@Gr.g _ _ _ _ _ (hP.gr (some p.g) w D gF (fun q e=>by have:=Option.some.inj e;omega)),hD 0 _ rfl,hD 1 _ rfl,hD 2 _ rfl,?_⟩
  rw[e9]
  exact hP.box bF (fun e=>by have:=Option.some.inj e;omega)
theorem peek_end(w:World)(D:Gh)(p:OC)(i:Nat)(iri:Value)(op:Bool)(ax:Value)(pre:Bs)[hk:Keeps D w][hB:Byt D p.b p.o p.bs](hn:p.n=p.bs.length)(hlim:p.n≤p.c∧p.c≤9223372036854775807∧p.n≤1099511627776)(hi:i≤p.n)(heq:p.bs.drop i=pre)(hblk:pre.all blkB=true)(hX:Box w D p.g 93 (orow p i (.slice none 0 0) iri op ax)):
  Calls prog 108 #[p.ptr] w fun e w'=>∃(a:Int)(D':Gh)(tb:Nat),e=.returned (.agg #[.int .i64 5,.string ⟨#[]⟩,.int .i64 a])∧Gro (some p.g) w D w' D'∧D' tb 0=some (.int .i64 5)∧D' tb 1=some (.string ⟨#[]⟩)∧D' tb 2=some (.int .i64 a)∧Box w' D' p.g 93 (orow p ((i+pre.length:Nat):Int) (.slice (some ⟨tb,0,none⟩) 1 1) iri op ax):=by
 obtain⟨W,hW⟩:∃W,W=w.alloc (.cells #[.int .i64 0,.string ⟨#[]⟩,.int .i64 0] 152):=⟨_,rfl⟩
 have hB0:Box W D w.heap.size 152 #[.int .i64 0,.string ⟨#[]⟩,.int .i64 0]:=by rw[hW];exact ii
 have hG:Gr (some p.g) w D W D:=by rw[hW];exact ii
 have hK:Keeps D W:=by rw[hW];exact ii
 have hY:Box W D p.g 93 (orow p i (.slice none 0 0) iri op ax):=by rw[hW];exact ii
 have hgs:p.g<w.heap.size:=hX.lt
 have hoff:=hX.off
 have c2:W.cell? ⟨p.g,2,none⟩=some (.slice none 0 0):=Box.cell (h:=hY) 2
 have hskip:=skipO_c W D p.g p.b p.o p.c _ i p.bs pre [] _ _ _ _ _ _ _ hn hlim.2.2 hi (by rw[heq,List.append_nil]) hblk (fun y z e=>by cases e) hY
 have hlen:i+pre.length=p.n:=by
  have:=congrArg List.length heq
  simp only[List.length_drop]at this;omega
 obtain⟨j,hj⟩:∃j,j=p.n:=⟨_,rfl⟩
 have hjn:j=p.n:=hj
 have hln:=hlim.1
 have hlc:=hlim.2.1
 have hl3:=hlim.2.2
 rw[show i+pre.length=j from by omega]at hskip
 have hj1:p.n≤j:=by omega
 have hj2:j≤p.n:=by omega
 have hjs:p.n-j=0:=by omega
 have HSK:=hid hskip
 have HJ:=hid (show i+pre.length=j from by omega)
 clear hn hX heq hblk hskip hj hjn hlim hi hlen
 go_enter func108,ntmps108
 repeat((fail_if_success (with_reducible show Code.wp _ (Code.region 1 _ _) _ _ _));go_step)
 rw[←hW]
 clear hW
 go_wp2_with fail
 refine HSK.out.mono ?_
 rintro e w1 ⟨rfl,hc1,hX1⟩
 have d1:w1.cell? ⟨p.g,1,none⟩=some (.int .i64 (j:Int)):=Box.cell (h:=hX1) 1
 have hK1:Keeps D w1:=ii
 have hG1:Gr (some p.g) w D w1 D:=ii
 have hB4:Box w1 D w.heap.size 152 #[.int .i64 0,.string ⟨#[]⟩,.int .i64 0]:=by
  have:NeX w.heap.size (some p.g):=neGt' hgs
  exact ii
 have hs1:=hB4.lt
 obtain⟨t3,ht3⟩:∃t,t=w1.heap.size:=⟨_,rfl⟩
 obtain⟨W2,hW2⟩:∃W,W=w1.alloc (.cells #[.int .i64 5,.string ⟨#[]⟩,.int .i64 j] 152):=⟨_,rfl⟩
 have hK2:Keeps D W2:=by rw[hW2];exact ii
 have hG2:Gr (some p.g) w D W2 D:=by rw[hW2];exact ii
 have hT2:Box W2 D w.heap.size 152 #[.int .i64 0,.string ⟨#[]⟩,.int .i64 0]:=by rw[hW2];exact ii
 have hX2:Box W2 D p.g 93 (orow p j (.slice none 0 0) iri op ax):=by rw[hW2];exact ii
 have hY2:Box W2 D t3 152 #[.int .i64 5,.string ⟨#[]⟩,.int .i64 j]:=by rw[hW2,ht3];exact ii
 have HW2:=hid hW2
 have HT3:=hid ht3
 clear hB0 hG hK hY hX1 hc1 hB4 hG1 hW2 ht3
 go_wp2_with fail
 rw[←HT3.out,←HW2.out]
 have lt3:p.g<t3∧w.heap.size<t3∧t3<W2.heap.size:=by
  have:=HT3.out;have:=hY2.lt;omega
 have e0:W2.cell? ⟨p.g,0,none⟩=some (.slice (some ⟨p.b,p.o,none⟩) p.n p.c):=Box.cell (h:=hX2) 0
 have e1:W2.cell? ⟨p.g,1,none⟩=some (.int .i64 (j:Int)):=Box.cell (h:=hX2) 1
 have f1:=(hX2.held (i:=1) rfl).2
 have y0:=hY2.held (i:=0) rfl
 have y1:=hY2.held (i:=1) rfl
 have y2:=hY2.held (i:=2) rfl
 clear c2 d1 hs1
 by_cases hjc:p.c=j
 all_goals
  go_quiet (fail)
  obtain⟨V1,hV1⟩:∃V,V=W2.drewN nq:=⟨_,rfl⟩
  rw[←hV1]
  have n1:New w t3:=⟨by omega⟩
  have n2:NeX p.g (some t3):=⟨fun e=>by have:=Option.some.inj e;omega⟩
  have n3:NeX w.heap.size (some t3):=⟨fun e=>by have:=Option.some.inj e;omega⟩
  have n4:NeX t3 (some p.g):=⟨fun e=>by have:=Option.some.inj e;omega⟩
  have n5:NeX w.heap.size (some p.g):=⟨fun e=>by have:=Option.some.inj e;omega⟩
  have g2:Gr (some p.g) w D V1 D:=by rw[hV1];exact ii
  have a1:Box V1 D p.g 93 (orow p (j:Int) (.slice none 0 0) iri op ax):=by rw[hV1];exact ii
  have a2:Box V1 D w.heap.size 152 #[.int .i64 0,.string ⟨#[]⟩,.int .i64 0]:=by rw[hV1];exact ii
  have a3:Box V1 D t3 152 #[.int .i64 5,.string ⟨#[]⟩,.int .i64 j]:=by rw[hV1];exact ii
  clear hV1 y0 y1 y2 hX2 hY2 hT2 hG2 hK2
  have d0:V1.cell? ⟨t3,0,none⟩=some (.int .i64 5):=Box.cell (h:=a3) 0
  have d1:V1.cell? ⟨t3,1,none⟩=some (.string ⟨#[]⟩):=Box.cell (h:=a3) 1
  have d2:V1.cell? ⟨t3,2,none⟩=some (.int .i64 j):=Box.cell (h:=a3) 2
  have b2:=a1.held (i:=2) rfl
  have l2:=a3.lt
  have l4:=a1.lt
  have:=g2.keeps
  obtain⟨tb,htb⟩:∃t,t=V1.heap.size:=⟨_,rfl⟩
  obtain⟨V2,hV2⟩:∃W,W=(V1.setCell ⟨p.g,2,none⟩ (.slice (some ⟨tb,0,none⟩) 1 1)).alloc (.cells #[.int .i64 5,.string ⟨#[]⟩,.int .i64 j] 152):=⟨_,rfl⟩
  have n6:NeX tb (some p.g):=⟨fun e=>by have:=Option.some.inj e;omega⟩
  have g3:Gr (some p.g) w D V2 D:=by rw[hV2];exact ii
  have b1:Box V2 D p.g 93 (orow p (j:Int) (.slice (some ⟨tb,0,none⟩) 1 1) iri op ax):=by
   rw[hV2];simpa using@Box.alloc _ D p.g 93 _ (.cells #[.int .i64 5,.string ⟨#[]⟩,.int .i64 j] 152) (@Box.set_ _ D p.g 93 _ 2 (.slice (some ⟨tb,0,none⟩) 1 1) a1)
  have e2:Box V2 D w.heap.size 152 #[.int .i64 0,.string ⟨#[]⟩,.int .i64 0]:=by rw[hV2];exact ii
  have e3:Box V2 D tb 152 #[.int .i64 5,.string ⟨#[]⟩,.int .i64 j]:=by
   rw[hV2];exact newAtO (by rw[htb];simp)
  have HV2:=hid hV2
  have HTB:=hid htb
  have l3:t3<tb∧tb<V2.heap.size:=by have:=e3.lt;omega
  clear hV2 htb a1 a2 a3 g2
  go_wp2_with (first|(((with_reducible show wpList _ _ _ ((⟨some 68,_,_,_,_,_⟩:Oper)::_) _ _);refine stopL ?_);rw[←HTB.out,←HV2.out]))
  unfold Stop
  clear d0 d1 d2 b2 HV2 HTB l2 l4
  have c2:V2.cell? ⟨p.g,2,none⟩=some (.slice (some ⟨tb,0,none⟩) 1 1):=Box.cell (h:=b1) 2
  have d0:V2.cell? ⟨tb,0,none⟩=some (.int .i64 5):=Box.cell (h:=e3) 0
  have d1:V2.cell? ⟨tb,1,none⟩=some (.string ⟨#[]⟩):=Box.cell (h:=e3) 1
  have d2:V2.cell? ⟨tb,2,none⟩=some (.int .i64 j):=Box.cell (h:=e3) 2
  have r0:=e2.held (i:=0) rfl
  have r1:=e2.held (i:=1) rfl
  have r2:=e2.held (i:=2) rfl
  have rs:=e2.lt
  have:=g3.keeps
  have:=e2.off
  have n7:NeX p.g (some w.heap.size):=⟨fun e=>by have:=Option.some.inj e;omega⟩
  have n8:NeX tb (some w.heap.size):=⟨fun e=>by have:=Option.some.inj e;omega⟩
  go_wp2_with fail
  have gF:Gr (some p.g) w D (((V2.setCell ⟨w.heap.size,0,none⟩ (.int .i64 5)).setCell ⟨w.heap.size,1,none⟩ (.string ⟨#[]⟩)).setCell ⟨w.heap.size,2,none⟩ (.int .i64 j)) D:=ii
  have bF:Box (((V2.setCell ⟨w.heap.size,0,none⟩ (.int .i64 5)).setCell ⟨w.heap.size,1,none⟩ (.string ⟨#[]⟩)).setCell ⟨w.heap.size,2,none⟩ (.int .i64 j)) D p.g 93 _:=ii
  have tF:Box (((V2.setCell ⟨w.heap.size,0,none⟩ (.int .i64 5)).setCell ⟨w.heap.size,1,none⟩ (.string ⟨#[]⟩)).setCell ⟨w.heap.size,2,none⟩ (.int .i64 j)) D tb 152 _:=ii
  have:=gF.keeps
  obtain⟨D',hP,hD⟩:=Box.pub tF
  have e9:((i+pre.length:Nat):Int)=(j:Int):=by have:=HJ.out;omega
  refine bodyPost_ret (v:=.agg #[.int .i64 5,.string ⟨#[]⟩,.int .i64 j]) (by simp[results,results108,go_sem,Box.cell (D:=D) (g:=w.heap.size)]) rfl ⟨j,D',tb,rfl,@Gr.g _ _ _ _ _ (hP.gr (some p.g) w D gF (fun q e=>by have:=Option.some.inj e;omega)),hD 0 _ rfl,hD 1 _ rfl,hD 2 _ rfl,?_⟩
  rw[e9]
  exact hP.box bF (fun e=>by have:=Option.some.inj e;omega)
end Go.Proofs.YticgonfhjcaohaaGreatDoor
