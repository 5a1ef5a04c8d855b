/- TopParsed, part 11. -/
import Derived.Deep.CutBlock
import Derived.Test.YticgonfhjcaohaaGreatDoorP08
set_option maxRecDepth 100000
set_option maxHeartbeats 32000000
namespace Go.Proofs.YticgonfhjcaohaaGreatDoor
open Go.RowKit Go.VT _root_.Go.Proofs.Tryz
class Byt(D:Gh)(b o:Nat)(bs:Bs):Prop where
 out:∀(j:Nat) c,bs[j]? =some c→D b (o+j)=some (.int .u8 (c.toNat:Int))
instance Byt.le(D D':Gh)(b o:Nat)(bs:Bs)[hd:Le D D'][h:Byt D b o bs]:Byt D' b o bs:=⟨fun j c e=>hd.out _ _ _ (h.out j c e)⟩
theorem Byt.drop{D:Gh}{b o:Nat}{bs:Bs}(h:Byt D b o bs)(n:Nat):Byt D b (o+n) (bs.drop n):=⟨fun j c e=>by
 rw[List.getElem?_drop]at e;rw[Nat.add_assoc];exact h.out _ _ e⟩
theorem Byt.take{D:Gh}{b o:Nat}{bs:Bs}(h:Byt D b o bs)(n:Nat):Byt D b o (bs.take n):=⟨fun j c e=>by
 rw[List.getElem?_take]at e;split at e
 ·exact h.out _ _ e
 ·cases e⟩
class Tab(D:Gh)(g:Nat):Prop where
 out:∀c:UInt8,D g c.toNat=some (.int .u8 ((cls c).toNat:Int))
instance Tab.le(D D':Gh)(g:Nat)[hd:Le D D'][h:Tab D g]:Tab D' g:=⟨fun c=>hd.out _ _ _ (h.out c)⟩
theorem runN_cons(c:UInt8)(r:Bs):VT.runN (c::r)=if inW c then VT.runN r+1 else 0:=by
 unfold VT.runN
 rw[List.takeWhile_cons]
 cases h:inW c<;>simp only[inW]at h<;>simp[h]
theorem u8_lt(c:UInt8):c.toNat<256:=c.toNat_lt
theorem clsB(c:UInt8)(k:UInt8):((((cls c).toNat:Nat):Int)==((k.toNat:Nat):Int))=decide (cls c=k):=by
 by_cases h:cls c=k
 ·subst h;simp
 ·have:(cls c).toNat≠k.toNat:=fun e=>h (UInt8.toNat_inj.1 e)
  have:((cls c).toNat:Int)≠(k.toNat:Int):=by omega
  simp[h,this]
theorem runN_le(b:Bs):VT.runN b≤b.length:=by
 unfold VT.runN;exact List.Sublist.length_le (List.takeWhile_sublist _)
theorem run_c(w:World)(D:Gh)(g b o c:Nat)(bs:Bs)[hk:Keeps D w][hT:Tab D g][hB:Byt D b o bs](hn:bs.length≤1099511627776):
  Calls prog 110 #[.pointer (some ⟨g,0,none⟩),.slice (some ⟨b,o,none⟩) bs.length c] w fun e w'=>e=.returned (.int .i64 (VT.runN bs))∧∃q,w'=w.drewN q:=by
 obtain⟨n,hl⟩:∃n,n=bs.length:=⟨_,rfl⟩
 rw[←hl]at hn⊢
 have HL:=hid hl
 clear hl
 go_enter func110,ntmps110
 go_wp2_with fail
 go_loopg [4] n (fun gk v wr=>∃i q:Nat,v=.int .i64 i∧gk+i=n∧wr=w.drewN q∧Hid (VT.runN bs=i+VT.runN (bs.drop i)))
 case atStart=>exact⟨0,0,rfl,rfl,rfl,hid (by simp)⟩
 case round=>
  obtain⟨i,q,rfl,hgk,rfl,HR⟩:=hrel
  by_cases hi:i<n
  ·obtain⟨c0,hc0⟩:∃c0,bs[i]? =some c0:=⟨_,List.getElem?_eq_getElem (by have:=HL.out;omega)⟩
   have k1:=Keeps.out (D:=D) (w:=w) _ _ _ (hB.out i c0 hc0)
   have k2:=Keeps.out (D:=D) (w:=w) _ _ _ (hT.out c0)
   have hu:=u8_lt c0
   have hu2:(c0.toNat:Int)<256:=by omega
   have e3:(((cls c0).toNat:Int)==3)=decide (cls c0=3):=clsB c0 3
   have e4:(((cls c0).toNat:Int)==4)=decide (cls c0=4):=clsB c0 4
   have hdi:(decide ((i:Int)<n))=true:=by simpa using hi
   have hrc:VT.runN (bs.drop i)=if inW c0 then VT.runN (bs.drop (i+1))+1 else 0:=by
    obtain⟨hlt,rfl⟩:=List.getElem?_eq_some_iff.1 hc0
    rw[List.drop_eq_getElem_cons hlt,runN_cons]
   have HC:=hid hrc
   clear hrc hc0
   by_cases h3:cls c0=3
   ·rw[decide_eq_true h3]at e3
    have hin:inW c0=true:=by unfold inW;rw[h3];rfl
    clear h3 e4
    go_wp2_with fail
    go_quiet (fail)
    go_wp2_with fail
    go_roundg (gk-1)
    case measure=>omega
    case rel=>exact⟨i+1,_,by simp,by omega,rfl,hid (by rw[HR.out,HC.out,hin];simp;omega)⟩
   ·rw[decide_eq_false h3]at e3
    by_cases h4:cls c0=4
    ·rw[decide_eq_true h4]at e4
     have hin:inW c0=true:=by unfold inW;rw[h4];rfl
     clear h3 h4
     go_wp2_with fail
     go_quiet (fail)
     go_wp2_with fail
     go_roundg (gk-1)
     case measure=>omega
     case rel=>exact⟨i+1,_,by simp,by omega,rfl,hid (by rw[HR.out,HC.out,hin];simp;omega)⟩
    ·rw[decide_eq_false h4]at e4
     have hin:inW c0=false:=by unfold inW;simp[h3,h4]
     clear h3 h4
     go_wp2_with fail
     go_quiet (fail)
     go_wp2_with fail
     go_ret
     refine⟨?_,_,World.drewN_drewN _ _ _⟩
     rw[HR.out,HC.out,hin];simp
  ·have hdi:(decide ((i:Int)<n))=false:=by simpa using hi
   go_wp2_with fail
   go_quiet (fail)
   go_wp2_with fail
   go_ret
   refine⟨?_,_,World.drewN_drewN _ _ _⟩
   rw[HR.out,List.drop_eq_nil_of_le (by have:=HL.out;omega)];rfl
theorem byt_str{D:Gh}{w:World}[hk:Keeps D w]{b o c:Nat}{bs:Bs}[h:Byt D b o bs]:Sem.run prog (convert 22 9 (.slice (some ⟨b,o,none⟩) bs.length c)) w=.ok (.string (str bs)) w:=by
 change(convert 22 9 (.slice (some ⟨b,o,none⟩) bs.length c)).run prog w=_
 rw[run_convert_bytes_string w 22 9 5 _ _ c underlying22 underlying5 underlying9]
 have hl:(loadCells ⟨b,o,none⟩ bs.length).run prog w=.ok ((bs.map fun u=>(u.toNat:Int)).map (Value.int .u8)).toArray w:=by
  have:=run_loadCells_list (P:=prog) w ⟨b,o,none⟩ (bs.map fun u=>Value.int .u8 (u.toNat:Int)) (fun j v hj=>by
   rw[List.getElem?_map]at hj
   obtain⟨c,hc,rfl⟩:=Option.map_eq_some_iff.1 hj
   rw[Addr.add_lit]
   exact hk.out _ _ _ (h.out j c hc))
  rw[List.length_map]at this
  rw[this]
  simp
 rw[run_bytesToString w _ _ c _ hl,foldl_push_bytes]
 congr 2
 simp only[str,List.map_map]
 have:(fun n:Int=>UInt8.ofNat n.toNat)∘(fun u:UInt8=>(u.toNat:Int))=id:=by funext u;simp
 rw[this,List.map_id]
 simp
def dB(d:Bs):Bool:=decide (1≤d.length)&&decide (d.length≤18)&& !(d.head?==some 48)&&d.all digitB
theorem integerB_eq(b:Bs):integerB b=(b==[48]||dB (if b.head?=some 45 then b.tail else b)):=rfl
theorem dB_nil:dB []=false:=rfl
theorem dB_long{d:Bs}(h:18<d.length):dB d=false:=by
 unfold dB;rw[decide_eq_false (p:=d.length≤18) (by omega)];simp
theorem dB_all{c:UInt8}{r:Bs}(h:(c::r).length≤18)(h0:c≠48):dB (c::r)=(c::r).all digitB:=by
 unfold dB;rw[decide_eq_true (p:=(c::r).length≤18) h]
 have:(some c==some (48:UInt8))=false:=by simpa using h0
 simp only[List.head?_cons,this];simp
theorem u8_eq(c k:UInt8):(((c.toNat:Nat):Int)==((k.toNat:Nat):Int))=decide (c=k):=by
 by_cases h:c=k
 ·subst h;simp
 ·have:c.toNat≠k.toNat:=fun e=>h (UInt8.toNat_inj.1 e)
  have:(c.toNat:Int)≠(k.toNat:Int):=by omega
  simp[h,this]
theorem digit_i(c:UInt8):digitB c=(!(decide ((c.toNat:Int)<48))&& !(decide ((c.toNat:Int)>57))):=by
 rw[Bool.eq_iff_iff];simp[digitB,UInt8.le_iff_toNat_le];omega
theorem integer_c(w:World)(D:Gh)(b o c:Nat)(bs:Bs)[hk:Keeps D w][hB:Byt D b o bs](hne:bs≠[])(hn:bs.length≤1099511627776)(hc:bs.length≤c):
  Calls prog 111 #[.slice (some ⟨b,o,none⟩) bs.length c] w fun e w'=>e=.returned (.bool (integerB bs))∧w'=w:=by
 have HE:=hid (integerB_eq bs)
 have ecv:=byt_str (w:=w) (D:=D) (b:=b) (o:=o) (c:=c) (bs:=bs)
 obtain⟨c0,r,hr⟩:∃c0 r,bs=c0::r:=by cases bs with|nil=>exact absurd rfl hne|cons a b=>exact⟨a,b,rfl⟩
 have k0:w.cell? ⟨b,o,none⟩=some (.int .u8 c0.toNat):=Keeps.out (D:=D) (w:=w) b o _ (by have:=hB.out 0 c0 (by rw[hr];rfl);simpa using this)
 have e45:((c0.toNat:Int)==45)=decide (c0=45):=u8_eq c0 45
 have hlr:bs.length=r.length+1:=by rw[hr];rfl
 have hb48:((str bs).toList==[48])=decide (bs=[48]):=by rw[str_toList];by_cases h:bs=[48]<;>simp[h]
 have hnp:(0:Int)<bs.length:=by omega
 have HR:=hid hr
 by_cases h48:bs=[48]
 ·rw[decide_eq_true h48]at hb48
  have hq:integerB bs=true:=by rw[h48];decide
  have HQ:=hid hq
  clear hq h48 hr HE hlr
  go_enter func111,ntmps111
  go_wp2
  go_ret
  exact⟨by rw[HQ.out];rfl,rfl⟩
 ·rw[decide_eq_false h48]at hb48
  obtain⟨sg,hsg⟩:∃sg,sg=decide (c0=45):=⟨_,rfl⟩
  rw[←hsg]at e45
  have hd:∃(d:Bs)(o' c':Nat),integerB bs=dB d∧Byt D b o' d∧d.length≤c'∧d.length≤bs.length∧(sg=true→o'=o+1∧c=c'+1∧bs.length=d.length+1)∧(sg=false→o'=o∧c=c'∧bs.length=d.length):=by
   have h48':(bs==[48])=false:=by simpa using h48
   rw[HE.out,h48',hr]
   by_cases h45:c0=45
   ·subst h45
    refine⟨r,o+1,c-1,by simp,?_,by omega,by simp,fun _=>⟨rfl,by omega,by simp⟩,fun e=>by rw[hsg]at e;simp at e⟩
    have:=hB.drop 1;rw[hr]at this;exact this
   ·refine⟨c0::r,o,c,by simp[h45],by rw[←hr];exact hB,by simp only[List.length_cons];omega,Nat.le_refl _,fun e=>by rw[hsg]at e;simp[h45]at e,fun _=>⟨rfl,rfl,rfl⟩⟩
  obtain⟨d,o',c',hdB,hBd,hdc,hdl,hT,hF⟩:=hd
  have HD:=hid hdB
  have hcell:∀(j:Nat) x,d[j]? =some x→w.cell? ⟨b,o'+j,none⟩=some (.int .u8 x.toNat):=fun j x e=>Keeps.out (D:=D) (w:=w) _ _ _ (hBd.out j x e)
  have HC:=hid hcell
  obtain⟨m,hm⟩:∃m,m=d.length:=⟨_,rfl⟩
  have HM:=hid hm
  obtain⟨n,hnn⟩:∃n,n=bs.length:=⟨_,rfl⟩
  rw[←hnn]at hn hc hlr hdl hT hF ecv hnp⊢
  rw[←hm]at hdc hdl hT hF
  clear hdB hr hsg HE hnn h48 hlr hcell
  have key:(m=0)∨(18<m)∨∃d0 q,d=d0::q∧m≤18:=by
   rcases d with _|⟨d0,q⟩
   ·exact .inl hm
   ·rcases Nat.lt_or_ge 18 m with h|h
    ·exact .inr (.inl h)
    ·exact .inr (.inr ⟨d0,q,rfl,h⟩)
  rcases key with h0|h18|⟨d0,q,hdq,h18⟩
  ·subst h0
   have hz:d=[]:=List.eq_nil_of_length_eq_zero hm.symm
   have hq:integerB bs=false:=by rw[HD.out,hz,dB_nil]
   have HQ:=hid hq
   clear hq hz hm HM HC
   cases sg
   ·obtain⟨rfl,rfl,rfl⟩:=hF rfl
    exact absurd hnp (by decide)
   ·obtain⟨rfl,rfl,rfl⟩:=hT rfl
    clear hT hF
    go_enter func111,ntmps111
    go_wp2
    all_goals
     go_ret
     exact⟨by rw[HQ.out];rfl,rfl⟩
  ·have hq:integerB bs=false:=by rw[HD.out,dB_long (by omega)]
   have HQ:=hid hq
   have b1:decide ((m:Int)<1)=false:=decide_eq_false (by omega)
   have b2:decide ((18:Int)<(m:Int))=true:=decide_eq_true (by omega)
   clear hq hm HM HC
   cases sg
   ·obtain⟨rfl,rfl,rfl⟩:=hF rfl
    clear hT hF
    go_enter func111,ntmps111
    go_wp2
    go_ret
    exact⟨by rw[HQ.out];rfl,rfl⟩
   ·obtain⟨rfl,rfl,rfl⟩:=hT rfl
    clear hT hF
    go_enter func111,ntmps111
    go_wp2
    go_ret
    exact⟨by rw[HQ.out];rfl,rfl⟩
  ·have b1:decide ((m:Int)<1)=false:=decide_eq_false (by have:d.length=q.length+1:=(by rw[hdq];rfl);omega)
   have b2:decide ((18:Int)<(m:Int))=false:=decide_eq_false (by omega)
   have hmp:(0:Int)<m:=by have:=of_decide_eq_false b1;omega
   have k1:w.cell? ⟨b,o',none⟩=some (.int .u8 d0.toNat):=by have:=HC.out 0 d0 (by rw[hdq];rfl);simpa using this
   have e48:((d0.toNat:Int)==48)=decide (d0=48):=u8_eq d0 48
   by_cases h48:d0=48
   ·have hq:integerB bs=false:=by rw[HD.out,hdq];subst h48;simp[dB]
    have HQ:=hid hq
    rw[decide_eq_true h48]at e48
    clear hq hm HM HC hdq h48
    cases sg
    ·obtain⟨rfl,rfl,rfl⟩:=hF rfl
     clear hT hF k0
     go_enter func111,ntmps111
     go_wp2
     go_ret
     exact⟨by rw[HQ.out];rfl,rfl⟩
    ·obtain⟨rfl,rfl,rfl⟩:=hT rfl
     clear hT hF
     go_enter func111,ntmps111
     go_wp2
     go_ret
     exact⟨by rw[HQ.out];rfl,rfl⟩
   ·have hq:integerB bs=d.all digitB:=by rw[HD.out,hdq,dB_all (by rw[←hdq,←hm];exact h18) h48]
    have HQ:=hid hq
    rw[decide_eq_false h48]at e48
    clear hq hm hdq h48
    cases sg
    ·obtain⟨rfl,rfl,rfl⟩:=hF rfl
     have hcd:(c0.toNat:Int)=d0.toNat:=by have:=k0.symm.trans k1;simpa using this
     rw[hcd]at e45
     clear hT hF k0 hcd
     go_enter func111,ntmps111
     go_wp2_with fail
     go_loopg [30] n (fun gk v wr=>∃i:Nat,v=.int .i64 i∧gk+i=n∧wr=w∧Hid ((d.take i).all digitB=true))
     case atStart=>exact⟨0,rfl,rfl,rfl,hid rfl⟩
     case round=>
      obtain⟨i,rfl,hgk,rfl,HA⟩:=hrel
      by_cases hi:i<n
      ·obtain⟨x,hx⟩:∃x,d[i]? =some x:=⟨_,List.getElem?_eq_getElem (by have:=HM.out;omega)⟩
       have kx:=HC.out i x hx
       have hdg:=digit_i x
       have HX:=hid hx
       clear hx
       by_cases hlo:(x.toNat:Int)<48
       ·have c1:decide ((x.toNat:Int)<48)=true:=decide_eq_true hlo
        rw[c1]at hdg
        have HG:=hid (HQ.out.trans (all_false d digitB i (by have:=HM.out;omega) (by obtain⟨hl,rfl⟩:=List.getElem?_eq_some_iff.1 HX.out;rw[hdg];rfl)))
        clear hlo hdg
        go_wp2_with fail
        go_ret
        exact⟨by rw[HG.out];rfl,rfl⟩
       ·by_cases hhi:(x.toNat:Int)>57
        ·have c1:decide ((x.toNat:Int)<48)=false:=decide_eq_false hlo
         have c2:decide ((57:Int)<(x.toNat:Int))=true:=decide_eq_true hhi
         rw[c1,decide_eq_true hhi]at hdg
         have HG:=hid (HQ.out.trans (all_false d digitB i (by have:=HM.out;omega) (by obtain⟨hl,rfl⟩:=List.getElem?_eq_some_iff.1 HX.out;rw[hdg];rfl)))
         clear hlo hhi hdg
         go_wp2_with fail
         go_ret
         exact⟨by rw[HG.out];rfl,rfl⟩
        ·have c1:decide ((x.toNat:Int)<48)=false:=decide_eq_false hlo
         have c2:decide ((57:Int)<(x.toNat:Int))=false:=decide_eq_false hhi
         rw[c1,decide_eq_false hhi]at hdg
         have HG:=hid hdg
         clear hlo hhi hdg
         go_wp2_with fail
         go_roundg (gk-1)
         case measure=>omega
         case rel=>exact⟨i+1,by simp,by omega,rfl,hid (by obtain⟨hl,rfl⟩:=List.getElem?_eq_some_iff.1 HX.out;rw[all_take d digitB i hl,HA.out,HG.out];rfl)⟩
      ·have hall:integerB bs=true:=by
        rw[HQ.out,←HA.out,List.take_of_length_le (by have:=HM.out;omega)]
       have HQ2:=hid hall
       clear hall
       go_wp2_with fail
       go_ret
       exact⟨by rw[HQ2.out];rfl,rfl⟩
    ·obtain⟨rfl,rfl,rfl⟩:=hT rfl
     clear hT hF
     go_enter func111,ntmps111
     go_wp2_with fail
     go_loopg [30] m (fun gk v wr=>∃i:Nat,v=.int .i64 i∧gk+i=m∧wr=w∧Hid ((d.take i).all digitB=true))
     case atStart=>exact⟨0,rfl,rfl,rfl,hid rfl⟩
     case round=>
      obtain⟨i,rfl,hgk,rfl,HA⟩:=hrel
      by_cases hi:i<m
      ·obtain⟨x,hx⟩:∃x,d[i]? =some x:=⟨_,List.getElem?_eq_getElem (by have:=HM.out;omega)⟩
       have kx:=HC.out i x hx
       have hdg:=digit_i x
       have HX:=hid hx
       clear hx
       by_cases hlo:(x.toNat:Int)<48
       ·have c1:decide ((x.toNat:Int)<48)=true:=decide_eq_true hlo
        rw[c1]at hdg
        have HG:=hid (HQ.out.trans (all_false d digitB i (by have:=HM.out;omega) (by obtain⟨hl,rfl⟩:=List.getElem?_eq_some_iff.1 HX.out;rw[hdg];rfl)))
        clear hlo hdg
        go_wp2_with fail
        go_ret
        exact⟨by rw[HG.out];rfl,rfl⟩
       ·by_cases hhi:(x.toNat:Int)>57
        ·have c1:decide ((x.toNat:Int)<48)=false:=decide_eq_false hlo
         have c2:decide ((57:Int)<(x.toNat:Int))=true:=decide_eq_true hhi
         rw[c1,decide_eq_true hhi]at hdg
         have HG:=hid (HQ.out.trans (all_false d digitB i (by have:=HM.out;omega) (by obtain⟨hl,rfl⟩:=List.getElem?_eq_some_iff.1 HX.out;rw[hdg];rfl)))
         clear hlo hhi hdg
         go_wp2_with fail
         go_ret
         exact⟨by rw[HG.out];rfl,rfl⟩
        ·have c1:decide ((x.toNat:Int)<48)=false:=decide_eq_false hlo
         have c2:decide ((57:Int)<(x.toNat:Int))=false:=decide_eq_false hhi
         rw[c1,decide_eq_false hhi]at hdg
         have HG:=hid hdg
         clear hlo hhi hdg
         go_wp2_with fail
         go_roundg (gk-1)
         case measure=>omega
         case rel=>exact⟨i+1,by simp,by omega,rfl,hid (by obtain⟨hl,rfl⟩:=List.getElem?_eq_some_iff.1 HX.out;rw[all_take d digitB i hl,HA.out,HG.out];rfl)⟩
      ·have hall:integerB bs=true:=by
        rw[HQ.out,←HA.out,List.take_of_length_le (by have:=HM.out;omega)]
       have HQ2:=hid hall
       clear hall
       go_wp2_with fail
       go_ret
       exact⟨by rw[HQ2.out];rfl,rfl⟩
end Go.Proofs.YticgonfhjcaohaaGreatDoor
namespace Go.Proofs.YticgonfhjcaohaaGreatDoor
open Go.RowKit Go.VT _root_.Go.Proofs.Tryz
theorem scan3{c:UInt8}{r:Bs}(hc:cls c=3):scanB (c::r)=(match(c::r).drop (VT.runN (c::r))with|58::d::e=>if d≠95∧cls d=3 then(1,VT.runN (c::r)+1+VT.runN (d::e))else(1,VT.runN (c::r))|_=>(1,VT.runN (c::r))):=by
 rw[scanB.eq_def];simp only[hc,if_true];rfl
theorem scan5{c:UInt8}{r:Bs}(hc:cls c=5):scanB (c::r)=(match r with| []=>(0,1)|d::e=>if d=62 then(3,2)else if cls d≠4 then(0,1)else numB (c::r) (1+VT.runN (d::e))):=by
 rw[scanB.eq_def];simp only[hc];rfl
theorem scan4{c:UInt8}{r:Bs}(hc:cls c=4):scanB (c::r)=numB (c::r) (VT.runN (c::r)):=by
 rw[scanB.eq_def];simp only[hc];rfl
theorem scan6{c:UInt8}{r:Bs}(hc:cls c=6):scanB (c::r)=(3,1):=by
 rw[scanB.eq_def];simp only[hc];rfl
theorem scan0{c:UInt8}{r:Bs}(h3:cls c≠3)(h4:cls c≠4)(h5:cls c≠5)(h6:cls c≠6):scanB (c::r)=(0,1):=by
 rw[scanB.eq_def];simp only[h3,h4,h5,h6,if_false]
theorem runN_pos{c:UInt8}{r:Bs}(h:inW c=true):1≤VT.runN (c::r):=by rw[runN_cons,h];simp
theorem byt_at{w:World}{D:Gh}{b o:Nat}{bs:Bs}[hk:Keeps D w][hB:Byt D b o bs]{j:Nat}{c:UInt8}(h:bs[j]? =some c):w.cell? ⟨b,o+j,none⟩=some (.int .u8 (c.toNat:Int)):=hk.out _ _ _ (hB.out j c h)
theorem tab_at{w:World}{D:Gh}{g:Nat}[hk:Keeps D w][hT:Tab D g](c:UInt8):w.cell? ⟨g,c.toNat,none⟩=some (.int .u8 ((cls c).toNat:Int)):=hk.out _ _ _ (hT.out c)
theorem scan3n{c:UInt8}{r:Bs}(hc:cls c=3)(h:∀d,(c::r)[VT.runN (c::r)]? =some 58→(c::r)[VT.runN (c::r)+1]? =some d→d≠95→cls d=3→False):scanB (c::r)=(1,VT.runN (c::r)):=by
 rw[scan3 hc]
 split
 ·rename_i d e hd
  have h1:(c::r)[VT.runN (c::r)]? =some 58:=by have:=congrArg (fun l=>l[0]?) hd;simpa[List.getElem?_drop]using this
  have h2:(c::r)[VT.runN (c::r)+1]? =some d:=by have:=congrArg (fun l=>l[1]?) hd;simpa[List.getElem?_drop]using this
  by_cases hd9:d≠95∧cls d=3
  ·exact absurd (h d h1 h2 hd9.1 hd9.2) (by simp)
  ·rw[if_neg hd9]
 ·rfl
theorem scan3y{c:UInt8}{r:Bs}(hc:cls c=3){d:UInt8}(h1:(c::r)[VT.runN (c::r)]? =some 58)(h2:(c::r)[VT.runN (c::r)+1]? =some d)(h3:d≠95)(h4:cls d=3):
  scanB (c::r)=(1,VT.runN (c::r)+1+VT.runN ((c::r).drop (VT.runN (c::r)+1))):=by
 rw[scan3 hc]
 obtain⟨l1,e1⟩:=List.getElem?_eq_some_iff.1 h1
 obtain⟨l2,e2⟩:=List.getElem?_eq_some_iff.1 h2
 rw[List.drop_eq_getElem_cons l1,e1,List.drop_eq_getElem_cons l2,e2]
 simp only[h3,h4,ne_eq,not_false_eq_true,and_self,if_true]
theorem drs1(w:World)(a b:Nat):∃q,(w.drewN a).drewN b=w.drewN q:=⟨_,World.drewN_drewN _ _ _⟩
theorem drs2(w:World)(a b c:Nat):∃q,((w.drewN a).drewN b).drewN c=w.drewN q:=⟨_,by rw[World.drewN_drewN,World.drewN_drewN]⟩
theorem drs3(w:World)(a b c d:Nat):∃q,(((w.drewN a).drewN b).drewN c).drewN d=w.drewN q:=⟨_,by rw[World.drewN_drewN,World.drewN_drewN,World.drewN_drewN]⟩
def SRet(w:World)(s:Int×Nat)(e:Ending)(w':World):Prop:=e=.returned (.tuple #[.int .i64 s.1,.int .i64 s.2])∧∃q,w'=w.drewN q
theorem numB_eq(b:Bs)(n:Nat):numB b n=(if integerB (b.take n)then 2 else 0,n):=by unfold numB;split<;>rfl
theorem scan_c(w:World)(D:Gh)(g b o c:Nat)(bs:Bs)[hk:Keeps D w][hT:Tab D g][hB:Byt D b o bs](hne:bs≠[])(hn:bs.length≤1099511627776)(hc:bs.length≤c):
  Calls prog 37 #[.pointer (some ⟨g,0,none⟩),.slice (some ⟨b,o,none⟩) bs.length c] w (SRet w (scanB bs)):=by
 obtain⟨R,hR⟩:∃R,R=scanB bs:=⟨_,rfl⟩
 rw[←hR]
 obtain⟨c0,r,hr⟩:∃c0 r,bs=c0::r:=by cases bs with|nil=>exact absurd rfl hne|cons a b=>exact⟨a,b,rfl⟩
 obtain⟨n,hl⟩:∃n,n=bs.length:=⟨_,rfl⟩
 have hlr:n=r.length+1:=by rw[hl,hr];rfl
 have hnp:(0:Int)<n:=by omega
 have k0:w.cell? ⟨b,o,none⟩=some (.int .u8 c0.toNat):=by have:=byt_at (w:=w) (D:=D) (b:=b) (o:=o) (bs:=bs) (j:=0) (c:=c0) (by rw[hr];rfl);simpa using this
 have t0:=tab_at (w:=w) (D:=D) (g:=g) c0
 have hu:=u8_lt c0
 have hu2:(c0.toNat:Int)<256:=by omega
 have e3:(((cls c0).toNat:Int)==3)=decide (cls c0=3):=clsB c0 3
 have e4:(((cls c0).toNat:Int)==4)=decide (cls c0=4):=clsB c0 4
 have e5:(((cls c0).toNat:Int)==5)=decide (cls c0=5):=clsB c0 5
 have e6:(((cls c0).toNat:Int)==6)=decide (cls c0=6):=clsB c0 6
 have HR:=hid hR
 have HBS:=hid hr
 have HL:=hid hl
 have HLR:=hid hlr
 rw[←hl]at hn hc⊢
 clear hR hr hl hlr
 by_cases h6:cls c0=6
 ·have n3:cls c0≠3:=by rw[h6];decide
  have n4:cls c0≠4:=by rw[h6];decide
  have n5:cls c0≠5:=by rw[h6];decide
  rw[decide_eq_false n3]at e3
  rw[decide_eq_false n4]at e4
  rw[decide_eq_false n5]at e5
  rw[decide_eq_true h6]at e6
  have HN:Hid (R=(3,1)):=hid (by rw[HR.out,HBS.out,scan6 h6])
  clear n3 n4 n5 h6
  go_enter func37,ntmps37
  repeat((fail_if_success (with_reducible show Code.wp _ (Code.seq (Code.region 1 _ _) _) _ _ _));go_step)
  go_wp2_with fail
  go_quiet (fail)
  go_wp2_with fail
  refine bodyPost_ret (v:=.tuple #[_,_]) (by simp[results,results37,go_sem];exact⟨rfl,rfl⟩) rfl ?_
  exact⟨by first|(rw[HN.out];done)|(rw[HN.out];rfl),by first|exact⟨_,rfl⟩|exact drs1 _ _ _|exact drs2 _ _ _ _⟩
 ·rw[decide_eq_false h6]at e6
  by_cases h3:cls c0=3
  ·rw[decide_eq_true h3]at e3
   have hrc:=run_c (w:=w) D g b o c bs (by rw[←HL.out];exact hn)
   have HRC:=hid (fun q=>run_c (w:=w.drewN q) D g b o c bs (by rw[←HL.out];exact hn))
   clear hrc
   obtain⟨n1,hn1⟩:∃n1,n1=VT.runN bs:=⟨_,rfl⟩
   have hle:n1≤n:=by rw[hn1,HL.out];exact runN_le bs
   have HN1:=hid hn1
   have HT3:=hid h3
   have hwr1:IntKind.i64.wrap ((n1:Int)+1)=(n1:Int)+1:=by rw[IntKind.wrap_i64];omega
   clear hn1 e4 e5 e6 h6 h3
   go_enter func37,ntmps37
   repeat((fail_if_success (with_reducible show Code.wp _ (Code.seq (Code.region 1 _ _) _) _ _ _));go_step)
   go_wp2_with fail
   go_quiet (fail)
   go_wp2_with fail
   have hr2:=HRC.out nq
   rw[←HL.out,←HN1.out]at hr2
   refine hr2.mono ?_
   rintro e w1 ⟨rfl,q1,rfl⟩
   clear hr2
   by_cases hlt:n1+1<n
   ·obtain⟨x,hx⟩:∃x,bs[n1]? =some x:=⟨_,List.getElem?_eq_getElem (by have:=HL.out;omega)⟩
    obtain⟨y,hy⟩:∃y,bs[n1+1]? =some y:=⟨_,List.getElem?_eq_getElem (by have:=HL.out;omega)⟩
    have k1:=byt_at (w:=w) (D:=D) (b:=b) (o:=o) hx
    have k2:=byt_at (w:=w) (D:=D) (b:=b) (o:=o) hy
    have t2:=tab_at (w:=w) (D:=D) (g:=g) y
    have huy:=u8_lt y
    have huy2:(y.toNat:Int)<256:=by omega
    have x58:((x.toNat:Int)==58)=decide (x=58):=u8_eq x 58
    have y95:((y.toNat:Int)==95)=decide (y=95):=u8_eq y 95
    have y3:(((cls y).toNat:Int)==3)=decide (cls y=3):=clsB y 3
    have hlt1:n1<n:=by omega
    have hI1:decide ((n1:Int)+1<n)=true:=decide_eq_true (by omega)
    have hI2:(0:Int)≤(n1:Int)+1:=by omega
    have hI3:(n1:Int)+1<n:=by omega
    have HX:=hid hx
    have HY:=hid hy
    clear hx hy
    by_cases h58:x=58
    ·rw[decide_eq_true h58]at x58
     by_cases h95:y=95
     ·rw[decide_eq_true h95]at y95
      have HN:Hid (R=(1,n1)):=hid (by
       rw[HR.out,HN1.out,HBS.out]
       refine scan3n HT3.out fun d h1 h2 h3 h4=>?_
       rw[←HBS.out,←HN1.out,HY.out]at h2
       exact h3 (by rw[←Option.some.inj h2];exact h95))
      subst h95
      replace k2:w.cell? ⟨b,o+(n1+1),none⟩=some (.int .u8 95):=k2
      clear h58 t2 y95 y3 huy huy2
      go_wp2_with fail
      go_quiet (fail)
      go_wp2_with fail
      refine bodyPost_ret (v:=.tuple #[_,_]) (by simp[results,results37,go_sem];exact⟨rfl,rfl⟩) rfl ?_
      exact⟨by first|(rw[HN.out];done)|(rw[HN.out];rfl),by first|exact⟨_,rfl⟩|exact drs1 _ _ _|exact drs2 _ _ _ _⟩
     ·rw[decide_eq_false h95]at y95
      have yp:¬((y.toNat:Int)=95):=by simpa using y95
      by_cases hy3:cls y=3
      ·rw[decide_eq_true hy3]at y3
       have HN:Hid (R=(1,n1+1+VT.runN (bs.drop (n1+1)))):=hid (by
        rw[HR.out,HN1.out,HBS.out]
        exact scan3y HT3.out (by rw[←HBS.out,←HN1.out,HX.out,h58]) (by rw[←HBS.out,←HN1.out];exact HY.out) h95 hy3)
       have hdl:(bs.drop (n1+1)).length=n-(n1+1):=by rw[List.length_drop,←HL.out]
       have HDL:=hid hdl
       have:=hB.drop (n1+1)
       have HRC2:=hid (fun W(hW:Keeps D W)=>by have h:=run_c (hk:=hW) W D g b (o+(n1+1)) (c-(n1+1)) (bs.drop (n1+1)) (by rw[hdl];omega);rw[hdl]at h;exact h)
       have hrl:VT.runN (bs.drop (n1+1))≤n:=Nat.le_trans (runN_le _) (by rw[hdl];omega)
       clear h58 h95 hy3 hdl
       go_wp2_with fail
       go_quiet (fail)
       go_wp2_with fail
       generalize VT.runN (bs.drop (n1+1))=n2 at*
       refine(HRC2.out _ ii).mono ?_
       rintro e w5 ⟨rfl,q5,rfl⟩
       go_wp2_with fail
       refine bodyPost_ret (v:=.tuple #[_,_]) (by simp[results,results37,go_sem];exact⟨rfl,rfl⟩) rfl ?_
       refine⟨?_,by first|exact⟨_,rfl⟩|exact drs1 _ _ _|exact drs2 _ _ _ _⟩
       rw[HN.out]
       congr 4
       simp;omega
      ·rw[decide_eq_false hy3]at y3
       have HN:Hid (R=(1,n1)):=hid (by
        rw[HR.out,HN1.out,HBS.out]
        refine scan3n HT3.out fun d h1 h2 h3 h4=>?_
        rw[←HBS.out,←HN1.out,HY.out]at h2
        exact hy3 (by rw[Option.some.inj h2];exact h4))
       clear h58 h95 hy3
       go_wp2_with fail
       go_quiet (fail)
       go_wp2_with fail
       refine bodyPost_ret (v:=.tuple #[_,_]) (by simp[results,results37,go_sem];exact⟨rfl,rfl⟩) rfl ?_
       exact⟨by first|(rw[HN.out];done)|(rw[HN.out];rfl),by first|exact⟨_,rfl⟩|exact drs1 _ _ _|exact drs2 _ _ _ _⟩
    ·rw[decide_eq_false h58]at x58
     have HN:Hid (R=(1,n1)):=hid (by
      rw[HR.out,HN1.out,HBS.out]
      refine scan3n HT3.out fun d h1 h2 h3 h4=>?_
      rw[←HBS.out,←HN1.out,HX.out]at h1
      exact h58 (Option.some.inj h1))
     clear h58
     go_wp2_with fail
     go_quiet (fail)
     go_wp2_with fail
     refine bodyPost_ret (v:=.tuple #[_,_]) (by simp[results,results37,go_sem];exact⟨rfl,rfl⟩) rfl ?_
     exact⟨by first|(rw[HN.out];done)|(rw[HN.out];rfl),by first|exact⟨_,rfl⟩|exact drs1 _ _ _|exact drs2 _ _ _ _⟩
   ·have hI1:decide ((n1:Int)+1<n)=false:=decide_eq_false (by omega)
    have HN:Hid (R=(1,n1)):=hid (by
     rw[HR.out,HN1.out,HBS.out]
     refine scan3n HT3.out fun d h1 h2 h3 h4=>?_
     rw[←HBS.out,←HN1.out]at h2
     have:=(List.getElem?_eq_some_iff.1 h2).1
     have:=HL.out
     omega)
    go_wp2_with fail
    go_quiet (fail)
    go_wp2_with fail
    refine bodyPost_ret (v:=.tuple #[_,_]) (by simp[results,results37,go_sem];exact⟨rfl,rfl⟩) rfl ?_
    exact⟨by first|(rw[HN.out];done)|(rw[HN.out];rfl),by first|exact⟨_,rfl⟩|exact drs1 _ _ _|exact drs2 _ _ _ _⟩
  ·rw[decide_eq_false h3]at e3
   by_cases h5:cls c0=5
   ·rw[decide_eq_true h5]at e5
    by_cases h1n:n=1
    ·have HN:Hid (R=(0,1)):=hid (by
      have hr0:r=[]:=List.eq_nil_of_length_eq_zero (by have:=HLR.out;omega)
      rw[HR.out,HBS.out,hr0,scan5 h5])
     subst h1n
     clear h3 h5 h6 e4 e6
     go_enter func37,ntmps37
     repeat((fail_if_success (with_reducible show Code.wp _ (Code.seq (Code.region 1 _ _) _) _ _ _));go_step)
     go_wp2_with fail
     go_quiet (fail)
     go_wp2_with fail
     go_quiet (fail)
     go_wp2_with fail
     refine bodyPost_ret (v:=.tuple #[_,_]) (by simp[results,results37,go_sem];exact⟨rfl,rfl⟩) rfl ?_
     exact⟨by first|(rw[HN.out];done)|(rw[HN.out];rfl),by first|exact⟨_,rfl⟩|exact drs1 _ _ _|exact drs2 _ _ _ _⟩
    ·obtain⟨d,r',hr'⟩:∃d r',r=d::r':=by
      rcases hr':r with _|⟨d,r'⟩
      ·have:=HLR.out;rw[hr']at this;simp at this;omega
      ·exact⟨d,r',rfl⟩
     have hd1:bs[1]? =some d:=by rw[HBS.out,hr'];rfl
     have k1:=byt_at (w:=w) (D:=D) (b:=b) (o:=o) hd1
     have t1:=tab_at (w:=w) (D:=D) (g:=g) d
     have hud:=u8_lt d
     have hud2:(d.toNat:Int)<256:=by omega
     have d62:((d.toNat:Int)==62)=decide (d=62):=u8_eq d 62
     have d4:(((cls d).toNat:Int)==4)=decide (cls d=4):=clsB d 4
     have hn1:(1:Int)<n:=by omega
     have hb1:decide ((1:Int)<n)=true:=decide_eq_true hn1
     have hb2:((n:Int)==1)=false:=beq_eq_false_iff_ne.2 (by omega)
     have hb3:¬((n:Int)=1):=by omega
     have HRD:=hid hr'
     have H5:=hid h5
     clear h3 h5 h6 e4 e6 hd1 hr'
     by_cases h62:d=62
     ·have HN:Hid (R=(3,2)):=hid (by rw[HR.out,HBS.out,HRD.out,scan5 H5.out];simp[h62])
      rw[decide_eq_true h62]at d62
      clear h62
      go_enter func37,ntmps37
      repeat((fail_if_success (with_reducible show Code.wp _ (Code.seq (Code.region 1 _ _) _) _ _ _));go_step)
      go_wp2_with fail
      go_quiet (fail)
      go_wp2_with fail
      refine bodyPost_ret (v:=.tuple #[_,_]) (by simp[results,results37,go_sem];exact⟨rfl,rfl⟩) rfl ?_
      exact⟨by first|(rw[HN.out];done)|(rw[HN.out];rfl),by first|exact⟨_,rfl⟩|exact drs1 _ _ _|exact drs2 _ _ _ _⟩
     ·rw[decide_eq_false h62]at d62
      by_cases h4:cls d=4
      ·rw[decide_eq_true h4]at d4
       have hdp:¬((d.toNat:Int)=62):=by simpa using d62
       have hc4:((cls d).toNat:Int)=4:=by simpa using d4
       obtain⟨n2,hn2⟩:∃n2,n2=VT.runN (bs.drop 1):=⟨_,rfl⟩
       have hdl:(bs.drop 1).length=n-1:=by rw[List.length_drop,←HL.out]
       have hle2:n2≤n-1:=by rw[hn2,←hdl];exact runN_le _
       obtain⟨n1,hn1'⟩:∃n1,n1=1+n2:=⟨_,rfl⟩
       have:=hB.drop 1
       have HRC:=hid (fun W(hW:Keeps D W)=>(by have h:=run_c (hk:=hW) W D g b (o+1) (c-1) (bs.drop 1) (by rw[hdl];omega);rw[hdl,←hn2]at h;exact h:Calls prog 110 #[.pointer (some ⟨g,0,none⟩),.slice (some ⟨b,o+1,none⟩) (n-1) (c-1)] W fun e w'=>e=.returned (.int .i64 (n2:Int))∧∃q,w'=W.drewN q))
       have hnum:R=numB bs n1:=by
        have h4':=h4
        rw[HR.out,hn1',hn2,HBS.out,HRD.out,scan5 H5.out];simp[h62,h4']
       have hn1c:(n1:Int)=1+n2:=by omega
       have hn1le:n1≤n:=by omega
       have hpos:1≤n1:=by omega
       have HN1C:=hid hn1c
       have HD62:=hid h62
       clear hn2 hn1' hdl h4 h62 hn1c
       have HN:Hid (R=numB bs n1):=hid hnum
       have hdt:(bs.take n1).length=n1:=by rw[List.length_take,←HL.out];omega
       have hIC:=fun W(hW:Keeps D W)=>(by have h:=integer_c (hk:=hW) (hB:=hB.take n1) W D b o c (bs.take n1) (by intro h;have:=congrArg List.length h;rw[List.length_take,←HL.out]at this;simp at this;omega) (by rw[hdt];omega) (by rw[hdt];omega);rw[hdt]at h;exact h:Calls prog 111 #[.slice (some ⟨b,o,none⟩) n1 c] W fun e w'=>e=.returned (.bool (integerB (bs.take n1)))∧w'=W)
       have HIC:=hid hIC
       have HNB:=hid (numB_eq bs n1)
       clear hIC hdt
       generalize integerB (bs.take n1)=bi at*
       go_enter func37,ntmps37
       repeat((fail_if_success (with_reducible show Code.wp _ (Code.seq (Code.region 1 _ _) _) _ _ _));go_step)
       go_wp2_with fail
       go_quiet (fail)
       go_wp2_with fail
       go_quiet (fail)
       go_wp2_with fail
       refine(HRC.out _ ii).mono ?_
       rintro e w5 ⟨rfl,q5,rfl⟩
       go_wp2_with ((with_reducible show wpList _ _ _ ((⟨some 98,_,_,_,_,_⟩:Oper)::_) _ _);refine stopL ?_)
       rw[←HN1C.out]
       unfold Stop
       go_wp2_with fail
       refine(HIC.out _ ii).mono ?_
       rintro e w7 ⟨rfl,rfl⟩
       cases bi
       ·go_wp2_with fail
        refine bodyPost_ret (v:=.tuple #[_,_]) (by simp[results,results37,go_sem];exact⟨rfl,rfl⟩) rfl ?_
        exact⟨by rw[HN.out,HNB.out];rfl,by first|exact⟨_,rfl⟩|exact drs1 _ _ _|exact drs2 _ _ _ _⟩
       ·go_wp2_with fail
        refine bodyPost_ret (v:=.tuple #[_,_]) (by simp[results,results37,go_sem];exact⟨rfl,rfl⟩) rfl ?_
        exact⟨by rw[HN.out,HNB.out];rfl,by first|exact⟨_,rfl⟩|exact drs1 _ _ _|exact drs2 _ _ _ _⟩
      ·rw[decide_eq_false h4]at d4
       have hdp:¬((d.toNat:Int)=62):=by simpa using d62
       have hc4:¬(((cls d).toNat:Int)=4):=by simpa using d4
       have HN:Hid (R=(0,1)):=hid (by rw[HR.out,HBS.out,HRD.out,scan5 H5.out];simp[h62,h4])
       clear h62 h4
       go_enter func37,ntmps37
       repeat((fail_if_success (with_reducible show Code.wp _ (Code.seq (Code.region 1 _ _) _) _ _ _));go_step)
       go_wp2_with fail
       go_quiet (fail)
       go_wp2_with fail
       go_quiet (fail)
       go_wp2_with fail
       refine bodyPost_ret (v:=.tuple #[_,_]) (by simp[results,results37,go_sem];exact⟨rfl,rfl⟩) rfl ?_
       exact⟨by first|(rw[HN.out];done)|(rw[HN.out];rfl),by first|exact⟨_,rfl⟩|exact drs1 _ _ _|exact drs2 _ _ _ _⟩
   ·rw[decide_eq_false h5]at e5
    by_cases h4:cls c0=4
    ·rw[decide_eq_true h4]at e4
     obtain⟨n1,hn1⟩:∃n1,n1=VT.runN bs:=⟨_,rfl⟩
     have hle:n1≤n:=by rw[hn1,HL.out];exact runN_le bs
     have hpos:1≤n1:=by rw[hn1,HBS.out];exact runN_pos (by unfold inW;rw[h4];rfl)
     have HRC:=hid (fun W(hW:Keeps D W)=>(by have h:=run_c (hk:=hW) W D g b o c bs (by rw[←HL.out];exact hn);rw[←HL.out,←hn1]at h;exact h:Calls prog 110 #[.pointer (some ⟨g,0,none⟩),.slice (some ⟨b,o,none⟩) n c] W fun e w'=>e=.returned (.int .i64 (n1:Int))∧∃q,w'=W.drewN q))
     have hnum:R=numB bs n1:=by rw[HR.out,hn1,HBS.out,scan4 h4]
     clear hn1 h3 h4 h5 h6 e6
     have HN:Hid (R=numB bs n1):=hid hnum
     have hdt:(bs.take n1).length=n1:=by rw[List.length_take,←HL.out];omega
     have hIC:=fun W(hW:Keeps D W)=>(by have h:=integer_c (hk:=hW) (hB:=hB.take n1) W D b o c (bs.take n1) (by intro h;have:=congrArg List.length h;rw[List.length_take,←HL.out]at this;simp at this;omega) (by rw[hdt];omega) (by rw[hdt];omega);rw[hdt]at h;exact h:Calls prog 111 #[.slice (some ⟨b,o,none⟩) n1 c] W fun e w'=>e=.returned (.bool (integerB (bs.take n1)))∧w'=W)
     have HIC:=hid hIC
     have HNB:=hid (numB_eq bs n1)
     clear hIC hdt
     generalize integerB (bs.take n1)=bi at*
     go_enter func37,ntmps37
     repeat((fail_if_success (with_reducible show Code.wp _ (Code.seq (Code.region 1 _ _) _) _ _ _));go_step)
     go_wp2_with fail
     go_quiet (fail)
     go_wp2_with fail
     refine(HRC.out _ ii).mono ?_
     rintro e w5 ⟨rfl,q5,rfl⟩
     go_wp2_with fail
     refine(HIC.out _ ii).mono ?_
     rintro e w7 ⟨rfl,rfl⟩
     cases bi
     ·go_wp2_with fail
      refine bodyPost_ret (v:=.tuple #[_,_]) (by simp[results,results37,go_sem];exact⟨rfl,rfl⟩) rfl ?_
      exact⟨by rw[HN.out,HNB.out];rfl,by first|exact⟨_,rfl⟩|exact drs1 _ _ _|exact drs2 _ _ _ _⟩
     ·go_wp2_with fail
      refine bodyPost_ret (v:=.tuple #[_,_]) (by simp[results,results37,go_sem];exact⟨rfl,rfl⟩) rfl ?_
      exact⟨by rw[HN.out,HNB.out];rfl,by first|exact⟨_,rfl⟩|exact drs1 _ _ _|exact drs2 _ _ _ _⟩
    ·rw[decide_eq_false h4]at e4
     have HN:Hid (R=(0,1)):=hid (by rw[HR.out,HBS.out,scan0 h3 h4 h5 h6])
     clear h3 h4 h5 h6
     go_enter func37,ntmps37
     repeat((fail_if_success (with_reducible show Code.wp _ (Code.seq (Code.region 1 _ _) _) _ _ _));go_step)
     go_wp2_with fail
     go_quiet (fail)
     go_wp2_with fail
     refine bodyPost_ret (v:=.tuple #[_,_]) (by simp[results,results37,go_sem];exact⟨rfl,rfl⟩) rfl ?_
     exact⟨by first|(rw[HN.out];done)|(rw[HN.out];rfl),by first|exact⟨_,rfl⟩|exact drs1 _ _ _|exact drs2 _ _ _ _⟩
end Go.Proofs.YticgonfhjcaohaaGreatDoor
