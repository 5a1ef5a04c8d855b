/- TopParsed, part 21. -/
import Derived.Deep.DeepCutAuto
import Derived.Test.YticgonfhjcaohaaGreatDoorP18
set_option maxRecDepth 100000
set_option maxHeartbeats 32000000
namespace Go.Proofs.YticgonfhjcaohaaGreatDoor
open Go.RowKit Go.VT _root_.Go.Proofs.Tryz
open Go.Sort Go.Shelf Go.Proofs
theorem less_g(W:World)(x y:Pr):∀m os,Calls prog 18 #[.agg #[.int .i64 x.1,.int .i64 x.2],.agg #[.int .i64 y.1,.int .i64 y.2]] (grow (W.drewN m) os) fun e w'=>e=.returned (.int .i64 (cmpP x y))∧∃q os',w'=grow ((grow (W.drewN m) os).drewN q) os':=fun _ _=>(less18_c _ x y).mono fun _ _ h=>⟨h.1,lay_grow h.2⟩
def SymS(w0:World)(g n cap N:Nat):Prop:=∀(w:World)(a m b:Nat),b-a≤N→a<m→m<b→b≤n→SWE w0 g n w→
 Calls prog 120 #[.slice (some ⟨g,0,none⟩) n cap,.int .i64 a,.int .i64 m,.int .i64 b,.func (.func 18) #[] #[]] w fun e w'=>e=.returned (.tuple #[])∧SWE w0 g n w'
theorem sym_a(w0:World)(g n cap:Nat)(R:RowP w0 g n)(hn:n≤1099511627776)(w:World)(a m b:Nat)(ham:a<m)(hmb:m<b)(hbn:b≤n)(h1:m-a=1)(S:SWE w0 g n w):
 Calls prog 120 #[.slice (some ⟨g,0,none⟩) n cap,.int .i64 a,.int .i64 m,.int .i64 b,.func (.func 18) #[] #[]] w fun e w'=>e=.returned (.tuple #[])∧SWE w0 g n w':=by
 have S0:=hid S
 have mixed:prog.follows .mixedOrders=true:=by kernel_rfl
 clear S
 have e1:(m:Int)-(a:Int)=((m-a:Nat):Int):=by omega
 have z1:(((m-a:Nat):Int)==1)=true:=by rw[h1];rfl
 go_enter func120,ntmps120
 repeat((fail_if_success (with_reducible show Code.wp _ (Code.loop _) _ _ _));go_step)
 go_loopg [10,11] (b-m) (fun gk v10 v11 wr=>∃i j:Nat,v10=.int .i64 i∧v11=.int .i64 j∧m≤i∧i≤j∧j≤b∧gk=j-i∧Hid (SWE w0 g n wr))
 case atStart=>exact⟨m,b,rfl,rfl,by omega,by omega,by omega,rfl,S0⟩
 case round=>
  clear S0
  obtain⟨i,j,rfl,rfl,hmi,hij,hjb,rfl,S1⟩:=hrel
  by_cases hlt:i<j
  ·have z2:decide ((i:Int)<j)=true:=decide_eq_true (by omega)
   obtain⟨h,hh⟩:∃h,h=(i+j)/2:=⟨_,rfl⟩
   have hh1:i≤h∧h<j:=by omega
   have e2:((i:Int)+j)/2=(h:Int):=by omega
   clear hh
   have hb1:(h:Int)<(n:Int):=by omega
   have hb2:(a:Int)<(n:Int):=by omega
   obtain⟨x,x0,x1⟩:=swe_test R S1.out (p:=h) (by omega)
   obtain⟨y,y0,y1⟩:=swe_test R S1.out (p:=a) (by omega)
   have hcg:=less_g wr x y
   generalize cmpP x y=cv at hcg
   generalize x.1=xa at*
   generalize x.2=xb at*
   generalize y.1=ya at*
   generalize y.2=yb at*
   clear x y
   have S2:=S1.out.grown
   have SG:=hid S2
   clear S1 S2
   by_cases hcv:cv<0
   ·have z3:decide (cv<0)=true:=decide_eq_true hcv
    go_wp2_with fail
    go_quiet_grown (first|(go_at_call 18;refine Calls.grown_of (hcg _ _)))
    have S3:=hid (SG.out nq osq)
    clear hcg x0 x1 y0 y1
    go_wp2_with fail
    go_roundg (j-(h+1))
    case measure=>omega
    case rel=>exact⟨h+1,j,by simp,rfl,by omega,by omega,by omega,rfl,S3⟩
   ·have z3:decide (cv<0)=false:=decide_eq_false hcv
    go_wp2_with fail
    go_quiet_grown (first|(go_at_call 18;refine Calls.grown_of (hcg _ _)))
    have S3:=hid (SG.out nq osq)
    clear hcg x0 x1 y0 y1
    go_wp2_with fail
    go_roundg (h-i)
    case measure=>omega
    case rel=>exact⟨i,h,rfl,rfl,by omega,by omega,by omega,rfl,S3⟩
  ·obtain rfl:i=j:=by omega
   have z2:decide ((i:Int)<i)=false:=by simp
   have ei:(i:Int)-1=((i-1:Nat):Int):=by omega
   repeat((fail_if_success (with_reducible show Code.wp _ (Code.loop _) _ _ _));go_step)
   go_loopg [13] (i-1-a) (fun gk v wr=>∃k:Nat,v=.int .i64 k∧a≤k∧gk=i-1-k∧Hid (SWE w0 g n wr))
   case atStart=>exact⟨a,rfl,by omega,by omega,S1⟩
   case round=>
    clear S1
    obtain⟨k,rfl,hak,hgk,S2⟩:=hrel
    by_cases hk:k<i-1
    ·have z4:decide ((k:Int)<((i-1:Nat):Int))=true:=decide_eq_true (by omega)
     obtain⟨x0,x1,y0,y1,v2,v3,c0,c1,c2,c3,f0,f1,f2,f3,h2,h3,S3⟩:=swe_swap R S2.out (p:=k) (q:=k+1) (by omega) (by omega)
     clear S2
     have kb:(k:Int)+1<(n:Int):=by omega
     have kb2:(k:Int)<(n:Int):=by omega
     have kt:((k:Int)+1).toNat=k+1:=by omega
     have kp:(0:Int)≤(k:Int)+1:=by omega
     go_wp2_with fail
     go_big_region_o
     go_wp2
     go_roundg (gk-1)
     case measure=>omega
     case rel=>exact⟨k+1,by simp,by omega,by omega,S3⟩
    ·have z4:decide ((k:Int)<((i-1:Nat):Int))=false:=decide_eq_false (by omega)
     go_wp2
     (try simp only[Exit.inBlock,Exit.then])
     exact bodyPost_ret (results_none rfl _ _ _) rfl ⟨rfl,S2.out⟩
theorem sym_b(w0:World)(g n cap:Nat)(R:RowP w0 g n)(hn:n≤1099511627776)(w:World)(a m b:Nat)(ham:a<m)(hmb:m<b)(hbn:b≤n)(h1:¬m-a=1)(h2:b-m=1)(S:SWE w0 g n w):
 Calls prog 120 #[.slice (some ⟨g,0,none⟩) n cap,.int .i64 a,.int .i64 m,.int .i64 b,.func (.func 18) #[] #[]] w fun e w'=>e=.returned (.tuple #[])∧SWE w0 g n w':=by
 have S0:=hid S
 have mixed:prog.follows .mixedOrders=true:=by kernel_rfl
 clear S
 have e1:(m:Int)-(a:Int)=((m-a:Nat):Int):=by omega
 have z1:(((m-a:Nat):Int)==1)=false:=beq_eq_false_iff_ne.2 (by omega)
 have e2':(b:Int)-(m:Int)=((b-m:Nat):Int):=by omega
 have z2':(((b-m:Nat):Int)==1)=true:=by rw[h2];rfl
 go_enter func120,ntmps120
 repeat((fail_if_success (with_reducible show Code.wp _ (Code.loop _) _ _ _));go_step)
 go_loopg [14,15] (m-a) (fun gk v10 v11 wr=>∃i j:Nat,v10=.int .i64 i∧v11=.int .i64 j∧a≤i∧i≤j∧j≤m∧gk=j-i∧Hid (SWE w0 g n wr))
 case atStart=>exact⟨a,m,rfl,rfl,by omega,by omega,by omega,rfl,S0⟩
 case round=>
  clear S0
  obtain⟨i,j,rfl,rfl,hai,hij,hjm,rfl,S1⟩:=hrel
  by_cases hlt:i<j
  ·have z2:decide ((i:Int)<j)=true:=decide_eq_true (by omega)
   obtain⟨h,hh⟩:∃h,h=(i+j)/2:=⟨_,rfl⟩
   have hh1:i≤h∧h<j:=by omega
   have e2:((i:Int)+j)/2=(h:Int):=by omega
   clear hh
   have hb1:(h:Int)<(n:Int):=by omega
   have hb2:(m:Int)<(n:Int):=by omega
   obtain⟨x,x0,x1⟩:=swe_test R S1.out (p:=m) (by omega)
   obtain⟨y,y0,y1⟩:=swe_test R S1.out (p:=h) (by omega)
   have hcg:=less_g wr x y
   generalize cmpP x y=cv at hcg
   generalize x.1=xa at*
   generalize x.2=xb at*
   generalize y.1=ya at*
   generalize y.2=yb at*
   clear x y
   have S2:=S1.out.grown
   have SG:=hid S2
   clear S1 S2
   by_cases hcv:cv<0
   ·have z3:decide (cv<0)=true:=decide_eq_true hcv
    go_wp2_with fail
    go_quiet_grown (first|(go_at_call 18;refine Calls.grown_of (hcg _ _)))
    have S3:=hid (SG.out nq osq)
    clear hcg x0 x1 y0 y1
    go_wp2_with fail
    go_roundg (h-i)
    case measure=>omega
    case rel=>exact⟨i,h,rfl,rfl,by omega,by omega,by omega,rfl,S3⟩
   ·have z3:decide (cv<0)=false:=decide_eq_false hcv
    go_wp2_with fail
    go_quiet_grown (first|(go_at_call 18;refine Calls.grown_of (hcg _ _)))
    have S3:=hid (SG.out nq osq)
    clear hcg x0 x1 y0 y1
    go_wp2_with fail
    go_roundg (j-(h+1))
    case measure=>omega
    case rel=>exact⟨h+1,j,by simp,rfl,by omega,by omega,by omega,rfl,S3⟩
  ·obtain rfl:i=j:=by omega
   have z2:decide ((i:Int)<i)=false:=by simp
   have em:(m:Int)=(m:Int):=rfl
   clear em
   repeat((fail_if_success (with_reducible show Code.wp _ (Code.loop _) _ _ _));go_step)
   go_loopg [17] (m-i) (fun gk v wr=>∃k:Nat,v=.int .i64 k∧i≤k∧k≤m∧gk=k-i∧Hid (SWE w0 g n wr))
   case atStart=>exact⟨m,rfl,by omega,by omega,by omega,S1⟩
   case round=>
    clear S1
    obtain⟨k,rfl,hik,hkm,hgk,S2⟩:=hrel
    by_cases hk:i<k
    ·have z4:decide ((i:Int)<(k:Int))=true:=decide_eq_true (by omega)
     obtain⟨x0,x1,y0,y1,v2,v3,c0,c1,c2,c3,f0,f1,f2,f3,h2,h3,S3⟩:=swe_swap R S2.out (p:=k) (q:=k-1) (by omega) (by omega)
     clear S2
     have ek:(k:Int)-1=((k-1:Nat):Int):=by omega
     have kb:((k-1:Nat):Int)<(n:Int):=by omega
     have kb2:(k:Int)<(n:Int):=by omega
     have z5:decide ((k:Int)>(i:Int))=true:=z4
     go_wp2_with fail
     go_big_region_o
     go_wp2
     go_roundg (gk-1)
     case measure=>omega
     case rel=>exact⟨k-1,rfl,by omega,by omega,by omega,S3⟩
    ·have z4:decide ((i:Int)<(k:Int))=false:=decide_eq_false (by omega)
     go_wp2
     (try simp only[Exit.inBlock,Exit.then])
     exact bodyPost_ret (results_none rfl _ _ _) rfl ⟨rfl,S2.out⟩
theorem sym_gt(w0:World)(g n cap:Nat)(R:RowP w0 g n)(hn:n≤1099511627776)(w:World)(a m b:Nat)(ham:a<m)(hmb:m<b)(hbn:b≤n)(_h1:¬m-a=1)(h2:¬b-m=1)(hgt:(a+b)/2<m)(N:Nat)(hN:b-a≤N+1)(ih:SymS w0 g n cap N)(S:SWE w0 g n w):
 Calls prog 120 #[.slice (some ⟨g,0,none⟩) n cap,.int .i64 a,.int .i64 m,.int .i64 b,.func (.func 18) #[] #[]] w fun e w'=>e=.returned (.tuple #[])∧SWE w0 g n w':=by
 have S0:=hid S
 have mixed:prog.follows .mixedOrders=true:=by kernel_rfl
 clear S
 have e1:(m:Int)-(a:Int)=((m-a:Nat):Int):=by omega
 have IH:=hid ih
 clear ih
 have z1:(((m-a:Nat):Int)==1)=false:=beq_eq_false_iff_ne.2 (by omega)
 have e2':(b:Int)-(m:Int)=((b-m:Nat):Int):=by omega
 have z2':(((b-m:Nat):Int)==1)=false:=beq_eq_false_iff_ne.2 (by omega)
 obtain⟨mid,hmid⟩:∃mid,mid=(a+b)/2:=⟨_,rfl⟩
 have emid:((a:Int)+(b:Int))/2=(mid:Int):=by omega
 rw[←hmid]at hgt
 obtain⟨nn,hnn⟩:∃nn,nn=mid+m:=⟨_,rfl⟩
 have enn:(mid:Int)+(m:Int)=(nn:Int):=by omega
 obtain⟨p0,hp0⟩:∃p0,p0=nn-1:=⟨_,rfl⟩
 have ep0:(nn:Int)-1=(p0:Int):=by omega
 have hmb2:a<mid∧2*mid≤a+b∧a+b≤2*mid+1:=by omega
 obtain⟨hm1,hm2,hm3⟩:=hmb2
 have hnn1:nn≤mid+m∧mid+m≤nn∧p0+1≤nn∧nn≤p0+1:=by omega
 obtain⟨hnn1,hnn2,hnn3,hnn4⟩:=hnn1
 clear hmid hnn hp0
 have zm:decide ((m:Int)>(mid:Int))=true:=decide_eq_true (by omega)
 have zm2:decide ((mid:Int)<(m:Int))=true:=decide_eq_true (by omega)
 obtain⟨s0,hs0⟩:∃s0,s0=nn-b:=⟨_,rfl⟩
 have es0:(nn:Int)-(b:Int)=(s0:Int):=by omega
 have hs1:s0+b≤nn∧nn≤s0+b:=by omega
 obtain⟨hs1,hs2⟩:=hs1
 clear hs0
 go_enter func120,ntmps120
 go_wp2_with fail
 go_loopg [20,21] (mid-s0) (fun gk v10 v11 wr=>∃i j:Nat,v10=.int .i64 i∧v11=.int .i64 j∧s0≤i∧i≤j∧j≤mid∧gk=j-i∧Hid (SWE w0 g n wr))
 case atStart=>exact⟨s0,mid,rfl,rfl,by omega,by omega,by omega,rfl,S0⟩
 case round=>
  clear S0
  obtain⟨i,j,rfl,rfl,hai,hij,hjm,rfl,S1⟩:=hrel
  by_cases hlt:i<j
  ·have z2:decide ((i:Int)<j)=true:=decide_eq_true (by omega)
   obtain⟨h,hh⟩:∃h,h=(i+j)/2:=⟨_,rfl⟩
   have hh1:i≤h∧h<j:=by omega
   have e2:((i:Int)+j)/2=(h:Int):=by omega
   clear hh
   obtain⟨q,hq⟩:∃q,q=p0-h:=⟨_,rfl⟩
   have eph:(p0:Int)-(h:Int)=(q:Int):=by omega
   have hb1:(h:Int)<(n:Int):=by omega
   have hb2:(q:Int)<(n:Int):=by omega
   have hqn:q<n:=by omega
   have hqw:IntKind.i64.wrap (q:Int)=(q:Int):=by rw[IntKind.wrap_i64];omega
   clear hq
   obtain⟨x,x0,x1⟩:=swe_test R S1.out (p:=q) (by omega)
   obtain⟨y,y0,y1⟩:=swe_test R S1.out (p:=h) (by omega)
   have hcg:=less_g wr x y
   generalize cmpP x y=cv at hcg
   generalize x.1=xa at*
   generalize x.2=xb at*
   generalize y.1=ya at*
   generalize y.2=yb at*
   clear x y
   have S2:=S1.out.grown
   have SG:=hid S2
   clear S1 S2
   by_cases hcv:cv<0
   ·have z3:decide (cv<0)=true:=decide_eq_true hcv
    go_wp2_with fail
    go_quiet_grown (first|(go_at_call 18;refine Calls.grown_of (hcg _ _)))
    have S3:=hid (SG.out nq osq)
    clear hcg x0 x1 y0 y1
    go_wp2_with fail
    go_roundg (h-i)
    case measure=>omega
    case rel=>exact⟨i,h,rfl,rfl,by omega,by omega,by omega,rfl,S3⟩
   ·have z3:decide (cv<0)=false:=decide_eq_false hcv
    go_wp2_with fail
    go_quiet_grown (first|(go_at_call 18;refine Calls.grown_of (hcg _ _)))
    have S3:=hid (SG.out nq osq)
    clear hcg x0 x1 y0 y1
    go_wp2_with fail
    go_roundg (j-(h+1))
    case measure=>omega
    case rel=>exact⟨h+1,j,by simp,rfl,by omega,by omega,by omega,rfl,S3⟩
  ·obtain rfl:i=j:=by omega
   have z2:decide ((i:Int)<i)=false:=by simp
   obtain⟨en,hen⟩:∃en,en=nn-i:=⟨_,rfl⟩
   have een:(nn:Int)-(i:Int)=(en:Int):=by omega
   have b1:a≤i∧i≤m∧m≤en∧en≤b∧i≤mid∧mid≤en:=by omega
   obtain⟨b1,b2,b3,b4,b5,b6⟩:=b1
   have hen1:en+i≤nn∧nn≤en+i:=by omega
   clear hen
   repeat((fail_if_success (with_reducible show Code.wp _ (Code.seq (Code.region 39 _ _) _) _ _ _));go_step)
   go_cut [] (fun wx=>Hid (SWE w0 g n wx))
   case first=>
    by_cases hc:i<m∧m<en
    ·have z5:decide ((i:Int)<m)=true:=decide_eq_true (by omega)
     have z6:decide ((m:Int)<en)=true:=decide_eq_true (by omega)
     go_wp2_with fail
     refine(rotate_c w0 _ g n cap i m en R S1.out hc.1 hc.2 (by omega) hn).mono ?_
     rintro e w1 ⟨rfl,SX⟩
     have SY:=hid SX
     clear SX
     go_wp2_with fail
     go_meet
     exact SY
    ·have z5:decide ((i:Int)<m)=false∨(decide ((i:Int)<m)=true∧decide ((m:Int)<en)=false):=by
      by_cases q:i<m
      ·exact .inr ⟨decide_eq_true (by omega),decide_eq_false (by omega)⟩
      ·exact .inl (decide_eq_false (by omega))
     rcases z5 with z5|⟨z5,z6⟩
     all_goals
      go_wp2_with fail
      all_goals(go_meet;exact S1)
   case rest=>
    clear S1
    have T1:=hcut
    clear hcut
    repeat((fail_if_success (with_reducible show Code.wp _ (Code.seq (Code.region 41 _ _) _) _ _ _));go_step)
    go_cut [] (fun wx=>Hid (SWE w0 g n wx))
    case first=>
     by_cases hc:a<i∧i<mid
     ·have z5:decide ((a:Int)<i)=true:=decide_eq_true (by omega)
      have z6:decide ((i:Int)<mid)=true:=decide_eq_true (by omega)
      go_wp2_with fail
      refine(IH.out _ a i mid (by omega) hc.1 hc.2 (by omega) T1.out).mono ?_
      rintro e w1 ⟨rfl,SX⟩
      have SY:=hid SX
      clear SX
      go_wp2_with fail
      go_meet
      exact SY
     ·have z5:decide ((a:Int)<i)=false∨(decide ((a:Int)<i)=true∧decide ((i:Int)<mid)=false):=by
       by_cases q:a<i
       ·exact .inr ⟨decide_eq_true (by omega),decide_eq_false (by omega)⟩
       ·exact .inl (decide_eq_false (by omega))
      rcases z5 with z5|⟨z5,z6⟩
      all_goals
       go_wp2_with fail
       all_goals(go_meet;exact T1)
    case rest=>
     clear T1
     have T2:=hcut
     clear hcut
     by_cases hc:mid<en∧en<b
     ·have z5:decide ((mid:Int)<en)=true:=decide_eq_true (by omega)
      have z6:decide ((en:Int)<b)=true:=decide_eq_true (by omega)
      go_wp2_with fail
      refine(IH.out _ mid en b (by omega) hc.1 hc.2 (by omega) T2.out).mono ?_
      rintro e w1 ⟨rfl,SX⟩
      have SY:=hid SX
      clear SX
      go_wp2_with fail
      go_end0
      exact⟨rfl,SY.out⟩
     ·have z5:decide ((mid:Int)<en)=false∨(decide ((mid:Int)<en)=true∧decide ((en:Int)<b)=false):=by
       by_cases q:mid<en
       ·exact .inr ⟨decide_eq_true (by omega),decide_eq_false (by omega)⟩
       ·exact .inl (decide_eq_false (by omega))
      rcases z5 with z5|⟨z5,z6⟩
      all_goals
       go_wp2_with fail
       all_goals(go_end0;exact⟨rfl,T2.out⟩)
theorem sym_le(w0:World)(g n cap:Nat)(R:RowP w0 g n)(hn:n≤1099511627776)(w:World)(a m b:Nat)(ham:a<m)(hmb:m<b)(hbn:b≤n)(h1:¬m-a=1)(h2:¬b-m=1)(hgt:¬(a+b)/2<m)(N:Nat)(hN:b-a≤N+1)(ih:SymS w0 g n cap N)(S:SWE w0 g n w):
 Calls prog 120 #[.slice (some ⟨g,0,none⟩) n cap,.int .i64 a,.int .i64 m,.int .i64 b,.func (.func 18) #[] #[]] w fun e w'=>e=.returned (.tuple #[])∧SWE w0 g n w':=by
 have S0:=hid S
 have mixed:prog.follows .mixedOrders=true:=by kernel_rfl
 clear S
 have e1:(m:Int)-(a:Int)=((m-a:Nat):Int):=by omega
 have IH:=hid ih
 clear ih
 have z1:(((m-a:Nat):Int)==1)=false:=beq_eq_false_iff_ne.2 (by omega)
 have e2':(b:Int)-(m:Int)=((b-m:Nat):Int):=by omega
 have z2':(((b-m:Nat):Int)==1)=false:=beq_eq_false_iff_ne.2 (by omega)
 obtain⟨mid,hmid⟩:∃mid,mid=(a+b)/2:=⟨_,rfl⟩
 have emid:((a:Int)+(b:Int))/2=(mid:Int):=by omega
 rw[←hmid]at hgt
 obtain⟨nn,hnn⟩:∃nn,nn=mid+m:=⟨_,rfl⟩
 have enn:(mid:Int)+(m:Int)=(nn:Int):=by omega
 obtain⟨p0,hp0⟩:∃p0,p0=nn-1:=⟨_,rfl⟩
 have ep0:(nn:Int)-1=(p0:Int):=by omega
 have hmb2:a<mid∧2*mid≤a+b∧a+b≤2*mid+1:=by omega
 obtain⟨hm1,hm2,hm3⟩:=hmb2
 have hnn1:nn≤mid+m∧mid+m≤nn∧p0+1≤nn∧nn≤p0+1:=by omega
 obtain⟨hnn1,hnn2,hnn3,hnn4⟩:=hnn1
 clear hmid hnn hp0
 have zm:decide ((m:Int)>(mid:Int))=false:=decide_eq_false (by omega)
 have zm2:decide ((mid:Int)<(m:Int))=false:=decide_eq_false (by omega)
 go_enter func120,ntmps120
 go_wp2_with fail
 go_loopg [20,21] (m-a) (fun gk v10 v11 wr=>∃i j:Nat,v10=.int .i64 i∧v11=.int .i64 j∧a≤i∧i≤j∧j≤m∧gk=j-i∧Hid (SWE w0 g n wr))
 case atStart=>exact⟨a,m,rfl,rfl,by omega,by omega,by omega,rfl,S0⟩
 case round=>
  clear S0
  obtain⟨i,j,rfl,rfl,hai,hij,hjm,rfl,S1⟩:=hrel
  by_cases hlt:i<j
  ·have z2:decide ((i:Int)<j)=true:=decide_eq_true (by omega)
   obtain⟨h,hh⟩:∃h,h=(i+j)/2:=⟨_,rfl⟩
   have hh1:i≤h∧h<j:=by omega
   have e2:((i:Int)+j)/2=(h:Int):=by omega
   clear hh
   obtain⟨q,hq⟩:∃q,q=p0-h:=⟨_,rfl⟩
   have eph:(p0:Int)-(h:Int)=(q:Int):=by omega
   have hb1:(h:Int)<(n:Int):=by omega
   have hb2:(q:Int)<(n:Int):=by omega
   have hqn:q<n:=by omega
   have hqw:IntKind.i64.wrap (q:Int)=(q:Int):=by rw[IntKind.wrap_i64];omega
   clear hq
   obtain⟨x,x0,x1⟩:=swe_test R S1.out (p:=q) (by omega)
   obtain⟨y,y0,y1⟩:=swe_test R S1.out (p:=h) (by omega)
   have hcg:=less_g wr x y
   generalize cmpP x y=cv at hcg
   generalize x.1=xa at*
   generalize x.2=xb at*
   generalize y.1=ya at*
   generalize y.2=yb at*
   clear x y
   have S2:=S1.out.grown
   have SG:=hid S2
   clear S1 S2
   by_cases hcv:cv<0
   ·have z3:decide (cv<0)=true:=decide_eq_true hcv
    go_wp2_with fail
    go_quiet_grown (first|(go_at_call 18;refine Calls.grown_of (hcg _ _)))
    have S3:=hid (SG.out nq osq)
    clear hcg x0 x1 y0 y1
    go_wp2_with fail
    go_roundg (h-i)
    case measure=>omega
    case rel=>exact⟨i,h,rfl,rfl,by omega,by omega,by omega,rfl,S3⟩
   ·have z3:decide (cv<0)=false:=decide_eq_false hcv
    go_wp2_with fail
    go_quiet_grown (first|(go_at_call 18;refine Calls.grown_of (hcg _ _)))
    have S3:=hid (SG.out nq osq)
    clear hcg x0 x1 y0 y1
    go_wp2_with fail
    go_roundg (j-(h+1))
    case measure=>omega
    case rel=>exact⟨h+1,j,by simp,rfl,by omega,by omega,by omega,rfl,S3⟩
  ·obtain rfl:i=j:=by omega
   have z2:decide ((i:Int)<i)=false:=by simp
   obtain⟨en,hen⟩:∃en,en=nn-i:=⟨_,rfl⟩
   have een:(nn:Int)-(i:Int)=(en:Int):=by omega
   have b1:a≤i∧i≤m∧m≤en∧en≤b∧i≤mid∧mid≤en:=by omega
   obtain⟨b1,b2,b3,b4,b5,b6⟩:=b1
   have hen1:en+i≤nn∧nn≤en+i:=by omega
   clear hen
   repeat((fail_if_success (with_reducible show Code.wp _ (Code.seq (Code.region 39 _ _) _) _ _ _));go_step)
   go_cut [] (fun wx=>Hid (SWE w0 g n wx))
   case first=>
    by_cases hc:i<m∧m<en
    ·have z5:decide ((i:Int)<m)=true:=decide_eq_true (by omega)
     have z6:decide ((m:Int)<en)=true:=decide_eq_true (by omega)
     go_wp2_with fail
     refine(rotate_c w0 _ g n cap i m en R S1.out hc.1 hc.2 (by omega) hn).mono ?_
     rintro e w1 ⟨rfl,SX⟩
     have SY:=hid SX
     clear SX
     go_wp2_with fail
     go_meet
     exact SY
    ·have z5:decide ((i:Int)<m)=false∨(decide ((i:Int)<m)=true∧decide ((m:Int)<en)=false):=by
      by_cases q:i<m
      ·exact .inr ⟨decide_eq_true (by omega),decide_eq_false (by omega)⟩
      ·exact .inl (decide_eq_false (by omega))
     rcases z5 with z5|⟨z5,z6⟩
     all_goals
      go_wp2_with fail
      all_goals(go_meet;exact S1)
   case rest=>
    clear S1
    have T1:=hcut
    clear hcut
    repeat((fail_if_success (with_reducible show Code.wp _ (Code.seq (Code.region 41 _ _) _) _ _ _));go_step)
    go_cut [] (fun wx=>Hid (SWE w0 g n wx))
    case first=>
     by_cases hc:a<i∧i<mid
     ·have z5:decide ((a:Int)<i)=true:=decide_eq_true (by omega)
      have z6:decide ((i:Int)<mid)=true:=decide_eq_true (by omega)
      go_wp2_with fail
      refine(IH.out _ a i mid (by omega) hc.1 hc.2 (by omega) T1.out).mono ?_
      rintro e w1 ⟨rfl,SX⟩
      have SY:=hid SX
      clear SX
      go_wp2_with fail
      go_meet
      exact SY
     ·have z5:decide ((a:Int)<i)=false∨(decide ((a:Int)<i)=true∧decide ((i:Int)<mid)=false):=by
       by_cases q:a<i
       ·exact .inr ⟨decide_eq_true (by omega),decide_eq_false (by omega)⟩
       ·exact .inl (decide_eq_false (by omega))
      rcases z5 with z5|⟨z5,z6⟩
      all_goals
       go_wp2_with fail
       all_goals(go_meet;exact T1)
    case rest=>
     clear T1
     have T2:=hcut
     clear hcut
     by_cases hc:mid<en∧en<b
     ·have z5:decide ((mid:Int)<en)=true:=decide_eq_true (by omega)
      have z6:decide ((en:Int)<b)=true:=decide_eq_true (by omega)
      go_wp2_with fail
      refine(IH.out _ mid en b (by omega) hc.1 hc.2 (by omega) T2.out).mono ?_
      rintro e w1 ⟨rfl,SX⟩
      have SY:=hid SX
      clear SX
      go_wp2_with fail
      go_end0
      exact⟨rfl,SY.out⟩
     ·have z5:decide ((mid:Int)<en)=false∨(decide ((mid:Int)<en)=true∧decide ((en:Int)<b)=false):=by
       by_cases q:mid<en
       ·exact .inr ⟨decide_eq_true (by omega),decide_eq_false (by omega)⟩
       ·exact .inl (decide_eq_false (by omega))
      rcases z5 with z5|⟨z5,z6⟩
      all_goals
       go_wp2_with fail
       all_goals(go_end0;exact⟨rfl,T2.out⟩)
theorem sym_s(w0:World)(g n cap N:Nat)(R:RowP w0 g n)(hn:n≤1099511627776)(ih:SymS w0 g n cap N):SymS w0 g n cap (N+1):=by
 intro w a m b hN ham hmb hbn S
 by_cases h1:m-a=1
 ·exact sym_a w0 g n cap R hn w a m b ham hmb hbn h1 S
 by_cases h2:b-m=1
 ·exact sym_b w0 g n cap R hn w a m b ham hmb hbn h1 h2 S
 by_cases hgt:(a+b)/2<m
 ·exact sym_gt w0 g n cap R hn w a m b ham hmb hbn h1 h2 hgt N hN ih S
 ·exact sym_le w0 g n cap R hn w a m b ham hmb hbn h1 h2 hgt N hN ih S
theorem sym_c(w0:World)(g n cap:Nat)(R:RowP w0 g n)(hn:n≤1099511627776)(N:Nat):SymS w0 g n cap N:=by
 induction N with
 |zero=>intro w a m b h h1 h2;omega
 |succ N ih=>exact sym_s w0 g n cap N R hn ih
end Go.Proofs.YticgonfhjcaohaaGreatDoor
namespace Go.Proofs.YticgonfhjcaohaaGreatDoor
open Go.RowKit Go.VT _root_.Go.Proofs.Tryz
open Go.Sort Go.Shelf Go.Proofs
theorem stable_c(w0 w:World)(g n cap:Nat)(R:RowP w0 g n)(S:SWE w0 g n w)(hn:n≤1099511627776):
  Calls prog 49 #[.slice (some ⟨g,0,none⟩) n cap,.int .i64 n,.func (.func 18) #[] #[]] w fun e w'=>e=.returned (.tuple #[])∧SWE w0 g n w':=by
 have S0:=hid S
 clear S
 go_enter func49,ntmps49
 repeat((fail_if_success (with_reducible show Code.wp _ (Code.loop _) _ _ _));go_step)
 go_loopg [7,8] (n+20) (fun gk v7 v8 wr=>∃a b:Nat,v7=.int .i64 a∧v8=.int .i64 b∧b≤a+20∧a+20≤b∧a≤n∧gk+a=n+20∧Hid (SWE w0 g n wr))
 case atStart=>exact⟨0,20,rfl,rfl,by omega,by omega,by omega,by omega,S0⟩
 case round=>
  clear S0
  obtain⟨a,b,rfl,rfl,hb1,hb2,han,hgk,S1⟩:=hrel
  by_cases hlt:b≤n
  ·have z1:decide ((b:Int)≤(n:Int))=true:=decide_eq_true (by omega)
   obtain⟨b',hb'⟩:∃b',b'=b+20:=⟨_,rfl⟩
   have eb:(b:Int)+20=(b':Int):=by omega
   have hb3:b'≤b+20∧b+20≤b':=by omega
   obtain⟨hb3,hb4⟩:=hb3
   clear hb'
   go_wp2_with fail
   refine(ins_c w0 wr g n cap a b R S1.out (by omega) hlt hn).mono ?_
   rintro e w1 ⟨rfl,S2⟩
   have S3:=hid S2
   clear S1 S2
   go_wp2_with fail
   go_roundg (gk-20)
   case measure=>omega
   case rel=>exact⟨b,b',rfl,rfl,by omega,by omega,by omega,by omega,S3⟩
  ·have z1:decide ((b:Int)≤(n:Int))=false:=decide_eq_false (by omega)
   go_wp2_with fail
   refine(ins_c w0 wr g n cap a n R S1.out han (Nat.le_refl _) hn).mono ?_
   rintro e w1 ⟨rfl,S2⟩
   have S3:=hid S2
   clear S1 S2 z1
   go_wp2_with fail
   go_loopg [6] (n+1) (fun gk v6 wr=>∃s:Nat,v6=.int .i64 s∧0<s∧s≤2199023255552∧n+1≤gk+s∧Hid (SWE w0 g n wr))
   case atStart=>exact⟨20,rfl,by omega,by omega,by omega,S3⟩
   case round=>
    clear S3
    obtain⟨s,rfl,hs0,hs1,hgs,S4⟩:=hrel
    obtain⟨gk0,hgk0⟩:∃k,k=gk:=⟨_,rfl⟩
    have hgk1:gk0≤gk∧gk≤gk0:=by omega
    clear hgk0
    by_cases hsn:s<n
    ·have z2:decide ((s:Int)<(n:Int))=true:=decide_eq_true (by omega)
     obtain⟨s2,hs2⟩:∃s2,s2=2*s:=⟨_,rfl⟩
     have e2:2*(s:Int)=(s2:Int):=by omega
     have e2':(s:Int)*2=(s2:Int):=by omega
     have hs22:s2≤2*s∧2*s≤s2:=by omega
     obtain⟨hb7,hb8⟩:=hs22
     clear hs2
     repeat((fail_if_success (with_reducible show Code.wp _ (Code.loop _) _ _ _));go_step)
     go_loopg [7,8] n (fun gk v7 v8 wr=>∃a b:Nat,v7=.int .i64 a∧v8=.int .i64 b∧b≤a+2*s∧a+2*s≤b∧a≤n∧gk+a=n∧Hid (SWE w0 g n wr))
     case atStart=>exact⟨0,s2,rfl,rfl,by omega,by omega,by omega,by omega,S4⟩
     case round=>
      clear S4
      obtain⟨a,b,rfl,rfl,hb1,hb2,han,hga,S5⟩:=hrel
      by_cases hbn:b≤n
      ·have z3:decide ((b:Int)≤(n:Int))=true:=decide_eq_true (by omega)
       obtain⟨mm,hmm⟩:∃mm,mm=a+s:=⟨_,rfl⟩
       have es:(a:Int)+(s:Int)=(mm:Int):=by omega
       obtain⟨b',hb'⟩:∃b',b'=b+s2:=⟨_,rfl⟩
       have eb:(b:Int)+(s2:Int)=(b':Int):=by omega
       have hb3:b'≤b+2*s∧b+2*s≤b'∧mm≤a+s∧a+s≤mm:=by omega
       obtain⟨hb3,hb4,hb5,hb6⟩:=hb3
       clear hmm hb'
       go_wp2_with fail
       refine(sym_c w0 g n cap R hn (b-a) _ a mm b (Nat.le_refl _) (by omega) (by omega) hbn S5.out).mono ?_
       rintro e w1 ⟨rfl,S6⟩
       have S7:=hid S6
       clear S5 S6
       go_wp2_with fail
       go_roundg (gk-2*s)
       case measure=>omega
       case rel=>exact⟨b,b',rfl,rfl,by omega,by omega,by omega,by omega,S7⟩
      ·have z3:decide ((b:Int)≤(n:Int))=false:=decide_eq_false (by omega)
       obtain⟨mm,hmm⟩:∃mm,mm=a+s:=⟨_,rfl⟩
       have es:(a:Int)+(s:Int)=(mm:Int):=by omega
       have hb3:mm≤a+s∧a+s≤mm:=by omega
       obtain⟨hb5,hb6⟩:=hb3
       clear hmm
       by_cases hmn:mm<n
       ·have z4:decide ((mm:Int)<(n:Int))=true:=decide_eq_true (by omega)
        go_wp2_with fail
        refine(sym_c w0 g n cap R hn (n-a) _ a mm n (Nat.le_refl _) (by omega) (by omega) (Nat.le_refl _) S5.out).mono ?_
        rintro e w1 ⟨rfl,S6⟩
        have S7:=hid S6
        clear S5 S6
        go_wp2_with fail
        go_roundg (gk0-s)
        case measure=>omega
        case rel=>exact⟨s2,rfl,by omega,by omega,by omega,S7⟩
       ·have z4:decide ((mm:Int)<(n:Int))=false:=decide_eq_false (by omega)
        go_wp2_with fail
        go_roundg (gk0-s)
        case measure=>omega
        case rel=>exact⟨s2,rfl,by omega,by omega,by omega,S5⟩
    ·have z2:decide ((s:Int)<(n:Int))=false:=decide_eq_false (by omega)
     go_wp2_with fail
     go_end0
     exact⟨rfl,S4.out⟩
theorem flat_prow(d:Array Pr):(flatK prow 2 d).toList=d.toList.flatMap prow:=by
 apply List.ext_getElem?
 intro t
 have hl:(d.toList.flatMap prow).length=d.size*2:=by rw[prow_len];simp
 have pat:∀(xs:List Pr)(j:Nat)(x:Pr),xs[j]? =some x→∀i u,(prow x)[i]? =some u→(xs.flatMap prow)[j*2+i]? =some u:=by
  intro xs
  induction xs with
  |nil=>intro j x h;simp at h
  |cons y r ih=>
   intro j x h i u hu
   have hi:i<2:=by
    rcases Nat.lt_or_ge i 2 with hi|hi
    ·exact hi
    ·rw[List.getElem?_eq_none (by simpa[prow]using hi)]at hu;cases hu
   rw[List.flatMap_cons]
   cases j with
   |zero=>
    obtain rfl:y=x:=by simpa using h
    rw[List.getElem?_append_left (by simp[prow];omega),Nat.zero_mul,Nat.zero_add];exact hu
   |succ j=>
    rw[List.getElem?_append_right (by simp[prow];omega)]
    have e:(j+1)*2+i-(prow y).length=j*2+i:=by simp[prow];omega
    rw[e];exact ih j x (by simpa using h) i u hu
 rcases Nat.lt_or_ge t (d.size*2)with ht|ht
 ·have h7:t/2<d.size:=by omega
  have e1:=pat d.toList (t/2) d[t/2] (by simp[h7]) (t%2) (prow d[t/2])[t%2]! (by
   have:t%2<(prow d[t/2]).length:=by simp[prow];omega
   rw[List.getElem?_eq_getElem this];congr 1;exact(getElem!_pos (prow d[t/2]) (t%2) this).symm)
  rw[show t/2*2+t%2=t by omega]at e1
  rw[e1,Array.getElem?_toList,Array.getElem?_eq_getElem (by simpa using ht)]
  have:=get_flatK prow 2 d t ht
  rw[getElem!_pos (flatK prow 2 d) t (by simpa using ht)]at this
  rw[this,getElem!_pos d (t/2) h7]
 ·rw[List.getElem?_eq_none (by simpa using ht),List.getElem?_eq_none (by omega)]
theorem prow_one(x:Pr):∀v∈prow x,v.oneCell'=true:=by
 intro v hv
 simp only[prow,List.mem_cons,List.not_mem_nil,or_false]at hv
 rcases hv with rfl|rfl<;>rfl
theorem sortP_c(w:World)(D:Gh)[hk:Keeps D w](B n:Nat)(v:Value)(ps:List Pr)(hO:Own w D B 50 2 v n (ps.flatMap prow))(hn:n≤1099511627776):
  Calls prog 17 #[v,.func (.func 18) #[] #[]] w fun e w'=>e=.returned (.tuple #[])∧∃ps':List Pr,Own w' D B 50 2 v n (ps'.flatMap prow)∧Cll v.ownBlock w w':=by
 have hl:n=ps.length:=by have:=hO.own.1;rw[prow_len]at this;omega
 rcases hO.own.2 with⟨rfl,rfl⟩|⟨g,cap,cur,rfl,hB,hh,h1,h2,h3,h4⟩
 ·obtain rfl:ps=[]:=List.eq_nil_of_length_eq_zero hl.symm
  clear hl
  have i0:Calls prog 119 #[.slice none 0 0,.int .i64 0,.int .i64 0,.func (.func 18) #[] #[]] w fun e w'=>e=.returned (.tuple #[])∧w'=w:=by
   go_enter func119,ntmps119
   go_wp2_with fail
   go_loopg [8] 0 (fun _ v wr=>v=.int .i64 1∧wr=w)
   case atStart=>exact⟨rfl,rfl⟩
   case round=>
    obtain⟨rfl,rfl⟩:=hrel
    go_wp2_with fail
    go_end0
    exact⟨rfl,rfl⟩
  have s0:Calls prog 49 #[.slice none 0 0,.int .i64 0,.func (.func 18) #[] #[]] w fun e w'=>e=.returned (.tuple #[])∧w'=w:=by
   go_enter func49,ntmps49
   go_wp2_with fail
   go_loopg [7,8] 0 (fun _ v u wr=>v=.int .i64 0∧u=.int .i64 20∧wr=w)
   case atStart=>exact⟨rfl,rfl,rfl⟩
   case round=>
    obtain⟨rfl,rfl,rfl⟩:=hrel
    go_wp2_with fail
    refine i0.mono ?_
    rintro e w' ⟨rfl,rfl⟩
    go_wp2_with fail
    go_loopg [6] 0 (fun _ v wr=>v=.int .i64 20∧wr=w')
    case atStart=>exact⟨rfl,rfl⟩
    case round=>
     obtain⟨rfl,rfl⟩:=hrel
     go_wp2_with fail
     go_end0
     exact⟨rfl,rfl⟩
  go_enter func17,ntmps17
  go_wp2_with fail
  refine s0.mono ?_
  rintro e w' ⟨rfl,rfl⟩
  go_wp2_with fail
  go_end0
  exact⟨rfl,[],hO,⟨Bl.refl _ _⟩⟩
 ·have hoff:Off D g:=hO.off.out g rfl
  have hsz:ps.toArray.size=n:=by rw[hl];simp
  have hcur:cur.toList.take (n*2)=(flatK prow 2 ps.toArray).toList:=by rw[h4,flat_prow]
  have hg:g<w.heap.size:=(Array.getElem?_eq_some_iff.1 hh).1
  have hH:HoldsK prow 2 w g 0 ps.toArray:=by
   intro j hj
   rw[size_flatK,hsz]at hj
   refine⟨?_,by simp[World.frozen?,hh]⟩
   have e1:(cur.toList.take (n*2))[j]? =(flatK prow 2 ps.toArray).toList[j]? :=by rw[hcur]
   rw[List.getElem?_take_of_lt hj]at e1
   simp only[World.cell?,hh,Nat.zero_add]
   simp only[Option.isSome_none,Bool.false_eq_true,if_false]
   rw[←Array.getElem?_toList,e1,Array.getElem?_toList]
   have hj2:j<(flatK prow 2 ps.toArray).size:=by rw[size_flatK,hsz];exact hj
   rw[Array.getElem?_eq_getElem hj2,getElem!_pos (flatK prow 2 ps.toArray) j hj2];rfl
  have hR:RowK prow 2 w g 0 ps.toArray:={hk:=fun _=>rfl,h1:=prow_one,hH:=hH,hblk:=hg}
  have R:RowP w g n:=⟨ps.toArray,hsz,hR⟩
  have S:SWE w g n w:=⟨ps.toArray,hsz,SWK.start hH⟩
  have KEY:=hid (stable_c w w g n cap R S hn)
  clear hl hR R S hH hsz hcur
  go_enter func17,ntmps17
  go_wp2_with fail
  refine KEY.out.mono ?_
  rintro e w' ⟨rfl,d',hd',m,os,rfl⟩
  go_wp2_with fail
  go_end0
  refine⟨rfl,d'.toList,⟨⟨?_,.inr ⟨g,cap,_,rfl,hB,heapK d' hh,h1,h2,?_,?_⟩⟩,hO.off⟩,⟨grownK d'⟩⟩
  ·rw[prow_len];simp[hd']
  ·simp[putCells,h3]
  ·have:=take_put cur (flatK prow 2 d') (by rw[size_flatK,hd',h3];exact Nat.mul_le_mul_right _ h1)
   rw[size_flatK,hd']at this
   rw[this,flat_prow]
end Go.Proofs.YticgonfhjcaohaaGreatDoor
