/- TopParsed, part 14. -/
import Derived.Lib.SlBytesConst
import Derived.Deep.DrawnRows
import Derived.Test.YticgonfhjcaohaaGreatDoorP11
set_option maxRecDepth 100000
set_option maxHeartbeats 32000000
namespace Go.Proofs.YticgonfhjcaohaaGreatDoor
open Go.RowKit Go.VT _root_.Go.Proofs.Tryz
def tabF(us:List (Nat×Nat))(c:Nat):Nat:=us.foldl (fun v p=>if p.1=c then p.2 else v) 0
def tabA(us:List (Nat×Nat)):Array Value:=Array.ofFn (n:=256) fun i=>Value.int .u8 (tabF us i.val:Nat)
theorem tabA_size(us:List (Nat×Nat)):(tabA us).size=256:=by simp[tabA]
theorem tabA_get(us:List (Nat×Nat)){c:Nat}(h:c<256):(tabA us)[c]? =some (.int .u8 (tabF us c:Nat)):=by
 rw[Array.getElem?_eq_getElem (by rw[tabA_size];exact h)];simp[tabA]
theorem tabA_set(us:List (Nat×Nat)){c k:Nat}:(tabA us).setIfInBounds c (.int .u8 (k:Nat))=tabA (us++[(c,k)]):=by
 have hf:∀i,tabF (us++[(c,k)]) i=if c=i then k else tabF us i:=fun i=>by simp[tabF,List.foldl_append]
 apply Array.ext_getElem?
 intro i
 rw[Array.getElem?_setIfInBounds,tabA_size]
 rcases Nat.lt_or_ge i 256 with hi|hi
 ·rw[tabA_get _ hi,tabA_get _ hi,hf]
  by_cases h:c=i
  ·subst h;simp[hi]
  ·simp[h]
 ·rw[Array.getElem?_eq_none (by rw[tabA_size];exact hi),Array.getElem?_eq_none (by rw[tabA_size];exact hi)]
  by_cases h:c=i
  ·subst h;simp;omega
  ·simp[h]
theorem tabA_one(us:List (Nat×Nat)):(tabA us).all (·.oneCell')=true:=by
 rw[Array.all_eq_true]
 intro i hi
 simp[tabA,Value.oneCell']
theorem zero94(w:World):(zeroValue 94).run prog w=.ok (.agg (tabA [])) w:=by kernel_rfl
theorem wp_alloc_row{P:Program}{ops:Array Oper}{rest:List Oper}{o:Oper}{a:Act}{w:World}{Q:Exit→Act→World→Prop}(hgd:o.guard=none)(t:TypeId)(ho:o.op=.alloc t){cs:Array Value}(hz:∀w,(zeroValue t).run P w=.ok (.agg cs) w)
  (h:wpList P ops Q rest (a.put o.dst (.pointer (some ⟨w.heap.size,0,none⟩))) (w.alloc (.cells cs t))):wpList P ops Q (o::rest) a w:=by
 refine wpList_plain hgd fun K hK=>?_
 unfold Oper.wp execOp
 simp only[ho,Instr.alloc,Sem.run_bind,Sem.run_pure,Result.andThen_ok,hz]
 simp[newVar,Value.cells]
 exact hK _ _ h
theorem hz94:(prog.info? 94).map (·.size)=some (256:Nat):=by kernel_rfl
def us1:List (Nat×Nat):=[(32,1),(9,1),(10,1),(13,1)]
def us2(n:Nat):List (Nat×Nat):=(List.range n).flatMap fun k=>[(97+k,3),(k+65,3)]
def us3(n:Nat):List (Nat×Nat):=(List.range n).map fun k=>(48+k,4)
def us4:List (Nat×Nat):=[(40,6),(41,6),(91,6),(93,6),(123,6),(125,6),(44,6),(46,6),(60,6),(61,6),(124,6),(63,6)]
def usAll:List (Nat×Nat):=us1++us2 26++us3 10++us4++[(95,3),(35,2),(45,5)]
theorem tab_cls(c:UInt8):tabF usAll c.toNat=(cls c).toNat:=by
 have:=all_u8 (fun c=>tabF usAll c.toNat==(cls c).toNat) (by decide+kernel) c
 simpa using this
theorem us2_succ(n:Nat):us2 (n+1)=us2 n++[(97+n,3),(n+65,3)]:=by simp[us2,List.range_succ]
theorem us3_succ(n:Nat):us3 (n+1)=us3 n++[(48+n,4)]:=by simp[us3,List.range_succ]
theorem classes_c(w:World)(D:Gh)[hk:Keeps D w]:Calls prog 35 #[] w fun e w'=>e=.returned (.agg (tabA usAll))∧Cll none w w':=by
 have kc:=fun(w:World)(C:Array Value)(n c:Nat)=>Lib.run_convert_bytes_const (P:=prog) w 22 5 C n c underlying22 underlying5
 have hB0:Box (w.alloc (.cells (tabA []) 94)) D w.heap.size 94 (tabA []):=ii
 obtain⟨W0,hW0⟩:∃W0,W0=w.alloc (.cells (tabA []) 94):=⟨_,rfl⟩
 have hB1:Box W0 D w.heap.size 94 (tabA []):=hW0▸ii
 have hG1:Gr none w D W0 D:=hW0▸ii
 have HW0:=hid hW0
 clear hW0 hB0
 go_enter func35,ntmps35
 go_wp2_with (first
  |((with_reducible show wpList _ _ _ ((⟨some 0,.alloc 94,_,_,_,_⟩:Oper)::_) _ _);refine wp_alloc_row rfl 94 rfl zero94 ?_;rw[←HW0.out];refine stopL ?_))
 unfold Stop
 have:=hG1.keeps
 obtain⟨WA,hWA⟩:∃WA,WA=W0.alloc (.cells #[.int .u8 32,.int .u8 9,.int .u8 10,.int .u8 13] 5 (4,4+1)):=⟨_,rfl⟩
 have hBL:Box WA D w.heap.size 94 (tabA ([])):=hWA▸ii
 have hGL:Gr none w D WA D:=hWA▸ii
 have:=hGL.keeps
 have hoffL:Off D W0.heap.size:=Off.size D W0
 have hPL:Pub WA D (D.add W0.heap.size #[.int .u8 32,.int .u8 9,.int .u8 10,.int .u8 13].toList) (some W0.heap.size):=pub_add fun o v e=>by
  rw[hWA]
  have h1:(W0.alloc (.cells #[.int .u8 32,.int .u8 9,.int .u8 10,.int .u8 13] 5 (4,4+1))).heap[W0.heap.size]? =some (.cells #[.int .u8 32,.int .u8 9,.int .u8 10,.int .u8 13] 5 (4,4+1)):=heap_alloc_new W0 _
  simp only[World.cell?,h1]
  simpa using e
 have hkL:∀(j:Nat) p,us1[j]? =some p→(D.add W0.heap.size #[.int .u8 32,.int .u8 9,.int .u8 10,.int .u8 13].toList) W0.heap.size j=some (.int .u8 (p.1:Nat)):=fun j p h=>by
  rw[Gh.add_at]
  have:(#[.int .u8 32,.int .u8 9,.int .u8 10,.int .u8 13]:Array Value).toList=us1.map fun p=>Value.int .u8 (p.1:Nat):=rfl
  rw[this,List.getElem?_map,h];rfl
 have hsz:w.heap.size<W0.heap.size:=by have:=Box.lt (h:=(ii:Box W0 D w.heap.size 94 (tabA ([]))));exact this
 obtain⟨D1,hD1⟩:∃DX,DX=D.add W0.heap.size #[.int .u8 32,.int .u8 9,.int .u8 10,.int .u8 13].toList:=⟨_,rfl⟩
 rw[←hD1]at hPL hkL
 have HWA:=hid hWA
 have HKL:=hid hkL
 have hGL2:Gr none w D WA D1:=hPL.gr none w D hGL (fun k hk=>by cases hk;omega)
 have hBL2:Box WA D1 w.heap.size 94 (tabA ([])):=hPL.box hBL (by intro e;have:=Option.some.inj e;omega)
 clear hWA hD1 hkL hPL hBL hGL
 go_wp2_with fail
 rw[←HWA.out]
 go_loopg [10] 4 (fun gk v wr=>∃i:Nat,v=.int .i64 i∧gk+i=4∧Gr none w D wr D1∧Box wr D1 w.heap.size 94 (tabA ([]++us1.take i)))
 case atStart=>exact⟨0,rfl,rfl,hGL2,by simpa using hBL2⟩
 case round=>
  obtain⟨i,rfl,hgk,hGr,hBr⟩:=hrel
  have:=hGr.keeps
  have:=hBr.off
  by_cases hi:i<4
  ·obtain⟨p,hp⟩:∃p,us1[i]? =some p:=⟨_,List.getElem?_eq_getElem (show i<4 from hi)⟩
   have hpm:p.2=1∧p.1<256:=(by decide:∀p∈us1,p.2=1∧p.1<256) p (List.mem_of_getElem? hp)
   obtain⟨x,y⟩:=p
   obtain⟨rfl,hx⟩:=hpm
   simp only at hx
   have kx:=Keeps.out (D:=D1) (w:=wr) _ _ _ (HKL.out i _ hp)
   have e1:=hBr.held (i:=x) (tabA_get _ hx)
   have hx2:(x:Int)<256:=by omega
   have hlr:=hBr.lt
   have hB9:Box (wr.setCell ⟨w.heap.size,x,none⟩ (.int .u8 1)) D1 w.heap.size 94 (tabA ([]++us1.take (i+1))):=by
    have h1:Box (wr.setCell ⟨w.heap.size,x,none⟩ (.int .u8 1)) D1 w.heap.size 94 _:=ii
    rw[List.take_add_one,hp]
    show Box _ _ _ _ (tabA ([]++(us1.take i++[(x,1)])))
    have e9:[]++(us1.take i++[(x,1)])=([]++us1.take i)++[(x,1)]:=by simp
    rw[e9,←tabA_set];exact h1
   have hG9:Gr none w D (wr.setCell ⟨w.heap.size,x,none⟩ (.int .u8 1)) D1:=ii
   clear hp
   go_wp2_with fail
   go_roundg (gk-1)
   case measure=>omega
   case rel=>exact⟨i+1,by simp,by omega,hG9,hB9⟩
  ·have hBE:Box wr D1 w.heap.size 94 (tabA (us1)):=by
    have:us1.take i=us1:=List.take_of_length_le (by show 4≤i;omega)
    rw[this]at hBr;exact hBr
   clear hBr
   have:=hBE
   go_wp2_with fail
   go_loopg [3] 26 (fun gk v wr=>∃i:Nat,v=.int .i32 (97+(i:Int))∧gk+i=26∧Gr none w D wr D1∧Box wr D1 w.heap.size 94 (tabA (us1++us2 i)))
   case atStart=>exact⟨0,rfl,rfl,hGr,by simpa[us2]using hBE⟩
   case round=>
    clear hBE hGr
    obtain⟨i,rfl,hgk,hGr,hBr⟩:=hrel
    have:=hGr.keeps
    have:=hBr.off
    by_cases hi:i<26
    ·have e1:=hBr.held (i:=97+i) (tabA_get _ (by omega))
     have hlr:=hBr.lt
     have h1:Box (wr.setCell ⟨w.heap.size,97+i,none⟩ (.int .u8 3)) D1 w.heap.size 94 (tabA (us1++us2 i++[(97+i,3)])):=by
      have h1:Box (wr.setCell ⟨w.heap.size,97+i,none⟩ (.int .u8 3)) D1 w.heap.size 94 _:=ii
      rw[←tabA_set];exact h1
     have e2:=h1.held (i:=i+65) (tabA_get _ (by omega))
     have:=h1
     have h2:Box ((wr.setCell ⟨w.heap.size,97+i,none⟩ (.int .u8 3)).setCell ⟨w.heap.size,i+65,none⟩ (.int .u8 3)) D1 w.heap.size 94 (tabA (us1++us2 (i+1))):=by
      have h2:Box ((wr.setCell ⟨w.heap.size,97+i,none⟩ (.int .u8 3)).setCell ⟨w.heap.size,i+65,none⟩ (.int .u8 3)) D1 w.heap.size 94 _:=@Box.set_ _ _ _ _ _ _ _ h1
      have e9:us1++us2 (i+1)=(us1++us2 i++[(97+i,3)])++[(i+65,3)]:=by rw[us2_succ];simp
      rw[e9,←tabA_set];exact h2
     have hG9:Gr none w D ((wr.setCell ⟨w.heap.size,97+i,none⟩ (.int .u8 3)).setCell ⟨w.heap.size,i+65,none⟩ (.int .u8 3)) D1:=ii
     go_wp2_with fail
     go_roundg (gk-1)
     case measure=>omega
     case rel=>exact⟨i+1,by simp;omega,by omega,hG9,h2⟩
    ·have hBE:Box wr D1 w.heap.size 94 (tabA (us1++us2 26)):=by
      obtain rfl:i=26:=by omega
      exact hBr
     obtain rfl:i=26:=by omega
     clear hBr
     have:=hBE
     go_wp2_with fail
     go_loopg [4] 10 (fun gk v wr=>∃i:Nat,v=.int .i32 (48+(i:Int))∧gk+i=10∧Gr none w D wr D1∧Box wr D1 w.heap.size 94 (tabA (us1++us2 26++us3 i)))
     case atStart=>exact⟨0,rfl,rfl,hGr,by simpa[us3]using hBE⟩
     case round=>
      clear hBE hGr
      obtain⟨i,rfl,hgk,hGr,hBr⟩:=hrel
      have:=hGr.keeps
      have:=hBr.off
      by_cases hi:i<10
      ·have e1:=hBr.held (i:=48+i) (tabA_get _ (by omega))
       have hlr:=hBr.lt
       have h1:Box (wr.setCell ⟨w.heap.size,48+i,none⟩ (.int .u8 4)) D1 w.heap.size 94 (tabA (us1++us2 26++us3 (i+1))):=by
        have h1:Box (wr.setCell ⟨w.heap.size,48+i,none⟩ (.int .u8 4)) D1 w.heap.size 94 _:=ii
        have e9:us1++us2 26++us3 (i+1)=(us1++us2 26++us3 i)++[(48+i,4)]:=by rw[us3_succ];simp
        rw[e9,←tabA_set];exact h1
       have hG9:Gr none w D (wr.setCell ⟨w.heap.size,48+i,none⟩ (.int .u8 4)) D1:=ii
       go_wp2_with fail
       go_roundg (gk-1)
       case measure=>omega
       case rel=>exact⟨i+1,by simp;omega,by omega,hG9,h1⟩
      ·have hBE:Box wr D1 w.heap.size 94 (tabA (us1++us2 26++us3 10)):=by
        obtain rfl:i=10:=by omega
        exact hBr
       obtain rfl:i=10:=by omega
       clear hBr
       have:=hBE
       obtain⟨WB,hWB⟩:∃WB,WB=wr.alloc (.cells #[.int .u8 40,.int .u8 41,.int .u8 91,.int .u8 93,.int .u8 123,.int .u8 125,.int .u8 44,.int .u8 46,.int .u8 60,.int .u8 61,.int .u8 124,.int .u8 63] 5 (12,12+1)):=⟨_,rfl⟩
       have hBL:Box WB D1 w.heap.size 94 (tabA (us1++us2 26++us3 10)):=hWB▸ii
       have hGL:Gr none w D WB D1:=hWB▸ii
       have:=hGL.keeps
       have hoffL:Off D1 wr.heap.size:=Off.size D1 wr
       have hPL:Pub WB D1 (D1.add wr.heap.size #[.int .u8 40,.int .u8 41,.int .u8 91,.int .u8 93,.int .u8 123,.int .u8 125,.int .u8 44,.int .u8 46,.int .u8 60,.int .u8 61,.int .u8 124,.int .u8 63].toList) (some wr.heap.size):=pub_add fun o v e=>by
        rw[hWB]
        have h1:(wr.alloc (.cells #[.int .u8 40,.int .u8 41,.int .u8 91,.int .u8 93,.int .u8 123,.int .u8 125,.int .u8 44,.int .u8 46,.int .u8 60,.int .u8 61,.int .u8 124,.int .u8 63] 5 (12,12+1))).heap[wr.heap.size]? =some (.cells #[.int .u8 40,.int .u8 41,.int .u8 91,.int .u8 93,.int .u8 123,.int .u8 125,.int .u8 44,.int .u8 46,.int .u8 60,.int .u8 61,.int .u8 124,.int .u8 63] 5 (12,12+1)):=heap_alloc_new wr _
        simp only[World.cell?,h1]
        simpa using e
       have hkL:∀(j:Nat) p,us4[j]? =some p→(D1.add wr.heap.size #[.int .u8 40,.int .u8 41,.int .u8 91,.int .u8 93,.int .u8 123,.int .u8 125,.int .u8 44,.int .u8 46,.int .u8 60,.int .u8 61,.int .u8 124,.int .u8 63].toList) wr.heap.size j=some (.int .u8 (p.1:Nat)):=fun j p h=>by
        rw[Gh.add_at]
        have:(#[.int .u8 40,.int .u8 41,.int .u8 91,.int .u8 93,.int .u8 123,.int .u8 125,.int .u8 44,.int .u8 46,.int .u8 60,.int .u8 61,.int .u8 124,.int .u8 63]:Array Value).toList=us4.map fun p=>Value.int .u8 (p.1:Nat):=rfl
        rw[this,List.getElem?_map,h];rfl
       have hsz:w.heap.size<wr.heap.size:=by have:=Box.lt (h:=(ii:Box wr D1 w.heap.size 94 (tabA (us1++us2 26++us3 10))));exact this
       obtain⟨D2,hD1⟩:∃DX,DX=D1.add wr.heap.size #[.int .u8 40,.int .u8 41,.int .u8 91,.int .u8 93,.int .u8 123,.int .u8 125,.int .u8 44,.int .u8 46,.int .u8 60,.int .u8 61,.int .u8 124,.int .u8 63].toList:=⟨_,rfl⟩
       rw[←hD1]at hPL hkL
       have HWB:=hid hWB
       have HKL:=hid hkL
       have hGL2:Gr none w D WB D2:=hPL.gr none w D hGL (fun k hk=>by cases hk;omega)
       have hBL2:Box WB D2 w.heap.size 94 (tabA (us1++us2 26++us3 10)):=hPL.box hBL (by intro e;have:=Option.some.inj e;omega)
       clear hWB hD1 hkL hPL hBL hGL
       go_wp2_with fail
       rw[←HWB.out]
       go_loopg [36] 12 (fun gk v wr=>∃i:Nat,v=.int .i64 i∧gk+i=12∧Gr none w D wr D2∧Box wr D2 w.heap.size 94 (tabA (us1++us2 26++us3 10++us4.take i)))
       case atStart=>exact⟨0,rfl,rfl,hGL2,by simpa using hBL2⟩
       case round=>
        obtain⟨i,rfl,hgk,hGr,hBr⟩:=hrel
        have:=hGr.keeps
        have:=hBr.off
        by_cases hi:i<12
        ·obtain⟨p,hp⟩:∃p,us4[i]? =some p:=⟨_,List.getElem?_eq_getElem (show i<12 from hi)⟩
         have hpm:p.2=6∧p.1<256:=(by decide:∀p∈us4,p.2=6∧p.1<256) p (List.mem_of_getElem? hp)
         obtain⟨x,y⟩:=p
         obtain⟨rfl,hx⟩:=hpm
         simp only at hx
         have kx:=Keeps.out (D:=D2) (w:=wr) _ _ _ (HKL.out i _ hp)
         have e1:=hBr.held (i:=x) (tabA_get _ hx)
         have hx2:(x:Int)<256:=by omega
         have hlr:=hBr.lt
         have hB9:Box (wr.setCell ⟨w.heap.size,x,none⟩ (.int .u8 6)) D2 w.heap.size 94 (tabA (us1++us2 26++us3 10++us4.take (i+1))):=by
          have h1:Box (wr.setCell ⟨w.heap.size,x,none⟩ (.int .u8 6)) D2 w.heap.size 94 _:=ii
          rw[List.take_add_one,hp]
          show Box _ _ _ _ (tabA (us1++us2 26++us3 10++(us4.take i++[(x,6)])))
          have e9:us1++us2 26++us3 10++(us4.take i++[(x,6)])=(us1++us2 26++us3 10++us4.take i)++[(x,6)]:=by simp
          rw[e9,←tabA_set];exact h1
         have hG9:Gr none w D (wr.setCell ⟨w.heap.size,x,none⟩ (.int .u8 6)) D2:=ii
         clear hp
         go_wp2_with fail
         go_roundg (gk-1)
         case measure=>omega
         case rel=>exact⟨i+1,by simp,by omega,hG9,hB9⟩
        ·have hBE:Box wr D2 w.heap.size 94 (tabA (us1++us2 26++us3 10++us4)):=by
          have:us4.take i=us4:=List.take_of_length_le (by show 12≤i;omega)
          rw[this]at hBr;exact hBr
         clear hBr
         have:=hBE
         obtain⟨X1,hX1⟩:∃X,X=wr.setCell ⟨w.heap.size,95,none⟩ (.int .u8 3):=⟨_,rfl⟩
         obtain⟨X2,hX2⟩:∃X,X=X1.setCell ⟨w.heap.size,35,none⟩ (.int .u8 2):=⟨_,rfl⟩
         obtain⟨X3,hX3⟩:∃X,X=X2.setCell ⟨w.heap.size,45,none⟩ (.int .u8 5):=⟨_,rfl⟩
         have:=hGr.keeps
         have:=hBE.off
         have b1:Box X1 D2 w.heap.size 94 (tabA (us1++us2 26++us3 10++us4++[(95,3)])):=by
          rw[←tabA_set,hX1];exact@Box.set_ _ _ _ _ _ _ _ hBE
         have b2:Box X2 D2 w.heap.size 94 (tabA (us1++us2 26++us3 10++us4++[(95,3)]++[(35,2)])):=by
          rw[←tabA_set,hX2];exact@Box.set_ _ _ _ _ _ _ _ b1
         have b3:Box X3 D2 w.heap.size 94 (tabA usAll):=by
          have e9:usAll=us1++us2 26++us3 10++us4++[(95,3)]++[(35,2)]++[(45,5)]:=by simp[usAll]
          rw[e9,←tabA_set,hX3];exact@Box.set_ _ _ _ _ _ _ _ b2
         have g3:Gr none w D X3 D2:=by subst hX1;subst hX2;subst hX3;exact ii
         have e1:=hBE.held (i:=95) (tabA_get _ (by decide))
         have e2:=b1.held (i:=35) (tabA_get _ (by decide))
         have e3:=b2.held (i:=45) (tabA_get _ (by decide))
         have l1:=hBE.lt
         have HX1:=hid hX1
         have HX2:=hid hX2
         have HX3:=hid hX3
         clear hX1 hX2 hX3
         generalize hU:tabA usAll=U at b3
         have hone:U.all (·.oneCell')=true:=hU▸tabA_one _
         have hsz:U.size=256:=hU▸tabA_size _
         have hz94':(prog.info? 94).map (·.size)=some U.size:=by rw[hsz];exact hz94
         have HU:=hid hU
         clear hU
         have:=b3
         have b4:Box (X3.setRow w.heap.size U) D2 w.heap.size 94 U:=ii
         have g4:Cll none w (X3.setRow w.heap.size U):=⟨(ii:Gr none w D (X3.setRow w.heap.size U) D2).bl⟩
         go_wp2_with (first
          |((with_reducible show wpList _ _ _ ((⟨some 44,_,_,_,_,_⟩:Oper)::_) _ _);rw[←HX1.out];refine stopL ?_))
         unfold Stop
         go_wp2_with (first
          |((with_reducible show wpList _ _ _ ((⟨some 45,_,_,_,_,_⟩:Oper)::_) _ _);rw[←HX2.out];refine stopL ?_))
         unfold Stop
         go_wp2_with (first
          |((with_reducible show wpList _ _ _ ((⟨some 46,_,_,_,_,_⟩:Oper)::_) _ _);rw[←HX3.out];refine stopL ?_))
         unfold Stop
         go_wp2_with (first|((with_reducible show wpList _ _ _ ((⟨_,.load 94 _,_,_,_,_⟩:Oper)::_) _ _);refine wpList_load_row rfl 94 _ rfl (w.heap.size) rfl (94) _ (0,0) _ (b3.heap) underlying94 rfl (hz94') ?_)|((with_reducible show wpList _ _ _ ((⟨_,.store 94 _ _,_,_,_,_⟩:Oper)::_) _ _);refine wpList_storeTo rfl 94 _ _ rfl rfl (w.heap.size) (U) rfl rfl _ (U) (b3.heap) (hz94') rfl (hone) ?_))
         refine bodyPost_ret (v:=.agg U) ?_ rfl ?_
         ·exact b4.result rfl rfl underlying94 rfl hz94'
         ·exact⟨by rw[HU.out],g4⟩
end Go.Proofs.YticgonfhjcaohaaGreatDoor
namespace Go.Proofs.YticgonfhjcaohaaGreatDoor
open Go.RowKit Go.VT _root_.Go.Proofs.Tryz
theorem wp_scope_ghost{P:Program}{a:Act}{w:World}{Q:Exit→Act→World→Prop}{c rest:Code}(l:Nat)(J:Nat→Act→World→Prop)(hf:findLabel c l=some (.seq .skip rest))
  (pass:∀n a w,J n a w→∀K:Act→World→Prop,(∀n' a' w',n'<n→J n' a' w'→K a' w')→rest.wp P (Exit.jump l K Q) a w)
  (first:∀K:Act→World→Prop,(∀n a w,J n a w→rest.wp P (Exit.jump l K Q) a w)→c.wp P (Exit.jump l K Q) a w):(Code.scope c).wp P Q a w:=by
 refine wp_scope_jumps l (fun a w=>∃n,J n a w) (fun a w=>leastOf fun n=>J n a w) hf (first _ ?_) ?_
 ·intro n a w h;exact pass n a w h _ (fun n' a' w' _ h=>⟨n',h⟩)
 ·rintro a w hJ
  refine wp_seq (wp_skip ?_)
  refine pass _ a w (leastOf_spec hJ).1 _ ?_
  intro n' a' w' hlt h
  exact⟨⟨n',h⟩,Nat.lt_of_le_of_lt ((leastOf_spec ⟨n',h⟩).2 n' h) hlt⟩
theorem ownApartT{w:World}{D D':Gh}{B B':Nat}{e e':TypeId}{s s' n n':Nat}{v v':Value}{xs xs':List Value}(h:Own w D B e s v n xs)(h':Own w D' B' e' s' v' n' xs')(hne:e≠e'):Apart v v'.ownBlock:=⟨fun k hk hk'=>by
 rcases h.own.2 with⟨rfl,_⟩|⟨g,cap,cur,rfl,hg,hh,_⟩
 ·cases hk
 ·rcases h'.own.2 with⟨rfl,_⟩|⟨g',cap',cur',rfl,hg',hh',_⟩
  ·cases hk'
  ·simp only[Value.ownBlock,Option.some.injEq]at hk hk'
   subst hk hk'
   rw[hh]at hh'
   injection hh' with hh'
   injection hh' with _ ht
   exact hne ht⟩
theorem ownNeT{w:World}{D D':Gh}{B:Nat}{e t:TypeId}{s n g:Nat}{v:Value}{xs:List Value}{cs:Array Value}(h:Own w D B e s v n xs)(h':Box w D' g t cs)(hne:e≠t):NeX g v.ownBlock:=⟨fun hk=>by
 rcases h.own.2 with⟨rfl,_⟩|⟨g',cap,cur,rfl,hg,hh,_⟩
 ·cases hk
 ·simp only[Value.ownBlock,Option.some.injEq]at hk
  subst hk
  rw[h'.heap]at hh
  injection hh with hh
  injection hh with _ ht
  exact hne ht.symm⟩
theorem neApart{g:Nat}{v:Value}(h:NeX g v.ownBlock):Apart v (some g):=⟨fun k hk hx=>h.out (by rw[hk];exact hx.symm)⟩
theorem ownForm{w:World}{D:Gh}{B:Nat}{e:TypeId}{s:Nat}{v:Value}{n:Nat}{xs:List Value}(h:Own w D B e s v n xs):∃a c,v=.slice a n c:=by
 rcases h.own.2 with⟨rfl,rfl⟩|⟨g,cap,cur,rfl,_⟩<;>exact⟨_,_,rfl⟩
theorem ownNe{w:World}{D:Gh}{B:Nat}{e:TypeId}{s:Nat}{v:Value}{n:Nat}{xs:List Value}(h:Own w D B e s v n xs){g:Nat}(hg:g<B):NeX g v.ownBlock:=⟨fun q=>by have:=(h.lt g q.symm).1;omega⟩
def tkrow(t:Tk):List Value:=[.int .i64 t.kind,.string (str t.text),.int .i64 t.at_]
def prow(x:Int×Int):List Value:=[.int .i64 x.1,.int .i64 x.2]
theorem prow_len(xs:List (Int×Int)):(xs.flatMap prow).length=xs.length*2:=by
 induction xs with
 |nil=>rfl
 |cons x r ih=>simp only[List.flatMap_cons,List.length_append,List.length_cons,ih,prow,List.length_nil];omega
theorem tkrow_len(xs:List Tk):(xs.flatMap tkrow).length=xs.length*3:=by
 induction xs with
 |nil=>rfl
 |cons x r ih=>simp only[List.flatMap_cons,List.length_append,List.length_cons,ih,tkrow,List.length_nil];omega
theorem el50:El prog 50 2 16:=El.of (by kernel_rfl) (by decide)
theorem el54:El prog 54 3 32:=El.of (by kernel_rfl) (by decide)
structure BlS(S:Nat→Prop)(a w:World):Prop where
 os:w.os=a.os
 tape:w.tape=a.tape
 output:w.output=a.output
 size:a.heap.size≤w.heap.size
 block:∀k,k<a.heap.size→¬S k→w.heap[k]? =a.heap[k]?
theorem BlS.of{S:Nat→Prop}{a w:World}{X:Option Nat}(h:Bl X a w)(hX:∀k,X=some k→k<a.heap.size→S k):BlS S a w:=⟨h.os,h.tape,h.output,h.size,fun k hk hs=>h.block k hk (fun e=>hs (hX k e.symm hk))⟩
theorem BlS.trans{S:Nat→Prop}{a b c:World}(h:BlS S a b)(k:BlS S b c):BlS S a c:=
 ⟨k.os.trans h.os,k.tape.trans h.tape,k.output.trans h.output,Nat.le_trans h.size k.size,fun i hi hs=>(k.block i (Nat.lt_of_lt_of_le hi h.size) hs).trans (h.block i hi hs)⟩
theorem BlS.set{S:Nat→Prop}{a w:World}(h:BlS S a w){b o:Nat}(u:Value)(hb:S b):BlS S a (w.setCell ⟨b,o,none⟩ u):=
 ⟨h.os,h.tape,h.output,by simpa[World.setCell]using h.size,fun k hk hs=>(Below.heap_setCell w _ u k (fun e=>hs (by rw[e];exact hb))).trans (h.block k hk hs)⟩
theorem BlS.box{S:Nat→Prop}{w w':World}{D:Gh}{g:Nat}{t:TypeId}{cs:Array Value}(h:BlS S w w')(hB:Box w D g t cs)(hs:¬S g):Box w' D g t cs:=⟨(h.block g hB.lt hs).trans hB.heap,hB.off⟩
theorem BlS.own{S:Nat→Prop}{w w':World}{D:Gh}{B:Nat}{e:TypeId}{s:Nat}{v:Value}{n:Nat}{xs:List Value}(h:BlS S w w')(hO:Own w D B e s v n xs)(hs:∀k,v.ownBlock=some k→¬S k):Own w' D B e s v n xs:=hO.of_block (fun k hk=>h.block k (hO.lt k hk).2 (hs k hk)) hO.off
theorem BlS.keeps{S:Nat→Prop}{w w':World}{D:Gh}(h:BlS S w w')(hk:Keeps D w)(hs:∀k,S k→Off D k):Keeps D w':=⟨fun b o v e=>
 (World.cell?_of_block (a:=⟨b,o,none⟩) (h.block b (Keeps.lt e) (fun q=>by rw[(hs b q).out]at e;cases e))).trans (hk.out b o v e)⟩
theorem BlS.gr{S:Nat→Prop}{a w w':World}{A D:Gh}(h:BlS S w w')(hg:Gr none a A w D)(hs:∀k,S k→Off D k)(hn:∀k,S k→a.heap.size≤k):Gr none a A w' D:=
 ⟨⟨h.os.trans hg.bl.os,h.tape.trans hg.bl.tape,h.output.trans hg.bl.output,Nat.le_trans hg.bl.size h.size,fun k hk _=>(h.block k (Nat.lt_of_lt_of_le hk hg.bl.size) (fun e=>by have:=hn k e;omega)).trans (hg.bl.block k hk (by simp))⟩,h.keeps hg.keeps hs,hg.le,hg.old⟩
def SpoilS(w:World)(D:Gh)(B g3 g9:Nat)(k n:Nat)(vb:Value)(e:Ending)(w':World):Prop:=
 e=.returned (.tuple #[])∧∃(vb':Value)(nb':Nat)(ps':List (Int×Int)),nb'≤64∧Own w' D B 50 2 vb' nb' (ps'.flatMap prow)∧Box w' D g9 3 #[.int .i64 (k+n:Nat)]∧Box w' D g3 25 #[vb']∧BlS (fun j=>j=g3∨j=g9∨vb.ownBlock=some j) w w'
theorem spoil_c(w:World)(D:Gh)(B g3 g6 g8 g9 nb:Nat)(k n:Nat)(last:Int)(vb:Value)(ps:List (Int×Int))[hk:Keeps D w](h36:g3≠g6)(h38:g3≠g8)(h39:g3≠g9)(h69:g6≠g9)(h89:g8≠g9)(hb3:g3<B)(hb6:g6<B)(hb8:g8<B)(hb9:g9<B)(hBw:B≤w.heap.size)
  (hB3:Box w D g3 25 #[vb]) (hB6:Box w D g6 3 #[.int .i64 k]) (hB8:Box w D g8 3 #[.int .i64 n]) (hB9:Box w D g9 3 #[.int .i64 last]) (hO:Own w D B 50 2 vb nb (ps.flatMap prow)) (hnb:nb≤64) (hkn:k+n≤1099511627776):
  Calls prog 36 #[.pointer (some ⟨g6,0,none⟩),.pointer (some ⟨g9,0,none⟩),.pointer (some ⟨g3,0,none⟩),.pointer (some ⟨g8,0,none⟩)] w (SpoilS w D B g3 g9 k n vb):=by
 obtain⟨a,c,rfl⟩:=ownForm hO
 have e3:=hB3.held (i:=0) rfl
 have e6:=hB6.held (i:=0) rfl
 have e8:=hB8.held (i:=0) rfl
 have e9:=hB9.held (i:=0) rfl
 have:=hB3.off
 have:=hB9.off
 have l3:=hB3.lt
 have l6:=hB6.lt
 have l8:=hB8.lt
 have l9:=hB9.lt
 have hfin:∀W,Bl none w W→Box (W.setCell ⟨g9,0,none⟩ (.int .i64 ((k:Int)+n))) D g9 3 #[.int .i64 (k+n:Nat)]:=fun W h=>by
  have h1:Box W D g9 3 #[.int .i64 last]:=⟨(h.block g9 l9 (by simp)).trans hB9.heap,hB9.off⟩
  have:=Box.set_ W D g9 3 #[.int .i64 last] 0 (.int .i64 ((k:Int)+n))
  simpa using this
 have plain:SpoilS w D B g3 g9 k n (.slice a nb c) (.returned (.tuple #[])) (w.setCell ⟨g9,0,none⟩ (.int .i64 ((k:Int)+n))):=by
  refine⟨rfl,.slice a nb c,nb,ps,hnb,?_,hfin w (Bl.refl _ _),Box.far (h:=hB3) h39 _,(BlS.of (Bl.refl none w) (by simp)).set _ (.inr (.inl rfl))⟩
  exact Own.far (fun e=>by have:=(hO.lt g9 e).1;omega) _
 have HP:=hid plain
 clear plain hfin
 by_cases hkl:(k:Int)=last
 ·subst hkl
  go_enter func36,ntmps36
  go_wp2_with fail
  go_end0
  exact HP.out
 ·have hq:((k:Int)==last)=false:=by simpa using hkl
  rcases Nat.lt_or_ge nb 64 with hn|hn
  ·have h2:decide ((nb:Int)<64)=true:=decide_eq_true (by omega)
   have hOx:∀o,Own (w.alloc o) D B 50 2 (.slice a nb c) nb (ps.flatMap prow):=fun o=>ii
   have hNx:Box (w.alloc (.cells #[.int .i64 k,.int .i64 10] 50)) D w.heap.size 50 #[.int .i64 k,.int .i64 10]:=ii
   have h1x:∀u,u∈(#[.int .i64 (k:Int),.int .i64 10]:Array Value).toList→u.oneCell'=true:=by
    intro u hu
    simp only[List.mem_cons,List.not_mem_nil,or_false]at hu
    rcases hu with rfl|rfl<;>rfl
   go_enter func36,ntmps36
   go_wp2_with (at_builtin;refine wp_append_1 (v:=.slice a nb c) rfl (.tmp 12) (.tmp 15) 25 rfl underlying25 el50 rfl (hOx _) rfl hNx rfl h1x (by unfold maxLen;omega) (by omega) (by simp;omega) ?_;intro v1 w1 hO1 hc1;refine stopL ?_)
   unfold Stop
   obtain⟨a1,c1,rfl⟩:=ownForm hO1
   have b1:BlS (fun j=>j=g3∨j=g9∨(Value.slice a nb c).ownBlock=some j) w w1:=
    (BlS.of (Bl.alloc (Bl.refl none w) _) (by simp)).trans (BlS.of hc1.out (fun k hk _=>.inr (.inr hk)))
   have nf:∀g,g<B→¬(Value.slice a nb c).ownBlock=some g:=fun g hg e=>by have:=(hO.lt g e).1;omega
   have c3:Box w1 D g3 25 #[.slice a nb c]:=by
    have:=ownNe hO hb3
    have:Box (w.alloc (.cells #[.int .i64 (k:Int),.int .i64 10] 50)) D g3 25 #[.slice a nb c]:=ii
    exact Box.call _ w1 D g3 _ _ _
   have c6:Box w1 D g6 3 #[.int .i64 k]:=b1.box hB6 (by rintro(h|h|h);exact h36 h.symm;exact h69 h;exact nf _ hb6 h)
   have c8:Box w1 D g8 3 #[.int .i64 n]:=b1.box hB8 (by rintro(h|h|h);exact h38 h.symm;exact h89 h;exact nf _ hb8 h)
   have c9:Box w1 D g9 3 #[.int .i64 last]:=by
    have:=ownNe hO hb9
    have:Box (w.alloc (.cells #[.int .i64 (k:Int),.int .i64 10] 50)) D g9 3 #[.int .i64 last]:=ii
    exact Box.call _ w1 D g9 _ _ _
   have n3:=ownNe hO1 hb3
   have n9:=ownNe hO1 hb9
   have d3:Box (w1.setCell ⟨g3,0,none⟩ (.slice a1 (nb+1) c1)) D g3 25 #[.slice a1 (nb+1) c1]:=by simpa using@Box.set_ w1 D g3 25 _ 0 (.slice a1 (nb+1) c1) c3
   have d6:Box (w1.setCell ⟨g3,0,none⟩ (.slice a1 (nb+1) c1)) D g6 3 #[.int .i64 k]:=Box.far (h:=c6) (Ne.symm h36) _
   have d8:Box (w1.setCell ⟨g3,0,none⟩ (.slice a1 (nb+1) c1)) D g8 3 #[.int .i64 n]:=Box.far (h:=c8) (Ne.symm h38) _
   have d9:Box (w1.setCell ⟨g3,0,none⟩ (.slice a1 (nb+1) c1)) D g9 3 #[.int .i64 last]:=Box.far (h:=c9) (Ne.symm h39) _
   have q9:Box ((w1.setCell ⟨g3,0,none⟩ (.slice a1 (nb+1) c1)).setCell ⟨g9,0,none⟩ (.int .i64 ((k:Int)+n))) D g9 3 #[.int .i64 (k+n:Nat)]:=by simpa using@Box.set_ _ D g9 3 _ 0 (.int .i64 ((k:Int)+n)) d9
   have fin:SpoilS w D B g3 g9 k n (.slice a nb c) (.returned (.tuple #[])) ((w1.setCell ⟨g3,0,none⟩ (.slice a1 (nb+1) c1)).setCell ⟨g9,0,none⟩ (.int .i64 ((k:Int)+n))):=by
    refine⟨rfl,.slice a1 (nb+1) c1,nb+1,ps++[((k:Int),10)],by omega,?_,q9,Box.far (h:=d3) h39 _,(b1.set _ (.inl rfl)).set _ (.inr (.inl rfl))⟩
    have e1:(ps++[((k:Int),(10:Int))]).flatMap prow=ps.flatMap prow++[.int .i64 k,.int .i64 10]:=by simp[prow]
    rw[e1]
    have o1:Own (w1.setCell ⟨g3,0,none⟩ (.slice a1 (nb+1) c1)) D B 50 2 (.slice a1 (nb+1) c1) (nb+1) (ps.flatMap prow++[.int .i64 k,.int .i64 10]):=Own.far (h:=hO1) (fun e=>n3.out e.symm) _
    exact Own.far (h:=o1) (fun e=>n9.out e.symm) _
   have HF:=hid fin
   have x3:=c3.held (i:=0) rfl
   have x6:=d6.held (i:=0) rfl
   have x8:=d8.held (i:=0) rfl
   have x9:=d9.held (i:=0) rfl
   have y3:=c3.lt
   have y9:=c9.lt
   clear fin q9 d3 d6 d8 d9 c3 c6 c8 c9 b1 HP hO1
   go_wp2_with fail
   go_end0
   exact HF.out
  ·have h2:decide ((nb:Int)<64)=false:=decide_eq_false (by omega)
   go_enter func36,ntmps36
   go_wp2_with fail
   go_end0
   exact HP.out
end Go.Proofs.YticgonfhjcaohaaGreatDoor
namespace Go.Proofs.YticgonfhjcaohaaGreatDoor
open Go.RowKit Go.VT _root_.Go.Proofs.Tryz
section
variable{P:Program}{w:World}
theorem step_append_run{ops:Array Oper}{o:Oper}{a:Act}{K:Act→World→Prop}{Q:Exit→Act→World→Prop}{E:Prop}(hgd:o.guard=none)(s x:Operand)(t tn:TypeId)
  (ho:o.op=.call {callee:=.builtin .append,args:=#[s,x],argTypes:=#[t,tn]}) (vs vx:Value) (hs:a.eval s=vs) (hx:a.eval x=vx)
  (v':Value) (w':World) (hr:(Builtin.append_ #[t,tn] o.type #[vs,vx]).run P w=.ok v' w') (h:K (a.put o.dst v') w'):if Region.wanted o (yielded ops a.tmps)=true then Oper.wp P o a w K Q else E:=by
 have hw:Region.wanted o (yielded ops a.tmps)=true:=by simp[Region.wanted,hgd]
 rw[if_pos hw]
 unfold Oper.wp execOp
 simp only[ho,resolve,invoke,builtin,Sem.run_bind,Sem.run_pure,Result.andThen_ok,List.map_toArray,List.map_cons,List.map_nil,hx,hs,hr]
 exact h
end
theorem scan_facts(b:Bs)(hb:b≠[]):1≤(scanB b).2∧(scanB b).2≤b.length∧((scanB b).1=2→integerB (b.take (scanB b).2)=true)∧(scanB b).1≠4:=by
 obtain⟨c,r,rfl⟩:∃c r,b=c::r:=by cases b with|nil=>exact absurd rfl hb|cons a b=>exact⟨a,b,rfl⟩
 have num:∀n,1≤n→n≤(c::r).length→1≤(numB (c::r) n).2∧(numB (c::r) n).2≤(c::r).length∧((numB (c::r) n).1=2→integerB ((c::r).take (numB (c::r) n).2)=true)∧(numB (c::r) n).1≠4:=fun n h1 h2=>by
  rw[numB_eq]
  refine⟨h1,h2,fun h=>?_,?_⟩
  ·simp only at h⊢
   cases hi:integerB ((c::r).take n)
   ·rw[hi]at h;simp at h
   ·rfl
  ·simp only;split<;>decide
 by_cases h3:cls c=3
 ·have hp:=runN_pos (c:=c) (r:=r) (by unfold inW;rw[h3];rfl)
  have hle:=runN_le (c::r)
  by_cases hx:∃d,(c::r)[VT.runN (c::r)]? =some 58∧(c::r)[VT.runN (c::r)+1]? =some d∧d≠95∧cls d=3
  ·obtain⟨d,h1,h2,h5,h4⟩:=hx
   rw[scan3y h3 h1 h2 h5 h4]
   have:=runN_le ((c::r).drop (VT.runN (c::r)+1))
   rw[List.length_drop]at this
   have:=(List.getElem?_eq_some_iff.1 h2).1
   refine⟨by simp only;omega,by simp only;omega,fun h=>by simp at h,by simp⟩
  ·rw[scan3n h3 (fun d h1 h2 h5 h4=>hx ⟨d,h1,h2,h5,h4⟩)]
   exact⟨hp,hle,fun h=>by simp at h,by simp⟩
 by_cases h5:cls c=5
 ·rw[scan5 h5]
  cases r with
  |nil=>exact⟨by simp,by simp,fun h=>by simp at h,by simp⟩
  |cons d e=>
   simp only
   by_cases h1:d=62
   ·rw[if_pos h1];exact⟨by simp,by simp,fun h=>by simp at h,by simp⟩
   ·rw[if_neg h1]
    by_cases h2:cls d≠4
    ·rw[if_pos h2];exact⟨by simp,by simp,fun h=>by simp at h,by simp⟩
    ·rw[if_neg h2]
     have:=runN_le (d::e)
     exact num _ (by omega) (by simp only[List.length_cons]at this⊢;omega)
 by_cases h4:cls c=4
 ·rw[scan4 h4]
  exact num _ (runN_pos (by unfold inW;rw[h4];rfl)) (runN_le _)
 by_cases h6:cls c=6
 ·rw[scan6 h6];exact⟨by simp,by simp,fun h=>by simp at h,by simp⟩
 rw[scan0 h3 h4 h5 h6];exact⟨by simp,by simp,fun h=>by simp at h,by simp⟩
def tokOk(t:Tk):Prop:=t.text≠[]∧t.kind≠4∧(t.kind=2→integerB t.text=true)∧t.text.length≤65536
structure LexI(N:Nat)(bs:Bs)(k:Nat)(ts:List Tk)(nb:Nat):Prop where
 hk:k≤bs.length
 hn:ts.length≤k
 ok:∀t∈ts,tokOk t
 lex:∃m b,bs.length-k<m∧lexF N bs=(ts.map kt++(lexF m (bs.drop k)).1,b&&(lexF m (bs.drop k)).2)∧(b=true→nb=0)
theorem LexI.start{N:Nat}{bs:Bs}(h:bs.length<N):LexI N bs 0 [] 0:=⟨by omega,by simp,by simp,N,true,by omega,by simp,fun _=>rfl⟩
theorem LexI.blank{N:Nat}{bs:Bs}{k:Nat}{ts:List Tk}{nb:Nat}(h:LexI N bs k ts nb){c:UInt8}(hc:bs[k]? =some c)(h1:cls c=1):LexI N bs (k+1) ts nb:=by
 obtain⟨hk,hn,ok,m,b,hm,he,hb⟩:=h
 obtain⟨hl,rfl⟩:=List.getElem?_eq_some_iff.1 hc
 refine⟨by omega,by omega,ok,m,b,by omega,?_,hb⟩
 rw[he,List.drop_eq_getElem_cons hl,lex_blank _ h1]
theorem LexI.fin{N:Nat}{bs:Bs}{ts:List Tk}{nb:Nat}(h:LexI N bs bs.length ts nb):(lexF N bs).1=ts.map kt∧((lexF N bs).2=true→nb=0):=by
 obtain⟨hk,hn,ok,m,b,hm,he,hb⟩:=h
 have hz:lexF m (bs.drop bs.length)=([],true):=by
  rw[List.drop_length];cases m<;>rfl
 rw[he,hz]
 exact⟨by simp,fun h=>hb (by simpa using h)⟩
theorem lex_com{b:Bs}{c:UInt8}(hc:b.head?=some c)(h2:cls c=2)(m:Nat):lexF (m+1) b=lexF m (b.dropWhile (· != 10)):=by
 obtain⟨r,rfl⟩:∃r,b=c::r:=by cases b with|nil=>cases hc|cons a b=>cases hc;exact⟨b,rfl⟩
 have h1:(cls c==1)=false:=by rw[h2];rfl
 rw[lexF]
 simp only[List.dropWhile_cons,h1,Bool.false_eq_true,if_false]
 rw[if_pos h2]
theorem LexI.comment{N:Nat}{bs:Bs}{k k':Nat}{ts:List Tk}{nb:Nat}(h:LexI N bs k ts nb){c:UInt8}(hc:bs[k]? =some c)(h2:cls c=2)(hk':k<k')(hl':k'≤bs.length)(hd:(bs.drop k).dropWhile (· != 10)=bs.drop k'):LexI N bs k' ts nb:=by
 obtain⟨hk,hn,ok,m,b,hm,he,hb⟩:=h
 obtain⟨hl,rfl⟩:=List.getElem?_eq_some_iff.1 hc
 obtain⟨m,rfl⟩:∃m',m=m'+1:=⟨m-1,by omega⟩
 refine⟨hl',by omega,ok,m,b,by omega,?_,hb⟩
 have e:lexF (m+1) (bs.drop k)=lexF m (bs.drop k'):=by rw[←hd];exact lex_com (by simp[List.getElem?_eq_getElem hl]) h2 m
 rw[he,e]
theorem lex_step{b:Bs}{c:UInt8}(hc:b.head?=some c)(h1:cls c≠1)(h2:cls c≠2)(m:Nat):lexF (m+1) b=(if(scanB b).1=0 then((lexF m (b.drop (scanB b).2)).1,false)else(((scanB b).1,b.take (scanB b).2)::(lexF m (b.drop (scanB b).2)).1,(lexF m (b.drop (scanB b).2)).2)):=by
 obtain⟨r,rfl⟩:∃r,b=c::r:=by cases b with|nil=>cases hc|cons a b=>cases hc;exact⟨b,rfl⟩
 have h1':(cls c==1)=false:=by simpa using h1
 rw[lexF]
 simp only[List.dropWhile_cons,h1',Bool.false_eq_true,if_false,h2]
theorem LexI.tok{N:Nat}{bs:Bs}{k:Nat}{ts:List Tk}{nb:Nat}(h:LexI N bs k ts nb){c:UInt8}(hc:bs[k]? =some c)(h1:cls c≠1)(h2:cls c≠2)(h0:(scanB (bs.drop k)).1≠0)(hl6:bs.length≤65536):
  LexI N bs (k+(scanB (bs.drop k)).2) (ts++[⟨(scanB (bs.drop k)).1,(bs.drop k).take (scanB (bs.drop k)).2,k⟩]) nb:=by
 obtain⟨hk,hn,ok,m,b,hm,he,hb⟩:=h
 obtain⟨hl,_⟩:=List.getElem?_eq_some_iff.1 hc
 obtain⟨m,rfl⟩:∃m',m=m'+1:=⟨m-1,by omega⟩
 have hne:bs.drop k≠[]:=by intro h;have:=congrArg List.length h;simp at this;omega
 obtain⟨f1,f2,f3,f4⟩:=scan_facts _ hne
 rw[List.length_drop]at f2
 refine⟨by omega,by simp;omega,?_,m,b,by omega,?_,hb⟩
 ·intro t ht
  rcases List.mem_append.1 ht with ht|ht
  ·exact ok t ht
  ·obtain rfl:=List.mem_singleton.1 ht
   refine⟨?_,f4,f3,?_⟩
   ·intro h;have:=congrArg List.length h;simp only[List.length_take,List.length_drop,List.length_nil]at this;omega
   ·simp only[List.length_take,List.length_drop];omega
 ·rw[he,lex_step (by simpa using hc) h1 h2,if_neg h0,List.drop_drop]
  simp[kt]
theorem LexI.bad{N:Nat}{bs:Bs}{k:Nat}{ts:List Tk}{nb:Nat}(h:LexI N bs k ts nb){c:UInt8}(hc:bs[k]? =some c)(h1:cls c≠1)(h2:cls c≠2)(h0:(scanB (bs.drop k)).1=0)(nb':Nat):
  LexI N bs (k+(scanB (bs.drop k)).2) ts nb':=by
 obtain⟨hk,hn,ok,m,b,hm,he,hb⟩:=h
 obtain⟨hl,_⟩:=List.getElem?_eq_some_iff.1 hc
 obtain⟨m,rfl⟩:∃m',m=m'+1:=⟨m-1,by omega⟩
 have hne:bs.drop k≠[]:=by intro h;have:=congrArg List.length h;simp at this;omega
 obtain⟨f1,f2,f3,f4⟩:=scan_facts _ hne
 rw[List.length_drop]at f2
 refine⟨by omega,by omega,ok,m,false,by omega,?_,fun h=>by cases h⟩
 rw[he,lex_step (by simpa using hc) h1 h2,if_pos h0,List.drop_drop]
 simp
end Go.Proofs.YticgonfhjcaohaaGreatDoor
