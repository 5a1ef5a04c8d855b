/- TopParsed, part 17. -/
import Derived.Test.YticgonfhjcaohaaGreatDoorP14
set_option maxRecDepth 100000
set_option maxHeartbeats 32000000
namespace Go.Proofs.YticgonfhjcaohaaGreatDoor
open Go.RowKit Go.VT _root_.Go.Proofs.Tryz
theorem neGtX{a b:Nat}(h:a<b):NeX a (some b):=⟨fun e=>by have:=Option.some.inj e;omega⟩
structure TkS(a0:World)(A D:Gh)(N:Nat)(bs:Bs)(B g3 g5 g6 g8 g9:Nat)(vt:Value)(q k:Nat)(W:World):Prop where
 gr:Gr none a0 A W D
 b6:Box W D g6 3 #[.int .i64 k]
 bz:B≤W.heap.size
 rest:∃(n8:Int)(last:Int)(vb:Value)(nb:Nat)(ps:List (Int×Int))(ts:List Tk),Box W D g8 3 #[.int .i64 n8]∧Box W D g9 3 #[.int .i64 last]∧Box W D g3 25 #[vb]∧Own W D B 50 2 vb nb (ps.flatMap prow)∧nb≤64∧Own W D B 54 3 vt ts.length (ts.flatMap tkrow)∧Hid (LexI N bs q ts nb)
structure TkG(a0:World)(B g3 g5 g6 g8 g9:Nat):Prop where
 n3:a0.heap.size≤g3∧g3<B
 n6:a0.heap.size≤g6∧g6<B
 n8:a0.heap.size≤g8∧g8<B
 n9:a0.heap.size≤g9∧g9<B
 d36:g3≠g6
 d38:g3≠g8
 d39:g3≠g9
 d68:g6≠g8
 d69:g6≠g9
 d89:g8≠g9
theorem TkS.set6{a0 W:World}{A D:Gh}{N B g3 g5 g6 g8 g9 q k:Nat}{bs:Bs}{vt:Value}(h:TkS a0 A D N bs B g3 g5 g6 g8 g9 vt q k W)(hG:TkG a0 B g3 g5 g6 g8 g9){q' k':Nat}(hL:∀ts nb,LexI N bs q ts nb→LexI N bs q' ts nb):
  TkS a0 A D N bs B g3 g5 g6 g8 g9 vt q' k' (W.setCell ⟨g6,0,none⟩ (.int .i64 (k':Int))):=by
 obtain⟨hg,h6,hbz,n8,last,vb,nb,ps,ts,h8,h9,h3,hb,hnb,ht,hl⟩:=h
 have:=h6.off
 have:New a0 g6:=⟨hG.n6.1⟩
 refine⟨ii,by simpa using@Box.set_ W D g6 3 _ 0 (.int .i64 (k':Int)) h6,by simpa[World.setCell]using hbz,n8,last,vb,nb,ps,ts,Box.far (h:=h8) (Ne.symm hG.d68) _,Box.far (h:=h9) (Ne.symm hG.d69) _,Box.far (h:=h3) hG.d36 _,?_,hnb,?_,hid (hL _ _ hl.out)⟩
 ·exact Own.far (h:=hb) (fun e=>by have:=(hb.lt g6 e).1;have:=hG.n6.2;omega) _
 ·exact Own.far (h:=ht) (fun e=>by have:=(ht.lt g6 e).1;have:=hG.n6.2;omega) _
theorem TkS.drewN{a0 W:World}{A D:Gh}{N B g3 g5 g6 g8 g9 q k:Nat}{bs:Bs}{vt:Value}(h:TkS a0 A D N bs B g3 g5 g6 g8 g9 vt q k W)(m:Nat):TkS a0 A D N bs B g3 g5 g6 g8 g9 vt q k (W.drewN m):=by
 obtain⟨hg,h6,hbz,n8,last,vb,nb,ps,ts,h8,h9,h3,hb,hnb,ht,hl⟩:=h
 exact⟨ii,ii,hbz,n8,last,vb,nb,ps,ts,ii,ii,ii,ii,hnb,ii,hl⟩
def TokS(w:World)(D:Gh)(N:Nat)(bs:Bs)(e:Ending)(w':World):Prop:=
 ∃(D':Gh)(vt vb:Value)(nb:Nat)(ps:List (Int×Int))(ts:List Tk),e=.returned (.tuple #[vt,vb,.int .i64 0])∧Gro none w D w' D'∧SlN D' 3 vt (ts.length+1) ((ts++[(⟨4,[],bs.length⟩:Tk)]).flatMap tkrow)∧SlN D' 2 vb nb (ps.flatMap prow)∧nb≤64∧LexI N bs bs.length ts nb
theorem tokens_c(w:World)(D:Gh)(N:Nat)(bs:Bs)(a:Option Addr)(c:Nat)[hk:Keeps D w](hs:bs≠[]→∃b o,a=some ⟨b,o,none⟩∧Byt D b o bs)(hN:bs.length<N)(hl6:bs.length≤65536)(hc:bs.length≤c)(hcm:c≤9223372036854775807):
  Calls prog 12 #[.slice a bs.length c] w (TokS w D N bs):=by
 obtain⟨n,hn⟩:∃n,n=bs.length:=⟨_,rfl⟩
 rw[←hn]at hc⊢
 have hl6n:n≤65536:=by omega
 have HN:=hid hn
 have HNN:=hid hN
 have HS:=hid hs
 clear hn hN hl6 hs
 go_enter func12,ntmps12
 go_wp2_with fail
 refine wp_scope_ghost 0 (fun m a' W=>∃(D1:Gh)(B g3 g5 g6 g8 g9 k:Nat)(vt kd:Value),(m+k=n∧TkG w B g3 g5 g6 g8 g9∧Tab D1 g5∧Le D D1∧TkS w D D1 N bs B g3 g5 g6 g8 g9 vt k k W)∧∃(u11 u12 u13 u14 u15 u16 u17 u18 u19 u20 u21 u22 u23 u24 u25 u26 u27 u28 u29 u30 u31 u32 u33 u34 u35 u36 u37 u38 u39 u40 u41 u42 u43 u44 u45 u46 u47 u48 u49 u50 u51 u52 u53 u54 u55 u56 u57 u58 u59 u60 u61 u62 u63 u64 u65 u66 u67 u68 u69 u70 u71 u72 u73 u74 u75 u76 u77 u78 u79 u80 u81 u82 u83 u84 u85 u86 u87:Value),a'={tmps:=#[.slice a n c,undef,vt,.pointer (some ⟨g3,0,none⟩),.int .i64 0,.pointer (some ⟨g5,0,none⟩),.pointer (some ⟨g6,0,none⟩),kd,.pointer (some ⟨g8,0,none⟩),.pointer (some ⟨g9,0,none⟩),.func (.func 36) #[] #[.pointer (some ⟨g6,0,none⟩),.pointer (some ⟨g9,0,none⟩),.pointer (some ⟨g3,0,none⟩),.pointer (some ⟨g8,0,none⟩)],u11,u12,u13,u14,u15,u16,u17,u18,u19,u20,u21,u22,u23,u24,u25,u26,u27,u28,u29,u30,u31,u32,u33,u34,u35,u36,u37,u38,u39,u40,u41,u42,u43,u44,u45,u46,u47,u48,u49,u50,u51,u52,u53,u54,u55,u56,u57,u58,u59,u60,u61,u62,u63,u64,u65,u66,u67,u68,u69,u70,u71,u72,u73,u74,u75,u76,u77,u78,u79,u80,u81,u82,u83,u84,u85,u86,u87],defers:=[]}) rfl ?pass ?first
 case first=>
  intro K hpass
  have hd6:decide ((65536:Int)<n)=false:=decide_eq_false (by omega)
  have hB3:Box (w.alloc (.cells #[.slice none 0 0] 25)) D w.heap.size 25 #[.slice none 0 0]:=ii
  have hg1:Gr none w D (w.alloc (.cells #[.slice none 0 0] 25)) D:=ii
  have hz1:(w.alloc (.cells #[.slice none 0 0] 25)).heap.size=w.heap.size+1:=by simp
  obtain⟨W1,hW1⟩:∃W,W=w.alloc (.cells #[.slice none 0 0] 25):=⟨_,rfl⟩
  rw[←hW1]at hB3 hg1 hz1
  have:=hg1.keeps
  have HW1:=hid hW1
  clear hW1
  go_wp2_with fail
  rw[←HW1.out]
  refine(classes_c W1 D).mono ?_
  rintro e w2 ⟨rfl,hc2⟩
  have hB32:Box w2 D w.heap.size 25 #[.slice none 0 0]:=ii
  have hg2:Gr none w D w2 D:=ii
  have hz2:=hc2.size
  have:=hg2.keeps
  have hone:(tabA usAll).all (·.oneCell')=true:=tabA_one _
  have hsz:(tabA usAll).size=256:=tabA_size _
  have hsz0:(tabA []).size=256:=tabA_size _
  have hgt:∀c:UInt8,(tabA usAll)[c.toNat]? =some (.int .u8 ((cls c).toNat:Int)):=fun c=>by rw[tabA_get _ (u8_lt c),tab_cls]
  have z94:=zero94
  generalize tabA usAll=U at*
  generalize tabA []=U0 at*
  have hz94':(prog.info? 94).map (·.size)=some U.size:=by rw[hsz];exact hz94
  have hBn:Box (w2.alloc (.cells U0 94)) D w2.heap.size 94 U0:=ii
  have hBs:Box ((w2.alloc (.cells U0 94)).setRow w2.heap.size U) D w2.heap.size 94 U:=ii
  have hg3:Gr none w D ((w2.alloc (.cells U0 94)).setRow w2.heap.size U) D:=by
   have:=hBn.off
   have:New w w2.heap.size:=⟨hg2.bl.size⟩
   exact ii
  have:NeX w.heap.size (some w2.heap.size):=neGtX (by omega)
  have hB33:Box ((w2.alloc (.cells U0 94)).setRow w2.heap.size U) D w.heap.size 25 #[.slice none 0 0]:=ii
  have hz3:((w2.alloc (.cells U0 94)).setRow w2.heap.size U).heap.size=w2.heap.size+1:=by simp
  obtain⟨W3,hW3⟩:∃W,W=(w2.alloc (.cells U0 94)).setRow w2.heap.size U:=⟨_,rfl⟩
  rw[←hW3]at hBs hg3 hB33 hz3
  have:=hg3.keeps
  obtain⟨D1,hP,hU⟩:=hBs.pub
  have hTab:Tab D1 w2.heap.size:=⟨fun c=>hU _ _ (hgt c)⟩
  have hLe:Le D D1:=hP.le
  have hg4:Gr none w D W3 D1:=hP.gr none w D hg3 (fun k hk=>by cases hk;omega)
  have hB34:Box W3 D1 w.heap.size 25 #[.slice none 0 0]:=hP.box hB33 (fun e=>by have:=Option.some.inj e;omega)
  have:=hg4.keeps
  have HW3:=hid hW3
  obtain⟨W5,hW5⟩:∃W,W=((W3.alloc (.cells #[.int .i64 0] 3)).alloc (.cells #[.int .i64 0] 3)).alloc (.cells #[.int .i64 (-1)] 3):=⟨_,rfl⟩
  have hz5:W5.heap.size=W3.heap.size+3:=by rw[hW5];simp
  clear hW3 hgt hB33 hg3 hBs
  have f6:Box W5 D1 W3.heap.size 3 #[.int .i64 0]:=hW5▸ii
  have f8:Box W5 D1 (W3.heap.size+1) 3 #[.int .i64 0]:=by
   rw[hW5]
   have:=Box.new (W3.alloc (.cells #[.int .i64 0] 3)) D1 3 #[.int .i64 0]
   rw[World.size_alloc]at this
   exact@Box.alloc _ _ _ _ _ _ this
  have f9:Box W5 D1 (W3.heap.size+1+1) 3 #[.int .i64 (-1)]:=by
   rw[hW5]
   have:=Box.new ((W3.alloc (.cells #[.int .i64 0] 3)).alloc (.cells #[.int .i64 0] 3)) D1 3 #[.int .i64 (-1)]
   rw[World.size_alloc,World.size_alloc]at this
   exact this
  have f3:Box W5 D1 w.heap.size 25 #[.slice none 0 0]:=hW5▸ii
  have g5:Gr none w D W5 D1:=hW5▸ii
  have hwz:=hg4.bl.size
  have hTK:TkG w W5.heap.size w.heap.size w2.heap.size W3.heap.size (W3.heap.size+1) (W3.heap.size+1+1):=⟨by omega,by omega,by omega,by omega,by omega,by omega,by omega,by omega,by omega,by omega⟩
  have hTS:TkS w D D1 N bs W5.heap.size w.heap.size w2.heap.size W3.heap.size (W3.heap.size+1) (W3.heap.size+1+1) (.slice none 0 0) 0 0 W5:=⟨g5,f6,Nat.le_refl _,0,-1,.slice none 0 0,0,[],[],f8,f9,f3,Own.nil _ _ _ _,by omega,Own.nil _ _ _ _,hid (LexI.start HNN.out)⟩
  have HF:=hid (And.intro hTK hTS)
  have HW5:=hid hW5
  clear hTK hTS hW5 f9 f6 f8 f3 g5 hg4 hB34 hz5 hz3 hU hP hB3 hg1 hg2 hB32
  dsimp only
  go_wp2_with (first
   |((with_reducible show wpList _ _ _ ((⟨_,.alloc 94,_,_,_,_⟩:Oper)::_) _ _);refine wp_alloc_row rfl 94 rfl z94 ?_)
   |((with_reducible show wpList _ _ _ ((⟨_,.store 94 _ _,_,_,_,_⟩:Oper)::_) _ _);refine wpList_storeTo rfl 94 _ _ rfl rfl w2.heap.size U rfl rfl 94 U0 hBn.heap hz94' (by rw[hsz,hsz0]) hone ?_;rw[←HW3.out]))
  rw[←HW5.out]
  go_step3
  go_step
  go_step
  refine hpass n _ _ ⟨D1,W5.heap.size,w.heap.size,w2.heap.size,W3.heap.size,W3.heap.size+1,W3.heap.size+1+1,0,.slice none 0 0,.int .i64 0,⟨rfl,HF.out.1,hTab,hLe,HF.out.2⟩,?_⟩
  (repeat apply Exists.intro)
  rfl
 case pass=>
  intro m a' W hJ K hK
  obtain⟨D1,B,g3,g5,g6,g8,g9,k,vt,kd,⟨hmk,hG,hT,hD,hS⟩,hJ⟩:=hJ
  obtain⟨u11,hJ⟩:=hJ
  obtain⟨u12,hJ⟩:=hJ
  obtain⟨u13,hJ⟩:=hJ
  obtain⟨u14,hJ⟩:=hJ
  obtain⟨u15,hJ⟩:=hJ
  obtain⟨u16,hJ⟩:=hJ
  obtain⟨u17,hJ⟩:=hJ
  obtain⟨u18,hJ⟩:=hJ
  obtain⟨u19,hJ⟩:=hJ
  obtain⟨u20,hJ⟩:=hJ
  obtain⟨u21,hJ⟩:=hJ
  obtain⟨u22,hJ⟩:=hJ
  obtain⟨u23,hJ⟩:=hJ
  obtain⟨u24,hJ⟩:=hJ
  obtain⟨u25,hJ⟩:=hJ
  obtain⟨u26,hJ⟩:=hJ
  obtain⟨u27,hJ⟩:=hJ
  obtain⟨u28,hJ⟩:=hJ
  obtain⟨u29,hJ⟩:=hJ
  obtain⟨u30,hJ⟩:=hJ
  obtain⟨u31,hJ⟩:=hJ
  obtain⟨u32,hJ⟩:=hJ
  obtain⟨u33,hJ⟩:=hJ
  obtain⟨u34,hJ⟩:=hJ
  obtain⟨u35,hJ⟩:=hJ
  obtain⟨u36,hJ⟩:=hJ
  obtain⟨u37,hJ⟩:=hJ
  obtain⟨u38,hJ⟩:=hJ
  obtain⟨u39,hJ⟩:=hJ
  obtain⟨u40,hJ⟩:=hJ
  obtain⟨u41,hJ⟩:=hJ
  obtain⟨u42,hJ⟩:=hJ
  obtain⟨u43,hJ⟩:=hJ
  obtain⟨u44,hJ⟩:=hJ
  obtain⟨u45,hJ⟩:=hJ
  obtain⟨u46,hJ⟩:=hJ
  obtain⟨u47,hJ⟩:=hJ
  obtain⟨u48,hJ⟩:=hJ
  obtain⟨u49,hJ⟩:=hJ
  obtain⟨u50,hJ⟩:=hJ
  obtain⟨u51,hJ⟩:=hJ
  obtain⟨u52,hJ⟩:=hJ
  obtain⟨u53,hJ⟩:=hJ
  obtain⟨u54,hJ⟩:=hJ
  obtain⟨u55,hJ⟩:=hJ
  obtain⟨u56,hJ⟩:=hJ
  obtain⟨u57,hJ⟩:=hJ
  obtain⟨u58,hJ⟩:=hJ
  obtain⟨u59,hJ⟩:=hJ
  obtain⟨u60,hJ⟩:=hJ
  obtain⟨u61,hJ⟩:=hJ
  obtain⟨u62,hJ⟩:=hJ
  obtain⟨u63,hJ⟩:=hJ
  obtain⟨u64,hJ⟩:=hJ
  obtain⟨u65,hJ⟩:=hJ
  obtain⟨u66,hJ⟩:=hJ
  obtain⟨u67,hJ⟩:=hJ
  obtain⟨u68,hJ⟩:=hJ
  obtain⟨u69,hJ⟩:=hJ
  obtain⟨u70,hJ⟩:=hJ
  obtain⟨u71,hJ⟩:=hJ
  obtain⟨u72,hJ⟩:=hJ
  obtain⟨u73,hJ⟩:=hJ
  obtain⟨u74,hJ⟩:=hJ
  obtain⟨u75,hJ⟩:=hJ
  obtain⟨u76,hJ⟩:=hJ
  obtain⟨u77,hJ⟩:=hJ
  obtain⟨u78,hJ⟩:=hJ
  obtain⟨u79,hJ⟩:=hJ
  obtain⟨u80,hJ⟩:=hJ
  obtain⟨u81,hJ⟩:=hJ
  obtain⟨u82,hJ⟩:=hJ
  obtain⟨u83,hJ⟩:=hJ
  obtain⟨u84,hJ⟩:=hJ
  obtain⟨u85,hJ⟩:=hJ
  obtain⟨u86,hJ⟩:=hJ
  obtain⟨u87,hJ⟩:=hJ
  subst hJ
  have:=hD
  dsimp only
  repeat((fail_if_success (with_reducible show Code.wp _ (Code.loop _) _ _ _));go_step)
  go_loopg [] (n-k) (fun gk wr=>∃i:Nat,gk+i=n∧k≤i∧TkS w D D1 N bs B g3 g5 g6 g8 g9 vt i i wr)
  case atStart=>exact⟨k,by omega,Nat.le_refl _,hS⟩
  case round=>
   clear hS
   obtain⟨i,hgk,hki,hS⟩:=hrel
   have:=hS.gr.keeps
   have e6:=hS.b6.held (i:=0) rfl
   have l6:=hS.b6.lt
   by_cases hin:i<n
   ·obtain⟨b,o,rfl,hB⟩:=HS.out (by intro h;have:=HN.out;rw[h]at this;simp at this;omega)
    obtain⟨c0,hc0⟩:∃c0,bs[i]? =some c0:=⟨_,List.getElem?_eq_getElem (by have:=HN.out;omega)⟩
    have hB1:Byt D1 b o bs:=ii
    have k1:=Keeps.out (D:=D1) (w:=wr) _ _ _ (hB1.out i c0 hc0)
    have k2:=Keeps.out (D:=D1) (w:=wr) _ _ _ (hT.out c0)
    have hu:=u8_lt c0
    have hu2:(c0.toNat:Int)<256:=by omega
    have q1:(((cls c0).toNat:Int)==1)=decide (cls c0=1):=clsB c0 1
    have q2:(((cls c0).toNat:Int)==2)=decide (cls c0=2):=clsB c0 2
    have hdi:decide ((i:Int)<n)=true:=decide_eq_true (by omega)
    have hde:((i:Int)==n)=false:=beq_eq_false_iff_ne.2 (by omega)
    have hlt2:(i:Int)<n:=by omega
    have HC0:=hid hc0
    by_cases h1:cls c0=1
    ·rw[decide_eq_true h1]at q1
     have hS2:=hS.set6 hG (q':=i+1) (k':=i+1) (fun ts nb h=>h.blank HC0.out h1)
     clear h1 q2 hc0
     go_wp2_with fail
     go_roundg (gk-1)
     case measure=>omega
     case rel=>exact⟨i+1,by omega,by omega,by simpa using hS2⟩
    ·rw[decide_eq_false h1]at q1
     by_cases h2:cls c0=2
     ·rw[decide_eq_true h2]at q2
      have HS0:=hid hS
      have H2:=hid h2
      have hcm0:(bs.drop i).dropWhile (· != 10)=(bs.drop (i+1)).dropWhile (· != 10):=by
       obtain⟨hl,e⟩:=List.getElem?_eq_some_iff.1 hc0
       have h10:(c0 != 10)=true:=by
        have:c0≠10:=by rintro rfl;revert h2;decide
        simpa using this
       rw[List.drop_eq_getElem_cons hl,e,List.dropWhile_cons,h10];rfl
      have HCM:=hid hcm0
      clear h1 h2 hc0 hcm0
      repeat((fail_if_success (with_reducible show Code.wp _ (Code.loop _) _ _ _));go_step)
      go_loopg [] (n-i) (fun gk wr=>∃j:Nat,gk+j=n∧i≤j∧TkS w D D1 N bs B g3 g5 g6 g8 g9 vt i j wr∧Hid ((bs.drop i).dropWhile (· != 10)=(bs.drop j).dropWhile (· != 10)))
      case atStart=>exact⟨i,by omega,Nat.le_refl _,HS0.out,hid rfl⟩
      case round=>
       clear hS e6 k1 k2 q1 q2 hu hu2
       rename_i wro
       obtain⟨j,hgj,hij,hS,HJ⟩:=hrel
       have:=hS.gr.keeps
       have e6:=hS.b6.held (i:=0) rfl
       have l6:=hS.b6.lt
       have stop:(j<n→bs[j]? =some 10)→∃W,W=wr∧i<j∧TkS w D D1 N bs B g3 g5 g6 g8 g9 vt j j W:=fun hx=>by
        have hle:j≤bs.length:=by have:=HN.out;omega
        have hlt:i<j:=by
         rcases Nat.lt_or_ge i j with h|h
         ·exact h
         ·obtain rfl:j=i:=by omega
          have h1:=hx hin
          rw[HC0.out]at h1
          have h2:=H2.out
          rw[Option.some.inj h1]at h2
          exact absurd h2 (by decide)
        refine⟨wr,rfl,hlt,?_⟩
        have hd:(bs.drop i).dropWhile (· != 10)=bs.drop j:=by
         rw[HJ.out]
         rcases Nat.lt_or_ge j n with h|h
         ·have h1:=hx h
          obtain⟨hl,e⟩:=List.getElem?_eq_some_iff.1 h1
          rw[List.drop_eq_getElem_cons hl,e,List.dropWhile_cons];rfl
         ·rw[List.drop_eq_nil_of_le (by have:=HN.out;omega)];rfl
        obtain⟨hg,h6,hbz,n8,last,vb,nb,ps,ts,h8,h9,h3,hb,hnb,ht,hl⟩:=hS
        exact⟨hg,h6,hbz,n8,last,vb,nb,ps,ts,h8,h9,h3,hb,hnb,ht,hid (hl.out.comment HC0.out H2.out hlt hle hd)⟩
       have HST:=hid stop
       clear stop
       by_cases hjn:j<n
       ·obtain⟨x,hx⟩:∃x,bs[j]? =some x:=⟨_,List.getElem?_eq_getElem (by have:=HN.out;omega)⟩
        have k1:=Keeps.out (D:=D1) (w:=wr) _ _ _ (hB1.out j x hx)
        have q1:((x.toNat:Int)==10)=decide (x=10):=u8_eq x 10
        have hdj:decide ((j:Int)<n)=true:=decide_eq_true (by omega)
        have hltj:(j:Int)<n:=by omega
        have HX:=hid hx
        clear hx
        by_cases h10:x=10
        ·rw[decide_eq_true h10]at q1
         obtain⟨W,rfl,hlt,hS2⟩:=HST.out (fun _=>by rw[HX.out,h10])
         clear h10
         go_wp2_with fail
         go_step3
         refine⟨rfl,hK (n-j) _ _ (by omega) ⟨D1,B,g3,g5,g6,g8,g9,j,vt,kd,⟨by omega,hG,hT,hD,hS2⟩,?_⟩⟩
         (repeat apply Exists.intro)
         rfl
        ·rw[decide_eq_false h10]at q1
         have hS2:=hS.set6 hG (q':=i) (k':=j+1) (fun _ _ h=>h)
         have hd2:Hid ((bs.drop i).dropWhile (· != 10)=(bs.drop (j+1)).dropWhile (· != 10)):=hid (by
          obtain⟨hl,e⟩:=List.getElem?_eq_some_iff.1 HX.out
          have h10':(x != 10)=true:=by simpa using h10
          rw[HJ.out,List.drop_eq_getElem_cons hl,e,List.dropWhile_cons,h10'];rfl)
         clear h10
         go_wp2_with fail
         go_roundg (gk-1)
         case measure=>omega
         case rel=>exact⟨j+1,by omega,by omega,by simpa using hS2,hd2⟩
       ·have hdj:decide ((j:Int)<n)=false:=decide_eq_false (by omega)
        obtain⟨W,rfl,hlt,hS2⟩:=HST.out (fun h=>absurd h hjn)
        go_wp2_with fail
        go_step3
        refine⟨rfl,hK (n-j) _ _ (by omega) ⟨D1,B,g3,g5,g6,g8,g9,j,vt,kd,⟨by omega,hG,hT,hD,hS2⟩,?_⟩⟩
        (repeat apply Exists.intro)
        rfl
     ·rw[decide_eq_false h2]at q2
      obtain⟨hg,h6,hbz,n8,last,vb,nb,ps,ts,h8,h9,h3,hb,hnb,ht,hL⟩:=hS
      obtain⟨a1,c1,rfl⟩:=ownForm ht
      obtain⟨sk,hsk⟩:∃s,s=scanB (bs.drop i):=⟨_,rfl⟩
      obtain⟨kd',n2⟩:=sk
      have hdl:(bs.drop i).length=n-i:=by rw[List.length_drop,←HN.out]
      have hne:bs.drop i≠[]:=by intro h;rw[h]at hdl;simp at hdl;omega
      obtain⟨f1,f2,_,_⟩:=scan_facts _ hne
      rw[←hsk]at f1 f2
      rw[hdl]at f2
      simp only at f1 f2
      have:=hB1.drop i
      have HSC:=hid (fun W(hW:Keeps D1 W)=>(by have h:=scan_c (hk:=hW) W D1 g5 b (o+i) (c-i) (bs.drop i) hne (by rw[hdl];omega) (by rw[hdl];omega);rw[hdl,←hsk]at h;exact h:Calls prog 37 #[.pointer (some ⟨g5,0,none⟩),.slice (some ⟨b,o+i,none⟩) (n-i) (c-i)] W (SRet W (kd',n2))))
      have hcnt:=hL.out.hn
      have HH:=hid (And.intro h1 (And.intro h2 (And.intro hsk hdl)))
      have e8:=h8.held (i:=0) rfl
      have l8:=h8.lt
      have hin2:(i:Int)≤n:=by omega
      have hnc2:(n:Int)≤c:=by omega
      clear h1 h2 hsk hdl hne hc0
      go_wp2_with fail
      refine(HSC.out _ ii).mono ?_
      rintro e w1 ⟨rfl,m1,hw1⟩
      dsimp only
      obtain⟨W2,hW2⟩:∃W,W=w1.setCell ⟨g8,0,none⟩ (.int .i64 (n2:Int)):=⟨_,rfl⟩
      have b8:Box w1 D1 g8 3 #[.int .i64 n8]:=hw1▸ii
      have e81:=b8.held (i:=0) rfl
      have l81:=b8.lt
      have:=h8.off
      have:New w g8:=⟨hG.n8.1⟩
      have hg2:Gr none w D W2 D1:=by subst hW2;subst hw1;exact ii
      have h82:Box W2 D1 g8 3 #[.int .i64 n2]:=by rw[hW2];simpa using@Box.set_ w1 D1 g8 3 _ 0 (.int .i64 (n2:Int)) b8
      have h62:Box W2 D1 g6 3 #[.int .i64 i]:=by rw[hW2,hw1];exact Box.far (h:=ii) hG.d68 _
      have h92:Box W2 D1 g9 3 #[.int .i64 last]:=by rw[hW2,hw1];exact Box.far (h:=ii) (Ne.symm hG.d89) _
      have h32:Box W2 D1 g3 25 #[vb]:=by rw[hW2,hw1];exact Box.far (h:=ii) hG.d38 _
      have hb2:Own W2 D1 B 50 2 vb nb (ps.flatMap prow):=by rw[hW2,hw1];exact Own.far (h:=ii) (fun e=>by have:=(hb.lt g8 e).1;have:=hG.n8.2;omega) _
      have ht2:Own W2 D1 B 54 3 (.slice a1 ts.length c1) ts.length (ts.flatMap tkrow):=by rw[hW2,hw1];exact Own.far (h:=ii) (fun e=>by have:=(ht.lt g8 e).1;have:=hG.n8.2;omega) _
      have hz2:B≤W2.heap.size:=by rw[hW2,hw1];simpa[World.setCell]using hbz
      have HW2:=hid hW2
      clear hW2 hw1 hg h6 h8 h9 h3 hb ht hbz e6 k1 k2 l6 e8 l8
      have:=hg2.keeps
      go_wp2_with (first|(((with_reducible show wpList _ _ _ ((⟨some 69,_,_,_,_,_⟩:Oper)::_) _ _);refine stopL ?_);rw[←HW2.out]))
      unfold Stop
      clear b8 e81 l81
      have x6:=h62.held (i:=0) rfl
      have x8:=h82.held (i:=0) rfl
      have y6:=h62.lt
      by_cases hk0:kd'=0
      ·subst hk0
       go_wp2_with fail
       refine(spoil_c W2 D1 B g3 g6 g8 g9 nb i n2 last vb ps hG.d36 hG.d38 hG.d39 hG.d69 hG.d89 hG.n3.2 hG.n6.2 hG.n8.2 hG.n9.2 hz2 h32 h62 h82 h92 hb2 hnb (by omega)).mono ?_
       rintro e w3 ⟨rfl,vb',nb',ps',hnb',hO',hB9',hB3',hbs⟩
       have nS:∀g,g<B→g≠g3→g≠g9→¬(g=g3∨g=g9∨vb.ownBlock=some g):=fun g h1 h2 h3 h=>by
        rcases h with h|h|h
        ·exact h2 h
        ·exact h3 h
        ·have:=(hb2.lt g h).1;omega
       have h63:=hbs.box h62 (nS g6 hG.n6.2 (Ne.symm hG.d36) hG.d69)
       have h83:=hbs.box h82 (nS g8 hG.n8.2 (Ne.symm hG.d38) hG.d89)
       have ht3:=hbs.own ht2 (fun k hk h=>by
        have h1:=(ht2.lt k hk).1
        rcases h with h|h|h
        ·have:=hG.n3.2;omega
        ·have:=hG.n9.2;omega
        ·exact(ownApartT ht2 hb2 (by decide)).out k hk h.symm)
       have hof:∀k,(k=g3∨k=g9∨vb.ownBlock=some k)→Off D1 k:=fun k h=>by
        rcases h with rfl|rfl|h
        ·exact h32.off
        ·exact h92.off
        ·exact hb2.off.out k h
       have hg3:Gr none w D w3 D1:=hbs.gr hg2 hof (fun k h=>by
        rcases h with rfl|rfl|h
        ·exact hG.n3.1
        ·exact hG.n9.1
        ·have:=(hb2.lt k h).1;have:=hG.n3;omega)
       obtain⟨e1,e2,e3,_⟩:=HH.out
       have hS3:TkS w D D1 N bs B g3 g5 g6 g8 g9 (.slice a1 ts.length c1) (i+n2) i w3:=⟨hg3,h63,Nat.le_trans hz2 hbs.size,n2,_,vb',nb',ps',ts,h83,hB9',hB3',hO',hnb',ht3,hid (by
        have:=hL.out.bad HC0.out e1 e2 (by rw[←e3]) nb'
        rw[←e3]at this;exact this)⟩
       have hS4:=hS3.set6 hG (q':=i+n2) (k':=i+n2) (fun _ _ h=>h)
       have x63:=h63.held (i:=0) rfl
       have x83:=h83.held (i:=0) rfl
       have y63:=h63.lt
       clear hS3 e1 e2 e3 nS hof hbs hb2 ht2 h62 h82 h92 h32 x6 x8 y6 hO' hB9' hB3' ht3 hg2
       go_wp2_with fail
       go_step3
       refine⟨rfl,hK (n-(i+n2)) _ _ (by omega) ⟨D1,B,g3,g5,g6,g8,g9,i+n2,.slice a1 ts.length c1,.int .i64 0,⟨by omega,hG,hT,hD,by simpa using hS4⟩,?_⟩⟩
       (repeat apply Exists.intro)
       rfl
      ·have hk1:(kd'==0)=false:=by simpa using hk0
       obtain⟨tx,htx⟩:∃tx,tx=(bs.drop i).take n2:=⟨_,rfl⟩
       have hBt:Byt D1 b (o+i) tx:=htx▸Byt.take ii n2
       have hltx:tx.length=n2:=by rw[htx,List.length_take,HH.out.2.2.2];omega
       have ecv:∀W,Keeps D1 W→Sem.run prog (convert 22 9 (.slice (some ⟨b,o+i,none⟩) (((i:Int)+n2).toNat-i) (c-i))) W=.ok (.string (str tx)) W:=fun W hW=>by
        have htn:((i:Int)+n2).toNat-i=n2:=by omega
        rw[htn]
        have h:=byt_str (w:=W) (D:=D1) (b:=b) (o:=o+i) (c:=c-i) (bs:=tx)
        rw[hltx]at h;exact h
       obtain⟨W3,hW3⟩:∃W,W=(W2.alloc (.cells #[.int .i64 kd',.string (str tx),.int .i64 i] 54)).drew:=⟨_,rfl⟩
       have hgW:Gr none w D W3 D1:=hW3▸ii
       have:=hgW.keeps
       have hNx:Box W3 D1 W2.heap.size 54 #[.int .i64 kd',.string (str tx),.int .i64 i]:=by rw[hW3];exact@Box.drew _ _ _ _ _ (Box.new W2 D1 54 _)
       have ht3:Own W3 D1 B 54 3 (.slice a1 ts.length c1) ts.length (ts.flatMap tkrow):=hW3▸ii
       have hb3:Own W3 D1 B 50 2 vb nb (ps.flatMap prow):=hW3▸ii
       have h33:Box W3 D1 g3 25 #[vb]:=hW3▸ii
       have h63:Box W3 D1 g6 3 #[.int .i64 i]:=hW3▸ii
       have h83:Box W3 D1 g8 3 #[.int .i64 n2]:=hW3▸ii
       have h93:Box W3 D1 g9 3 #[.int .i64 last]:=hW3▸ii
       have hz3:B≤W3.heap.size:=by rw[hW3];simp;omega
       obtain⟨v4,w4,hrun,hO4,hc4⟩:=run_append_N (P:=prog) (ty:=45) underlying45 el54 ht3 (b:=W2.heap.size) (o:=0) (m:=1) (c:=1) (news:=[.int .i64 kd',.string (str tx),.int .i64 i]) (by simp) (fun j u hu=>by rw[Nat.zero_add,Box.cell (D:=D1)];simpa using hu) (by intro u hu;simp only[List.mem_cons,List.not_mem_nil,or_false]at hu;rcases hu with rfl|rfl|rfl<;>rfl) (by unfold maxLen;omega) (by omega) hz3
       obtain⟨a4,c4,rfl⟩:=ownForm hO4
       have bx:∀g t(cs:Array Value),g<B→Box W3 D1 g t cs→Box w4 D1 g t cs:=fun g t cs hg h=>by
        have:=ownNe ht3 hg
        exact Box.call W3 w4 D1 g _ _ _
       have hb4:Own w4 D1 B 50 2 vb nb (ps.flatMap prow):=by
        have:=ownApartT hb3 ht3 (by decide)
        exact Own.call _
       have hg4:Gr none w D w4 D1:=by
        have:=ht3.sub none (a:=w) (by have:=hG.n3;omega)
        have:=ht3.off
        exact Gr.call _ none w W3 w4 D D1
       obtain⟨e1,e2,e3,_⟩:=HH.out
       have hS4:TkS w D D1 N bs B g3 g5 g6 g8 g9 (.slice a4 (ts.length+1) c4) (i+n2) i w4:=⟨hg4,bx _ _ _ hG.n6.2 h63,Nat.le_trans hz3 hc4.size,n2,last,vb,nb,ps,ts++[⟨kd',tx,i⟩],bx _ _ _ hG.n8.2 h83,bx _ _ _ hG.n9.2 h93,bx _ _ _ hG.n3.2 h33,hb4,hnb,by
        have e9:(ts++[(⟨kd',tx,i⟩:Tk)]).flatMap tkrow=ts.flatMap tkrow++[.int .i64 kd',.string (str tx),.int .i64 i]:=by simp[tkrow]
        rw[e9,List.length_append];exact hO4,hid (by
        have:=hL.out.tok HC0.out e1 e2 (by rw[←e3];exact hk0) (by have:=HN.out;omega)
        rw[←e3]at this;simp only at this;rw[←htx]at this;exact this)⟩
       have hS5:=hS4.set6 hG (q':=i+n2) (k':=i+n2) (fun _ _ h=>h)
       have m6:=(bx _ _ _ hG.n6.2 h63).held (i:=0) rfl
       have m8:=(bx _ _ _ hG.n8.2 h83).held (i:=0) rfl
       have m9:=(bx _ _ _ hG.n6.2 h63).lt
       have ec1:=ecv W2.drew ii
       have ec2:=ecv W3 ii
       rw[hW3]at ec2
       have ec3:=ecv w4 hg4.keeps
       have HW3:=hid hW3
       have hn2c:(n2:Int)≤n:=by omega
       have hin3:(i:Int)+n2≤n:=by omega
       have hsum:(i:Int)+n2≤1099511627776:=by omega
       have hwr:IntKind.i64.wrap ((i:Int)+n2)=(i:Int)+n2:=by rw[IntKind.wrap_i64];omega
       have hic:(i:Int)+n2≤c:=by omega
       have hi0:(0:Int)≤(i:Int):=by omega
       have hi1:(i:Int)≤(i:Int)+n2:=by omega
       have hi2:(0:Int)≤(i:Int)+n2:=by omega
       have hci:¬(c=i):=by omega
       clear hS4 hW3 htx hltx hk0 bx hO4 hc4 hb4 hg4 hNx ht3 hb3 h33 h63 h83 h93 h62 h82 h92 h32 hb2 ht2 ecv e1 e2 e3
       go_wp2_with fail
       go_region_held3 (fun W'=>W'.cell? ⟨g6,0,none⟩=some (.int .i64 i)∧W'.cell? ⟨g8,0,none⟩=some (.int .i64 n2)∧Sem.run prog (convert 22 9 (.slice (some ⟨b,o+i,none⟩) (((i:Int)+n2).toNat-i) (c-i))) W'=.ok (.string (str tx)) W') (go_keep) (first|(rw[←HW3.out];refine step_append_run (by rfl) _ _ 45 45 (by rfl) _ _ (by rfl) (by rfl) _ _ hrun ?_))
       go_wp2_with fail
       go_step3
       refine⟨rfl,hK (n-(i+n2)) _ _ (by omega) ⟨D1,B,g3,g5,g6,g8,g9,i+n2,.slice a4 (ts.length+1) c4,.int .i64 kd',⟨by omega,hG,hT,hD,by simpa using hS5⟩,?_⟩⟩
       (repeat apply Exists.intro)
       rfl
   ·obtain rfl:i=n:=by omega
    have hdi:decide ((i:Int)<i)=false:=by simp
    obtain⟨hg,h6,hbz,n8,last,vb,nb,ps,ts,h8,h9,h3,hb,hnb,ht,hL⟩:=hS
    obtain⟨a1,c1,rfl⟩:=ownForm ht
    obtain⟨a3,c3,rfl⟩:=ownForm hb
    have e3:=h3.held (i:=0) rfl
    have l3:=h3.lt
    have hcnt:=hL.out.hn
    obtain⟨W1,hW1⟩:∃W,W=(wr.alloc (.cells #[.int .i64 4,.string ⟨#[]⟩,.int .i64 i] 54)).drew:=⟨_,rfl⟩
    have hgW:Gr none w D W1 D1:=hW1▸ii
    have:=hgW.keeps
    have hNx:Box W1 D1 wr.heap.size 54 #[.int .i64 4,.string ⟨#[]⟩,.int .i64 i]:=by
     rw[hW1];exact@Box.drew _ _ _ _ _ (Box.new wr D1 54 _)
    have ht1:Own W1 D1 B 54 3 (.slice a1 ts.length c1) ts.length (ts.flatMap tkrow):=hW1▸ii
    have hb1:Own W1 D1 B 50 2 (.slice a3 nb c3) nb (ps.flatMap prow):=hW1▸ii
    have h31:Box W1 D1 g3 25 #[.slice a3 nb c3]:=hW1▸ii
    have h61:Box W1 D1 g6 3 #[.int .i64 i]:=hW1▸ii
    have hz1:B≤W1.heap.size:=by rw[hW1];simp;omega
    obtain⟨v2,w2,hrun,hO2,hc2⟩:=run_append_N (P:=prog) (ty:=45) underlying45 el54 ht1 (b:=wr.heap.size) (o:=0) (m:=1) (c:=1) (news:=[.int .i64 4,.string ⟨#[]⟩,.int .i64 i]) (by simp) (fun j u hu=>by rw[Nat.zero_add,Box.cell (D:=D1)];simpa using hu) (by intro u hu;simp only[List.mem_cons,List.not_mem_nil,or_false]at hu;rcases hu with rfl|rfl|rfl<;>rfl) (by unfold maxLen;omega) (by omega) hz1
    obtain⟨a2,c2,rfl⟩:=ownForm hO2
    have hb2:Own w2 D1 B 50 2 (.slice a3 nb c3) nb (ps.flatMap prow):=by
     have:=ownApartT hb1 ht1 (by decide)
     exact Own.call _
    have h32:Box w2 D1 g3 25 #[.slice a3 nb c3]:=by
     have:=ownNe ht1 hG.n3.2
     exact Box.call W1 w2 D1 g3 _ _ _
    have hg2:Gr none w D w2 D1:=by
     have:=ht1.sub none (a:=w) (by have:=hG.n3;omega)
     have:=ht1.off
     exact Gr.call _ none w W1 w2 D D1
    have hg3:Gr none w D (w2.setCell ⟨g3,0,none⟩ (.slice a3 nb c3)) D1:=by
     have:=h32.off
     have:New w g3:=⟨hG.n3.1⟩
     exact ii
    have hO3:Own (w2.setCell ⟨g3,0,none⟩ (.slice a3 nb c3)) D1 B 54 3 (.slice a2 (ts.length+1) c2) (ts.length+1) (ts.flatMap tkrow++[.int .i64 4,.string ⟨#[]⟩,.int .i64 i]):=Own.far (h:=hO2) (fun e=>by have:=(hO2.lt g3 e).1;have:=hG.n3.2;omega) _
    have hb3:Own (w2.setCell ⟨g3,0,none⟩ (.slice a3 nb c3)) D1 B 50 2 (.slice a3 nb c3) nb (ps.flatMap prow):=Own.far (h:=hb2) (fun e=>by have:=(hb2.lt g3 e).1;have:=hG.n3.2;omega) _
    have h33:Box (w2.setCell ⟨g3,0,none⟩ (.slice a3 nb c3)) D1 g3 25 #[.slice a3 nb c3]:=by simpa using@Box.set_ w2 D1 g3 25 _ 0 (.slice a3 nb c3) h32
    have k36:w2.cell? ⟨g6,0,none⟩=some (.int .i64 i):=by
     have:=ownNe ht1 hG.n6.2
     exact(Box.call W1 w2 D1 g6 _ _ _).held (i:=0) rfl |>.1
    have k33:=h32.held (i:=0) rfl
    have m36:(w2.setCell ⟨g3,0,none⟩ (.slice a3 nb c3)).cell? ⟨g6,0,none⟩=some (.int .i64 i):=by
     have:=ownNe ht1 hG.n6.2
     exact(Box.far (h:=(Box.call W1 w2 D1 g6 _ _ _:Box w2 D1 g6 3 #[.int .i64 i])) (Ne.symm hG.d36) _).held (i:=0) rfl |>.1
    have m33:=(h33.held (i:=0) rfl).1
    have mfr:=(h33.held (i:=0) rfl).2
    have l33:=h32.lt
    have fin:TokS w D N bs (.returned (.tuple #[.slice a2 (ts.length+1) c2,.slice a3 nb c3,.int .i64 0])) (w2.setCell ⟨g3,0,none⟩ (.slice a3 nb c3)):=by
     have:=hg3.keeps
     obtain⟨D2,hP2,hs2⟩:=hO3.pub
     have:=hP2.keeps
     have:=hP2.le
     have hap:=ownApartT hb3 hO3 (by decide)
     have hb4:Own (w2.setCell ⟨g3,0,none⟩ (.slice a3 nb c3)) D2 B 50 2 (.slice a3 nb c3) nb (ps.flatMap prow):=⟨hb3.own,⟨fun g e=>hP2.off g (hb3.off.out g e) (hap.out g e)⟩⟩
     obtain⟨D3,hP3,hs3⟩:=hb4.pub
     have:=hP3.le
     have hge:∀k,w.heap.size≤B→B≤k→w.heap.size≤k:=fun k h1 h2=>by omega
     have hwB:w.heap.size≤B:=by have:=hG.n3;omega
     have g4:=hP2.gr none w D hg3 (fun k e=>hge k hwB (hO3.lt k e).1)
     have g5:=hP3.gr none w D g4 (fun k e=>hge k hwB (hb4.lt k e).1)
     refine⟨D3,.slice a2 (ts.length+1) c2,.slice a3 nb c3,nb,ps,ts,rfl,g5.g,?_,hs3,hnb,?_⟩
     ·have:=hs2.le (D':=D3)
      rw[←HN.out]
      simpa[tkrow,str]using this
     ·rw[←HN.out];exact hL.out
    have HF:=hid fin
    have HW1:=hid hW1
    clear fin hW1 hO3 hb3 hg3 hg2 hb2 ht1 hb1 h31 h61 hNx hO2 hc2
    go_wp2_with fail
    go_region_held3 (fun W'=>W'.cell? ⟨g6,0,none⟩=some (.int .i64 i)∧W'.cell? ⟨g3,0,none⟩=some (.slice a3 nb c3)) (go_keep) (first|(rw[←HW1.out];refine step_append_run (by rfl) _ _ 45 45 (by rfl) _ _ (by rfl) (by rfl) _ _ hrun ?_))
    go_wp2_with fail
    simp only[Exit.jump]
    refine bodyPost_ret (v:=.tuple #[_,_,_]) (by simp[results,results12,go_sem,m33]) rfl HF.out
end Go.Proofs.YticgonfhjcaohaaGreatDoor
