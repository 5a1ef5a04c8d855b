/- TopParsed, part 29. -/
import Derived.Test.YticgonfhjcaohaaGreatDoorP23
set_option maxRecDepth 100000
set_option maxHeartbeats 32000000
namespace Go.Proofs.YticgonfhjcaohaaGreatDoor
open Go.RowKit Go.VT _root_.Go.Proofs.Tryz
abbrev mapC:List (Int×Value):=[(1,.func (Fn.func 57) #[] #[]),(2,.func (Fn.func 58) #[] #[]),(3,.func (Fn.func 59) #[] #[]),(4,.func (Fn.func 60) #[] #[]),(5,.func (Fn.func 61) #[] #[]),(6,.func (Fn.func 62) #[] #[]),(7,.func (Fn.func 63) #[] #[])]
abbrev mapA:List (Int×Value):=[(1,.func (Fn.func 64) #[] #[]),(2,.func (Fn.func 65) #[] #[]),(3,.func (Fn.func 66) #[] #[]),(4,.func (Fn.func 67) #[] #[]),(5,.func (Fn.func 68) #[] #[]),(6,.func (Fn.func 69) #[] #[]),(7,.func (Fn.func 70) #[] #[]),(8,.func (Fn.func 71) #[] #[]),(9,.func (Fn.func 72) #[] #[])]
theorem newPrinter_c(w:World)(D:Gh)[hk:Keeps D w]:
  Calls prog 24 #[] w fun e w'=>∃m1 m2:Nat,e=.returned (.agg #[.map (some m1),.map (some m2)])∧MI w' m1 mapC∧MI w' m2 mapA∧w.heap.size≤m1∧w.heap.size≤m2∧Cll none w w':=by
 have hML0:MI ((w.alloc (.cells #[.map none,.map none] 73)).alloc (.map #[] 0)) (w.heap.size+1) []:=by
  have:=MI.new (w.alloc (.cells #[.map none,.map none] 73));simpa using this
 have hB0:Box ((w.alloc (.cells #[.map none,.map none] 73)).alloc (.map #[] 0)) D w.heap.size 73 #[.map none,.map none]:=ii
 have hG0:Gr none w D ((w.alloc (.cells #[.map none,.map none] 73)).alloc (.map #[] 0)) D:=ii
 have hmm:∀(w:World),(Instr.makeMap 70 none).run prog w=.ok (.map (some w.heap.size)) (w.alloc (.map #[] 0)):=fun _=>rfl
 have hmm2:∀(w:World),(Instr.makeMap 71 none).run prog w=.ok (.map (some w.heap.size)) (w.alloc (.map #[] 0)):=fun _=>rfl
 obtain⟨W0,hW0⟩:∃W,W=(w.alloc (.cells #[.map none,.map none] 73)).alloc (.map #[] 0):=⟨_,rfl⟩
 rw[←hW0]at hML0 hB0 hG0
 have HW0:=hid hW0
 clear hW0
 have hne:NeX w.heap.size (some (w.heap.size+1)):=neGt (by omega)
 have hnw:New w (w.heap.size+1):=⟨by omega⟩
 go_enter func24,ntmps24
 go_wp2_with (first|(((with_reducible show wpList _ _ _ ((⟨none,_,_,_,_,_⟩:Oper)::_) _ _);refine stopL ?_);rw[←HW0.out]))
 unfold Stop
 go_wp2_with (first|((with_reducible show wpList _ _ _ ((⟨none,.insert _ _ _ _,_,_,_,_⟩:Oper)::_) _ _);refine wpList_insert_newI rfl 70 _ _ _ rfl rfl underlying70 underlying3 rfl hML0 1 rfl rfl (by rfl) ?_;intro W1 hML1 hc1;refine stopL ?_))
 unfold Stop
 have hB1:Box W1 D w.heap.size 73 #[.map none,.map none]:=ii
 have hG1:Gr none w D W1 D:=ii
 clear hc1
 go_wp2_with (first|((with_reducible show wpList _ _ _ ((⟨none,.insert _ _ _ _,_,_,_,_⟩:Oper)::_) _ _);refine wpList_insert_newI rfl 70 _ _ _ rfl rfl underlying70 underlying3 rfl hML1 2 rfl rfl (by rfl) ?_;intro W2 hML2 hc2;refine stopL ?_))
 unfold Stop
 have hB2:Box W2 D w.heap.size 73 #[.map none,.map none]:=ii
 have hG2:Gr none w D W2 D:=ii
 clear hc2
 go_wp2_with (first|((with_reducible show wpList _ _ _ ((⟨none,.insert _ _ _ _,_,_,_,_⟩:Oper)::_) _ _);refine wpList_insert_newI rfl 70 _ _ _ rfl rfl underlying70 underlying3 rfl hML2 3 rfl rfl (by rfl) ?_;intro W3 hML3 hc3;refine stopL ?_))
 unfold Stop
 have hB3:Box W3 D w.heap.size 73 #[.map none,.map none]:=ii
 have hG3:Gr none w D W3 D:=ii
 clear hc3
 go_wp2_with (first|((with_reducible show wpList _ _ _ ((⟨none,.insert _ _ _ _,_,_,_,_⟩:Oper)::_) _ _);refine wpList_insert_newI rfl 70 _ _ _ rfl rfl underlying70 underlying3 rfl hML3 4 rfl rfl (by rfl) ?_;intro W4 hML4 hc4;refine stopL ?_))
 unfold Stop
 have hB4:Box W4 D w.heap.size 73 #[.map none,.map none]:=ii
 have hG4:Gr none w D W4 D:=ii
 clear hc4
 go_wp2_with (first|((with_reducible show wpList _ _ _ ((⟨none,.insert _ _ _ _,_,_,_,_⟩:Oper)::_) _ _);refine wpList_insert_newI rfl 70 _ _ _ rfl rfl underlying70 underlying3 rfl hML4 5 rfl rfl (by rfl) ?_;intro W5 hML5 hc5;refine stopL ?_))
 unfold Stop
 have hB5:Box W5 D w.heap.size 73 #[.map none,.map none]:=ii
 have hG5:Gr none w D W5 D:=ii
 clear hc5
 go_wp2_with (first|((with_reducible show wpList _ _ _ ((⟨none,.insert _ _ _ _,_,_,_,_⟩:Oper)::_) _ _);refine wpList_insert_newI rfl 70 _ _ _ rfl rfl underlying70 underlying3 rfl hML5 6 rfl rfl (by rfl) ?_;intro W6 hML6 hc6;refine stopL ?_))
 unfold Stop
 have hB6:Box W6 D w.heap.size 73 #[.map none,.map none]:=ii
 have hG6:Gr none w D W6 D:=ii
 clear hc6
 go_wp2_with (first|((with_reducible show wpList _ _ _ ((⟨none,.insert _ _ _ _,_,_,_,_⟩:Oper)::_) _ _);refine wpList_insert_newI rfl 70 _ _ _ rfl rfl underlying70 underlying3 rfl hML6 7 rfl rfl (by rfl) ?_;intro W7 hML7 hc7;refine stopL ?_))
 unfold Stop
 have hB7:Box W7 D w.heap.size 73 #[.map none,.map none]:=ii
 have hG7:Gr none w D W7 D:=ii
 clear hc7
 have hs7:=hG7.bl.size
 have hl7:=hML7.lt
 have hX0:MI (W7.alloc (.map #[] 0)) W7.heap.size []:=MI.new W7
 have hY0:MI (W7.alloc (.map #[] 0)) (w.heap.size+1) mapC:=@MI.alloc _ _ _ _ hML7
 have hB8:Box (W7.alloc (.map #[] 0)) D w.heap.size 73 #[.map none,.map none]:=ii
 have hG8:Gr none w D (W7.alloc (.map #[] 0)) D:=ii
 have hs8:(W7.alloc (.map #[] 0)).heap.size=W7.heap.size+1:=by simp
 obtain⟨V0,hV0⟩:∃W,W=W7.alloc (.map #[] 0):=⟨_,rfl⟩
 obtain⟨m2,hm2⟩:∃m,m=W7.heap.size:=⟨_,rfl⟩
 rw[←hV0]at hX0 hY0 hB8 hG8 hs8
 rw[←hm2]at hX0 hs8 hl7 hs7
 have HV0:=hid hV0
 have HM2:=hid hm2
 clear hV0 hm2
 have hmm3:∀q,(Instr.makeMap 71 none).run prog W7=q↔ .ok (.map (some m2)) V0=q:=fun q=>by rw[HM2.out,HV0.out];exact Iff.rfl
 have hne2:NeX (w.heap.size+1) (some m2):=⟨fun e=>by have:=Option.some.inj e;omega⟩
 have hne3:NeX w.heap.size (some m2):=⟨fun e=>by have:=Option.some.inj e;omega⟩
 have hnw2:New w m2:=⟨by omega⟩
 have hof2:Off D m2:=Keeps.offNew (w:=w) (by omega)
 clear hB7 hG7 hs8
 go_wp2_with (first|(((with_reducible show wpList _ _ _ ((⟨none,_,_,_,_,_⟩:Oper)::_) _ _);refine stopL ?_);rw[←HV0.out,←HM2.out]))
 unfold Stop
 have hG:=hG8
 have hB:=hB8
 clear hB0 hB1 hB2 hB3 hB4 hB5 hB6 hG0 hG1 hG2 hG3 hG4 hG5 hG6 hML0 hML1 hML2 hML3 hML4 hML5 hML6
 go_wp2_with (first|((with_reducible show wpList _ _ _ ((⟨none,.insert _ _ _ _,_,_,_,_⟩:Oper)::_) _ _);refine wpList_insert_newI rfl 71 _ _ _ rfl rfl underlying71 underlying3 rfl hX0 1 rfl rfl (by rfl) ?_;intro V1 hX1 hc1;refine stopL ?_))
 unfold Stop
 have hY1:MI V1 (w.heap.size+1) mapC:=ii
 replace hB:Box V1 D w.heap.size 73 #[.map none,.map none]:=@Box.call V0 V1 D _ _ _ (some m2) hc1 hB hne3
 replace hG:Gr none w D V1 D:=(have:=hG;ii)
 clear hc1
 go_wp2_with (first|((with_reducible show wpList _ _ _ ((⟨none,.insert _ _ _ _,_,_,_,_⟩:Oper)::_) _ _);refine wpList_insert_newI rfl 71 _ _ _ rfl rfl underlying71 underlying3 rfl hX1 2 rfl rfl (by rfl) ?_;intro V2 hX2 hc2;refine stopL ?_))
 unfold Stop
 have hY2:MI V2 (w.heap.size+1) mapC:=ii
 replace hB:Box V2 D w.heap.size 73 #[.map none,.map none]:=@Box.call V1 V2 D _ _ _ (some m2) hc2 hB hne3
 replace hG:Gr none w D V2 D:=(have:=hG;ii)
 clear hc2
 go_wp2_with (first|((with_reducible show wpList _ _ _ ((⟨none,.insert _ _ _ _,_,_,_,_⟩:Oper)::_) _ _);refine wpList_insert_newI rfl 71 _ _ _ rfl rfl underlying71 underlying3 rfl hX2 3 rfl rfl (by rfl) ?_;intro V3 hX3 hc3;refine stopL ?_))
 unfold Stop
 have hY3:MI V3 (w.heap.size+1) mapC:=ii
 replace hB:Box V3 D w.heap.size 73 #[.map none,.map none]:=@Box.call V2 V3 D _ _ _ (some m2) hc3 hB hne3
 replace hG:Gr none w D V3 D:=(have:=hG;ii)
 clear hc3
 go_wp2_with (first|((with_reducible show wpList _ _ _ ((⟨none,.insert _ _ _ _,_,_,_,_⟩:Oper)::_) _ _);refine wpList_insert_newI rfl 71 _ _ _ rfl rfl underlying71 underlying3 rfl hX3 4 rfl rfl (by rfl) ?_;intro V4 hX4 hc4;refine stopL ?_))
 unfold Stop
 have hY4:MI V4 (w.heap.size+1) mapC:=ii
 replace hB:Box V4 D w.heap.size 73 #[.map none,.map none]:=@Box.call V3 V4 D _ _ _ (some m2) hc4 hB hne3
 replace hG:Gr none w D V4 D:=(have:=hG;ii)
 clear hc4
 go_wp2_with (first|((with_reducible show wpList _ _ _ ((⟨none,.insert _ _ _ _,_,_,_,_⟩:Oper)::_) _ _);refine wpList_insert_newI rfl 71 _ _ _ rfl rfl underlying71 underlying3 rfl hX4 5 rfl rfl (by rfl) ?_;intro V5 hX5 hc5;refine stopL ?_))
 unfold Stop
 have hY5:MI V5 (w.heap.size+1) mapC:=ii
 replace hB:Box V5 D w.heap.size 73 #[.map none,.map none]:=@Box.call V4 V5 D _ _ _ (some m2) hc5 hB hne3
 replace hG:Gr none w D V5 D:=(have:=hG;ii)
 clear hc5
 go_wp2_with (first|((with_reducible show wpList _ _ _ ((⟨none,.insert _ _ _ _,_,_,_,_⟩:Oper)::_) _ _);refine wpList_insert_newI rfl 71 _ _ _ rfl rfl underlying71 underlying3 rfl hX5 6 rfl rfl (by rfl) ?_;intro V6 hX6 hc6;refine stopL ?_))
 unfold Stop
 have hY6:MI V6 (w.heap.size+1) mapC:=ii
 replace hB:Box V6 D w.heap.size 73 #[.map none,.map none]:=@Box.call V5 V6 D _ _ _ (some m2) hc6 hB hne3
 replace hG:Gr none w D V6 D:=(have:=hG;ii)
 clear hc6
 go_wp2_with (first|((with_reducible show wpList _ _ _ ((⟨none,.insert _ _ _ _,_,_,_,_⟩:Oper)::_) _ _);refine wpList_insert_newI rfl 71 _ _ _ rfl rfl underlying71 underlying3 rfl hX6 7 rfl rfl (by rfl) ?_;intro V7 hX7 hc7;refine stopL ?_))
 unfold Stop
 have hY7:MI V7 (w.heap.size+1) mapC:=ii
 replace hB:Box V7 D w.heap.size 73 #[.map none,.map none]:=@Box.call V6 V7 D _ _ _ (some m2) hc7 hB hne3
 replace hG:Gr none w D V7 D:=(have:=hG;ii)
 clear hc7
 go_wp2_with (first|((with_reducible show wpList _ _ _ ((⟨none,.insert _ _ _ _,_,_,_,_⟩:Oper)::_) _ _);refine wpList_insert_newI rfl 71 _ _ _ rfl rfl underlying71 underlying3 rfl hX7 8 rfl rfl (by rfl) ?_;intro V8 hX8 hc8;refine stopL ?_))
 unfold Stop
 have hY8:MI V8 (w.heap.size+1) mapC:=ii
 replace hB:Box V8 D w.heap.size 73 #[.map none,.map none]:=@Box.call V7 V8 D _ _ _ (some m2) hc8 hB hne3
 replace hG:Gr none w D V8 D:=(have:=hG;ii)
 clear hc8
 go_wp2_with (first|((with_reducible show wpList _ _ _ ((⟨none,.insert _ _ _ _,_,_,_,_⟩:Oper)::_) _ _);refine wpList_insert_newI rfl 71 _ _ _ rfl rfl underlying71 underlying3 rfl hX8 9 rfl rfl (by rfl) ?_;intro V9 hX9 hc9;refine stopL ?_))
 unfold Stop
 have hY9:MI V9 (w.heap.size+1) mapC:=ii
 replace hB:Box V9 D w.heap.size 73 #[.map none,.map none]:=@Box.call V8 V9 D _ _ _ (some m2) hc9 hB hne3
 replace hG:Gr none w D V9 D:=(have:=hG;ii)
 clear hc9
 have e0:=hB.held (i:=0) rfl
 have e1:=hB.held (i:=1) rfl
 have lb:=hB.lt
 have:=hB.off
 have hGz:Gr none w D ((V9.setCell ⟨w.heap.size,0,none⟩ (.map (some (w.heap.size+1)))).setCell ⟨w.heap.size,1,none⟩ (.map (some m2))) D:=ii
 have hX9':MI ((V9.setCell ⟨w.heap.size,0,none⟩ (.map (some (w.heap.size+1)))).setCell ⟨w.heap.size,1,none⟩ (.map (some m2))) m2 mapA:=@MI.set _ _ _ _ _ (@MI.set _ _ _ _ _ hX9)
 have hY9':MI ((V9.setCell ⟨w.heap.size,0,none⟩ (.map (some (w.heap.size+1)))).setCell ⟨w.heap.size,1,none⟩ (.map (some m2))) (w.heap.size+1) mapC:=ii
 go_wp2_with fail
 have hBz:Box ((V9.setCell ⟨w.heap.size,0,none⟩ (.map (some (w.heap.size+1)))).setCell ⟨w.heap.size,1,none⟩ (.map (some m2))) D w.heap.size 73 #[.map (some (w.heap.size+1)),.map (some m2)]:=by simpa using@Box.set_ _ D w.heap.size 73 _ 1 (.map (some m2)) (@Box.set_ V9 D w.heap.size 73 _ 0 (.map (some (w.heap.size+1))) hB)
 exact bodyPost_ret (v:=.agg #[.map (some (w.heap.size+1)),.map (some m2)]) (by simp[results,results24,go_sem,Box.cell (D:=D) (g:=w.heap.size)]) rfl ⟨w.heap.size+1,m2,rfl,hY9',hX9',by omega,by omega,⟨hGz.bl⟩⟩
end Go.Proofs.YticgonfhjcaohaaGreatDoor
namespace Go.Proofs.YticgonfhjcaohaaGreatDoor
open Go.RowKit Go.VT _root_.Go.Proofs.Tryz
class TW(w:World):Prop where
 out:Lib.TabIs prog w "internal/strconv.uint64pow10" .u64 Lib.pow10Tab
theorem TW.of{w w':World}(h:TW w)(e:∀g,g<w.heap.size→w'.heap[g]? =w.heap[g]?):TW w':=by
 have h1:=h.out
 refine⟨?_⟩
 unfold Lib.TabIs World.var? at h1⊢
 cases hg:prog.globalNamed "internal/strconv.uint64pow10" with
 |none=>rw[hg]at h1;cases h1
 |some g=>
  rw[hg]at h1
  simp only[Option.bind_some]at h1⊢
  rcases Nat.lt_or_ge g w.heap.size with hl|hl
  ·rw[e g hl];exact h1
  ·rw[Array.getElem?_eq_none hl]at h1;cases h1
section
variable{w w':World}
instance TW.drew[h:TW w]:TW w.drew:=h.of fun _ _=>rfl
instance TW.drewN(n:Nat)[h:TW w]:TW (w.drewN n):=h.of fun _ _=>rfl
instance TW.alloc(o:Obj)[h:TW w]:TW (w.alloc o):=h.of fun g hl=>Below.heap_alloc w o g hl
instance TW.call[hc:Cll none w w'][h:TW w]:TW w':=h.of fun g hl=>hc.out.block g hl (by simp)
end
theorem dataL(xs:List Bs):(xs.map str).map (fun x=>x.data.toList)=xs:=by
 induction xs with
 |nil=>rfl
 |cons x r ih=>rw[List.map_cons,List.map_cons,ih];rfl
theorem join_c(w:World)(bk o c:Nat)(xs:List Bs)(sep:Bs)(hcells:∀(j:Nat) x,xs[j]? =some x→w.cell? ⟨bk,o+j,none⟩=some (.string (str x)))(hbk:bk<w.heap.size)(hcap:xs.length≤c)(hN:xs.length≤140737488355328)(hlen:(Lib.join xs sep).length≤140737488355328):
  Calls prog 31 #[.slice (some ⟨bk,o,none⟩) xs.length c,.string (str sep)] w fun e w'=>e=.returned (.string (str (Lib.join xs sep)))∧Cll none w w':=by
 have h:=strings_Join bk o c (xs.map str) (str sep) w (fun j x e=>by
  rw[List.getElem?_map,Option.map_eq_some_iff]at e
  obtain⟨y,hy,rfl⟩:=e
  exact hcells j y hy) hbk (by simpa using hN) (by simpa using hcap) (by rw[dataL];exact hlen)
 rw[dataL,List.length_map]at h
 exact h.mono fun e w' hq=>⟨hq.1,⟨Bl.of_below hq.2⟩⟩
theorem words_c(w:World)(bk o c:Nat)(xs:List Bs)(hcells:∀(j:Nat) x,xs[j]? =some x→w.cell? ⟨bk,o+j,none⟩=some (.string (str x)))(hbk:bk<w.heap.size)(hcap:xs.length≤c)(hN:xs.length≤140737488355328)(hlen:(Lib.join xs [32]).length≤140737488355328):
  Calls prog 73 #[.slice (some ⟨bk,o,none⟩) xs.length c] w fun e w'=>e=.returned (.string (str (Lib.join xs [32])))∧Cll none w w':=by
 have HJ:=hid (join_c w bk o c xs [32] hcells hbk hcap hN hlen)
 clear hcells hlen
 go_enter func73,ntmps73
 go_wp2_with fail
 refine HJ.out.mono ?_
 rintro e w1 ⟨rfl,hc⟩
 go_wp2_with fail
 go_ret
 exact⟨rfl,hc⟩
theorem itoa_c(w:World)[h:TW w](n:Int)(h0: -9223372036854775808≤n)(h1:n≤9223372036854775807):Calls prog 135 #[.int .i64 n] w fun e w'=>e=.returned (.string (str (Lib.itoa n)))∧Cll none w w':=by
 refine(strconv_Itoa n h0 h1 w h.out).mono ?_
 rintro e w' ⟨rfl,k,os,rfl⟩
 exact⟨rfl,⟨⟨rfl,rfl,rfl,by show w.heap.size≤(w.heap++os).size;rw[Array.size_append];omega,fun j hj _=>Sort.heap_grow_old (w.drewN k) os hj⟩⟩⟩
end Go.Proofs.YticgonfhjcaohaaGreatDoor
