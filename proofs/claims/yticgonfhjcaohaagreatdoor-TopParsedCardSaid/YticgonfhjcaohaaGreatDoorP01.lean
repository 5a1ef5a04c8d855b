/- TopParsed, part 1. -/
import Derived.WalkSpells
import Derived.WalkLawsBesides
import Derived.Lib.Hide
import Derived.Deep.AppendLies
import Derived.Laws.CopyOwn
import Derived.Deep.WholeRow
import Derived.Test.YticgonfhjcaohaaGreatDoorRows
import Derived.Deep.RegionHeld3
import Derived.BigQuiet
import Derived.StillTailTactics
set_option maxRecDepth 100000
set_option maxHeartbeats 32000000
namespace Go.VT
abbrev ii:=@inferInstance.{0}
theorem hid{p:Prop}(h:p):Go.RowKit.Hid p:=Lib.hid h
open Go.RowKit
abbrev Gh:=Nat→Nat→Option Value
class Keeps(D:Gh)(w:World):Prop where
 out:∀b o v,D b o=some v→w.cell? ⟨b,o,none⟩=some v
class Le(D:outParam Gh)(D':Gh):Prop where
 out:∀b o v,D b o=some v→D' b o=some v
class Off(D:Gh)(g:Nat):Prop where
 out:∀o,D g o=none
class OffX(D:Gh)(X:Option Nat):Prop where
 out:∀g,X=some g→Off D g
class NeX(g:Nat)(X:Option Nat):Prop where
 out:some g≠X
class New(w:World)(g:Nat):Prop where
 out:w.heap.size≤g
structure Bl(X:Option Nat)(a w:World):Prop where
 os:w.os=a.os
 tape:w.tape=a.tape
 output:w.output=a.output
 size:a.heap.size≤w.heap.size
 block:∀k,k<a.heap.size→some k≠X→w.heap[k]? =a.heap[k]?
class Cll(X:outParam (Option Nat))(w:outParam World)(w':World):Prop where
 out:Bl X w w'
class Gro(X:outParam (Option Nat))(w:outParam World)(D:outParam Gh)(w':World)(D':outParam Gh):Prop where
 bl:Bl X w w'
 keeps:Keeps D' w'
 le:Le D D'
 old:∀b,b<w.heap.size→∀o,D' b o=D b o
class Gr(X:Option Nat)(w:World)(D:Gh)(w':World)(D':Gh):Prop where
 bl:Bl X w w'
 keeps:Keeps D' w'
 le:∀b o v,D b o=some v→D' b o=some v
 old:∀b,b<w.heap.size→∀o,D' b o=D b o
class Bel(X:Option Nat)(w w':World):Prop where
 out:Bl X w w'
class Sub(X Y:Option Nat)(w:World):Prop where
 out:∀k,k<w.heap.size→some k≠Y→some k≠X
theorem Bl.refl(X:Option Nat)(w:World):Bl X w w:=⟨rfl,rfl,rfl,Nat.le_refl _,fun _ _ _=>rfl⟩
theorem Bl.trans{X:Option Nat}{a b c:World}(h:Bl X a b)(k:Bl X b c):Bl X a c:=
 ⟨k.os.trans h.os,k.tape.trans h.tape,k.output.trans h.output,Nat.le_trans h.size k.size,fun i hi hx=>(k.block i (Nat.lt_of_lt_of_le hi h.size) hx).trans (h.block i hi hx)⟩
theorem Bl.trans'{X Y:Option Nat}{a b c:World}(h:Bl Y a b)(k:Bl X b c)(hs:∀k,k<a.heap.size→some k≠Y→some k≠X):Bl Y a c:=
 ⟨k.os.trans h.os,k.tape.trans h.tape,k.output.trans h.output,Nat.le_trans h.size k.size,fun i hi hx=>(k.block i (Nat.lt_of_lt_of_le hi h.size) (hs i hi hx)).trans (h.block i hi hx)⟩
theorem Bl.drew{X:Option Nat}{a w:World}(h:Bl X a w):Bl X a w.drew:=⟨h.os,h.tape,h.output,h.size,h.block⟩
theorem Bl.drewN{X:Option Nat}{a w:World}(h:Bl X a w)(n:Nat):Bl X a (w.drewN n):=⟨h.os,h.tape,h.output,h.size,h.block⟩
theorem Bl.alloc{X:Option Nat}{a w:World}(h:Bl X a w)(o:Obj):Bl X a (w.alloc o):=
 h.trans ⟨rfl,rfl,rfl,by simp,fun k hk _=>Below.heap_alloc _ _ _ hk⟩
theorem Bl.setNew{X:Option Nat}{a w:World}(h:Bl X a w){p:Addr}(hp:a.heap.size≤p.block)(u:Value):Bl X a (w.setCell p u):=
 ⟨h.os,h.tape,h.output,by simpa[World.setCell]using h.size,fun k hk hx=>(Below.heap_setCell _ _ _ _ (by omega)).trans (h.block k hk hx)⟩
theorem Bl.setX{g:Nat}{a w:World}(h:Bl (some g) a w){p:Addr}(hp:p.block=g)(u:Value):Bl (some g) a (w.setCell p u):=
 ⟨h.os,h.tape,h.output,by simpa[World.setCell]using h.size,fun k hk hx=>(Below.heap_setCell _ _ _ _ (by rintro rfl;exact hx (by rw[hp]))).trans (h.block k hk hx)⟩
theorem Bl.below{w w':World}(h:Bl none w w'):Below w.heap.size w w':=⟨h.os,h.tape,h.output,h.size,fun k hk=>h.block k hk (by simp)⟩
theorem Bl.of_below{X:Option Nat}{w w':World}(h:Below w.heap.size w w'):Bl X w w':=⟨h.os,h.tape,h.output,h.size,fun k hk _=>h.block k hk⟩
theorem Bl.grown{w w':World}{X:Option Nat}(h:w.grownBy w' X):Bl X w w':=⟨h.os,h.tape,h.output,h.size,h.block⟩
instance OffX.none(D:Gh):OffX D none:=⟨fun _ h=>by cases h⟩
instance OffX.some(D:Gh)(g:Nat)[h:Off D g]:OffX D (some g):=⟨fun _ e=>by cases e;exact h⟩
instance NeX.none(g:Nat):NeX g none:=⟨by simp⟩
theorem Keeps.lt{D:Gh}{w:World}[h:Keeps D w]{b o:Nat}{v:Value}(e:D b o=some v):b<w.heap.size:=
 World.block_lt_of_cell? w _ (h.out b o v e)
theorem Keeps.offNew{D:Gh}{w:World}[h:Keeps D w]{g:Nat}(hg:w.heap.size≤g):Off D g:=⟨fun o=>by
 cases e:D g o with
 |none=>rfl
 |some v=>have:=Keeps.lt (w:=w) e;omega⟩
instance Off.size(D:Gh)(w:World)[Keeps D w]:Off D w.heap.size:=Keeps.offNew (w:=w) (Nat.le_refl _)
instance Off.sizeAdd(D:Gh)(w:World)(k:Nat)[Keeps D w]:Off D (w.heap.size+k):=Keeps.offNew (w:=w) (by omega)
instance Keeps.drew(D:Gh)(w:World)[h:Keeps D w]:Keeps D w.drew:=⟨h.out⟩
instance Keeps.drewN(D:Gh)(w:World)(n:Nat)[h:Keeps D w]:Keeps D (w.drewN n):=⟨h.out⟩
instance Keeps.alloc(D:Gh)(w:World)(x:Obj)[h:Keeps D w]:Keeps D (w.alloc x):=⟨fun b o v e=>
 (World.cell?_alloc_lt w x ⟨b,o,none⟩ (Keeps.lt e)).trans (h.out b o v e)⟩
instance Keeps.setCell(D:Gh)(w:World)(g o:Nat)(u:Value)[h:Keeps D w][hp:Off D g]:Keeps D (w.setCell ⟨g,o,none⟩ u):=⟨fun b o' v e=>
 (World.cell?_setCell_other w _ ⟨b,o',none⟩ u (by rintro⟨⟩;rw[hp.out]at e;cases e)).trans (h.out b o' v e)⟩
theorem Keeps.of_bl{X:Option Nat}{D:Gh}{w w':World}[h:Keeps D w][ho:OffX D X](hb:Bl X w w'):Keeps D w':=⟨fun b o v e=>
 (World.cell?_of_block (a:=⟨b,o,none⟩) (hb.block b (Keeps.lt e) (fun q=>by have:=(ho.out b q.symm).out o;rw[this]at e;cases e))).trans (h.out b o v e)⟩
instance Keeps.call(X:Option Nat)(D:Gh)(w w':World)[hc:Cll X w w'][Keeps D w][OffX D X]:Keeps D w':=Keeps.of_bl hc.out
instance(priority:=high) Keeps.gro(X:Option Nat)(D D':Gh)(w w':World)[h:Gro X w D w' D']:Keeps D' w':=h.keeps
instance Le.gro(X:Option Nat)(D D':Gh)(w w':World)[h:Gro X w D w' D']:Cll X w w':=⟨h.bl⟩
theorem Gro.le'{X:Option Nat}{D D':Gh}{w w':World}[h:Gro X w D w' D']:Le D D':=h.le
instance New.size(w:World):New w w.heap.size:=⟨Nat.le_refl _⟩
instance New.sizeAdd(a w:World)(k:Nat)[h:Bel none a w]:New a (w.heap.size+k):=⟨Nat.le_trans h.out.size (by omega)⟩
instance New.sizeBel(a w:World)[h:Bel none a w]:New a w.heap.size:=⟨h.out.size⟩
instance Sub.none(Y:Option Nat)(w:World):Sub none Y w:=⟨fun _ _ _=>by simp⟩
instance Sub.refl(Y:Option Nat)(w:World):Sub Y Y w:=⟨fun _ _ h=>h⟩
instance Sub.new(g:Nat)(Y:Option Nat)(w:World)[h:New w g]:Sub (some g) Y w:=⟨fun k hk _ e=>by cases e;have:=h.out;omega⟩
instance(priority:=low) Bel.refl(X:Option Nat)(w:World):Bel X w w:=⟨Bl.refl _ _⟩
instance Bel.drew(X:Option Nat)(a w:World)[h:Bel X a w]:Bel X a w.drew:=⟨h.out.drew⟩
instance Bel.drewN(X:Option Nat)(a w:World)(n:Nat)[h:Bel X a w]:Bel X a (w.drewN n):=⟨h.out.drewN n⟩
instance Bel.alloc(X:Option Nat)(a w:World)(o:Obj)[h:Bel X a w]:Bel X a (w.alloc o):=⟨h.out.alloc o⟩
instance Bel.setNew(X:Option Nat)(a w:World)(g o:Nat)(u:Value)[h:Bel X a w][hn:New a g]:Bel X a (w.setCell ⟨g,o,none⟩ u):=⟨h.out.setNew hn.out u⟩
instance Bel.setX(a w:World)(g o:Nat)(u:Value)[h:Bel (some g) a w]:Bel (some g) a (w.setCell ⟨g,o,none⟩ u):=⟨h.out.setX rfl u⟩
instance(priority:=high) Bel.call(X Y:Option Nat)(a w w':World)[hc:Cll X w w'][h:Bel Y a w][hs:Sub X Y a]:Bel Y a w':=⟨h.out.trans' hc.out hs.out⟩
theorem Bel.c{X:Option Nat}{a w:World}[h:Bel X a w]:Cll X a w:=⟨h.out⟩
instance(priority:=low) Gr.refl(X:Option Nat)(w:World)(D:Gh)[h:Keeps D w]:Gr X w D w D:=⟨Bl.refl _ _,h,fun _ _ _ h=>h,fun _ _ _=>rfl⟩
instance Gr.drew(X:Option Nat)(a w:World)(A D:Gh)[h:Gr X a A w D]:Gr X a A w.drew D:=⟨h.bl.drew,@Keeps.drew D w h.keeps,h.le,h.old⟩
instance Gr.drewN(X:Option Nat)(a w:World)(A D:Gh)(n:Nat)[h:Gr X a A w D]:Gr X a A (w.drewN n) D:=⟨h.bl.drewN n,@Keeps.drewN D w n h.keeps,h.le,h.old⟩
instance Gr.alloc(X:Option Nat)(a w:World)(A D:Gh)(o:Obj)[h:Gr X a A w D]:Gr X a A (w.alloc o) D:=⟨h.bl.alloc o,@Keeps.alloc D w o h.keeps,h.le,h.old⟩
instance Gr.setNew(X:Option Nat)(a w:World)(A D:Gh)(g o:Nat)(u:Value)[h:Gr X a A w D][hn:New a g][ho:Off D g]:Gr X a A (w.setCell ⟨g,o,none⟩ u) D:=
 ⟨h.bl.setNew hn.out u,@Keeps.setCell D w g o u h.keeps ho,h.le,h.old⟩
instance Gr.setX(a w:World)(A D:Gh)(g o:Nat)(u:Value)[h:Gr (some g) a A w D][ho:Off D g]:Gr (some g) a A (w.setCell ⟨g,o,none⟩ u) D:=
 ⟨h.bl.setX rfl u,@Keeps.setCell D w g o u h.keeps ho,h.le,h.old⟩
instance Gr.call(X Y:Option Nat)(a w w':World)(A D:Gh)[hc:Cll X w w'][h:Gr Y a A w D][hs:Sub X Y a][ho:OffX D X]:Gr Y a A w' D:=
 ⟨h.bl.trans' hc.out hs.out,@Keeps.of_bl X D w w' h.keeps ho hc.out,h.le,h.old⟩
theorem Gr.trans_{X Y:Option Nat}{a w w':World}{A D D':Gh}(hs:∀k,k<a.heap.size→some k≠Y→some k≠X)(h:Gr Y a A w D)(k:Gr X w D w' D'):Gr Y a A w' D':=
 ⟨h.bl.trans' k.bl hs,k.keeps,fun b o v e=>k.le b o v (h.le b o v e),fun b hb o=>(k.old b (Nat.lt_of_lt_of_le hb h.bl.size) o).trans (h.old b hb o)⟩
instance(priority:=high) Gr.gro(X Y:Option Nat)(a w w':World)(A D D':Gh)[hc:Gro X w D w' D'][h:Gr Y a A w D][hs:Sub X Y a]:Gr Y a A w' D':=
 Gr.trans_ hs.out h ⟨hc.bl,hc.keeps,hc.le.out,hc.old⟩
theorem Gr.g{X:Option Nat}{a w:World}{A D:Gh}[h:Gr X a A w D]:Gro X a A w D:=⟨h.bl,h.keeps,⟨h.le⟩,h.old⟩
theorem Gr.toBel{X:Option Nat}{a w:World}{A D:Gh}(h:Gr X a A w D):Bel X a w:=⟨h.bl⟩
class Box(w:World)(D:Gh)(g:Nat)(t:outParam TypeId)(cs:outParam (Array Value)):Prop where
 heap:w.heap[g]? =some (.cells cs t (0,0))
 off:Off D g
section
variable{w w':World}{D D':Gh}{g:Nat}{t:TypeId}{cs:Array Value}
theorem Box.lt[h:Box w D g t cs]:g<w.heap.size:=by
 rcases Nat.lt_or_ge g w.heap.size with hlt|hge
 ·exact hlt
 ·have:=h.heap;rw[Array.getElem?_eq_none hge]at this;cases this
theorem Box.cell[h:Box w D g t cs](i:Nat):w.cell? ⟨g,i,none⟩=cs[i]? :=cell_of_row w g i cs t (0,0) h.heap
theorem Box.frozen[h:Box w D g t cs](i:Nat):w.frozen? ⟨g,i,none⟩=false:=by
 simp[World.frozen?,h.heap]
theorem Box.held[h:Box w D g t cs]{i:Nat}{u:Value}(hu:cs[i]? =some u):w.cell? ⟨g,i,none⟩=some u∧w.frozen? ⟨g,i,none⟩=false:=
 ⟨(Box.cell (D:=D) i).trans hu,Box.frozen (D:=D) i⟩
instance Box.new(w:World)(D:Gh)(t:TypeId)(cs:Array Value)[Keeps D w]:Box (w.alloc (.cells cs t)) D w.heap.size t cs:=⟨heap_alloc_new w _,inferInstance⟩
instance Box.drew(w:World)(D:Gh)(g:Nat)(t:TypeId)(cs:Array Value)[h:Box w D g t cs]:Box w.drew D g t cs:=⟨h.heap,h.off⟩
instance Box.drewN(w:World)(D:Gh)(g n:Nat)(t:TypeId)(cs:Array Value)[h:Box w D g t cs]:Box (w.drewN n) D g t cs:=⟨h.heap,h.off⟩
instance(priority:=low) Box.alloc(w:World)(D:Gh)(g:Nat)(t:TypeId)(cs:Array Value)(o:Obj)[h:Box w D g t cs]:Box (w.alloc o) D g t cs:=⟨(Below.heap_alloc w o g (Box.lt (D:=D))).trans h.heap,h.off⟩
instance(priority:=high) Box.set_(w:World)(D:Gh)(g:Nat)(t:TypeId)(cs:Array Value)(i:Nat)(u:Value)[h:Box w D g t cs]:Box (w.setCell ⟨g,i,none⟩ u) D g t (cs.setIfInBounds i u):=
 ⟨by simp[World.setCell,Array.getElem?_modify,h.heap],h.off⟩
theorem Box.far[h:Box w D g t cs]{b o:Nat}(hp:g≠b)(u:Value):Box (w.setCell ⟨b,o,none⟩ u) D g t cs:=⟨(Below.heap_setCell w _ u g hp).trans h.heap,h.off⟩
instance(priority:=low) Box.farI(w:World)(D:Gh)(g b o:Nat)(t:TypeId)(cs:Array Value)(u:Value)[h:Box w D g t cs][hn:NeX g (some b)]:Box (w.setCell ⟨b,o,none⟩ u) D g t cs:=Box.far (fun e=>hn.out (by rw[e])) u
instance Box.call(w w':World)(D:Gh)(g:Nat)(t:TypeId)(cs:Array Value)(X:Option Nat)[hc:Cll X w w'][h:Box w D g t cs][hn:NeX g X]:Box w' D g t cs:=
 ⟨(hc.out.block g (Box.lt (D:=D)) hn.out).trans h.heap,h.off⟩
instance(priority:=high) Box.gro(w w':World)(D D':Gh)(g:Nat)(t:TypeId)(cs:Array Value)(X:Option Nat)[hc:Gro X w D w' D'][h:Box w D g t cs][hn:NeX g X]:Box w' D' g t cs:=
 ⟨(hc.bl.block g (Box.lt (D:=D)) hn.out).trans h.heap,⟨fun o=>(hc.old g (Box.lt (D:=D)) o).trans (h.off.out o)⟩⟩
theorem Box.ne{g':Nat}{t':TypeId}{cs':Array Value}(h:Box w D g t cs)(h':Box w D g' t' cs')(hne:t≠t'):g≠g':=by
 rintro rfl
 have:=h.heap.symm.trans h'.heap
 injection this with this
 injection this with _ ht
 exact hne ht
end
theorem ne_size{w:World}{g:Nat}(h:g<w.heap.size)(k:Nat):NeX (w.heap.size+k) (some g):=⟨fun e=>by have:=Option.some.inj e;omega⟩
theorem bcell{X:Option Nat}{W w1:World}[hb:Cll X W w1]:(∀b o,b<W.heap.size→some b≠X→w1.cell? ⟨b,o,none⟩=W.cell? ⟨b,o,none⟩)∧(∀b o,b<W.heap.size→some b≠X→w1.frozen? ⟨b,o,none⟩=W.frozen? ⟨b,o,none⟩):=
 ⟨fun b _ h hn=>World.cell?_of_block (hb.out.block b h hn),fun b _ h hn=>World.frozen?_of_block (hb.out.block b h hn)⟩
theorem ncell{W w1:World}[hb:Cll none W w1]:(∀b o,b<W.heap.size→w1.cell? ⟨b,o,none⟩=W.cell? ⟨b,o,none⟩)∧(∀b o,b<W.heap.size→w1.frozen? ⟨b,o,none⟩=W.frozen? ⟨b,o,none⟩):=
 ⟨fun b _ h=>World.cell?_of_block (hb.out.block b h (by simp)),fun b _ h=>World.frozen?_of_block (hb.out.block b h (by simp))⟩
theorem gcell{g:Nat}{W w1:World}[hb:Cll (some g) W w1]:(∀b o,b<W.heap.size→b≠g→w1.cell? ⟨b,o,none⟩=W.cell? ⟨b,o,none⟩)∧(∀b o,b<W.heap.size→b≠g→w1.frozen? ⟨b,o,none⟩=W.frozen? ⟨b,o,none⟩):=
 ⟨fun b _ h hn=>World.cell?_of_block (hb.out.block b h (by simpa using hn)),fun b _ h hn=>World.frozen?_of_block (hb.out.block b h (by simpa using hn))⟩
theorem Cll.size{X:Option Nat}{W w1:World}[hb:Cll X W w1]:W.heap.size≤w1.heap.size:=hb.out.size
def Gh.add(D:Gh)(g:Nat)(cs:List Value):Gh:=fun b o=>if b=g then cs[o]? else D b o
theorem Gh.le_add{D:Gh}{g:Nat}[h:Off D g](cs:List Value):Le D (D.add g cs):=⟨fun b o v e=>by
 unfold Gh.add
 split
 ·rename_i hb;subst hb;rw[h.out o]at e;cases e
 ·exact e⟩
theorem Keeps.add{D:Gh}{w:World}[h:Keeps D w]{g:Nat}{cs:List Value}(hc:∀o v,cs[o]? =some v→w.cell? ⟨g,o,none⟩=some v):Keeps (D.add g cs) w:=⟨fun b o v e=>by
 unfold Gh.add at e
 split at e
 ·rename_i hb;subst hb;exact hc o v e
 ·exact h.out b o v e⟩
theorem Gh.add_at(D:Gh)(g:Nat)(cs:List Value)(o:Nat):D.add g cs g o=cs[o]? :=by simp[Gh.add]
theorem Gh.add_off{D:Gh}{g g':Nat}(cs:List Value)(h:Off D g')(hne:g'≠g):Off (D.add g cs) g':=⟨fun o=>by simp[Gh.add,hne,h.out o]⟩
theorem Gh.add_old{D:Gh}{n g:Nat}{cs:List Value}(hg:n≤g)(b:Nat)(hb:b<n)(o:Nat):D.add g cs b o=D b o:=by
 unfold Gh.add
 rw[if_neg (by omega)]
structure Pub(w:World)(D D':Gh)(g:Option Nat):Prop where
 keeps:Keeps D' w
 le:Le D D'
 off:∀k,Off D k→some k≠g→Off D' k
 gr:∀(X:Option Nat)(a:World)(A:Gh),Gr X a A w D→(∀k,g=some k→a.heap.size≤k)→Gr X a A w D'
theorem Pub.box{w:World}{D D':Gh}{r:Option Nat}(p:Pub w D D' r){g:Nat}{t:TypeId}{cs:Array Value}(h:Box w D g t cs)(hne:some g≠r):Box w D' g t cs:=⟨h.heap,p.off g h.off hne⟩
theorem Pub.refl{w:World}{D:Gh}[h:Keeps D w]:Pub w D D none:=⟨h,⟨fun _ _ _ h=>h⟩,fun _ h _=>h,fun _ _ _ h _=>h⟩
theorem pub_add{w:World}{D:Gh}[hk:Keeps D w]{g:Nat}[ho:Off D g]{cs:List Value}(hc:∀o v,cs[o]? =some v→w.cell? ⟨g,o,none⟩=some v):Pub w D (D.add g cs) (some g):=
 ⟨Keeps.add hc,Gh.le_add cs,fun k h hne=>Gh.add_off _ h (fun e=>hne (by rw[e])),fun X a A h hg=>⟨h.bl,Keeps.add hc,fun b o v e=>(Gh.le_add cs).out b o v (h.le b o v e),fun b hb o=>(Gh.add_old (hg g rfl) b hb o).trans (h.old b hb o)⟩⟩
theorem Box.pub{w:World}{D:Gh}{g:Nat}{t:TypeId}{cs:Array Value}[hk:Keeps D w](h:Box w D g t cs):∃D',Pub w D D' (some g)∧∀o u,cs[o]? =some u→D' g o=some u:=by
 have:=h.off
 refine⟨D.add g cs.toList,pub_add fun o u e=>?_,fun o u e=>by rw[Gh.add_at];simpa using e⟩
 rw[Box.cell (D:=D)];simpa using e
def SlN(D:Gh)(s:Nat)(v:Value)(n:Nat)(vs:List Value):Prop:=
 vs.length=n*s∧∃a c,v=.slice a n c∧n≤c∧c≤maxLen∧(a=none→c=0)∧
  (0<n→∃b o,a=some ⟨b,o,none⟩∧∀j u,vs[j]? =some u→D b (o+j)=some u)
theorem SlN.le{D D':Gh}[hd:Le D D']{s n:Nat}{v:Value}{vs:List Value}(h:SlN D s v n vs):SlN D' s v n vs:=by
 obtain⟨hl,a,c,hv,h1,h2,h3,h4⟩:=h
 exact⟨hl,a,c,hv,h1,h2,h3,fun hp=>let⟨b,o,ha,hc⟩:=h4 hp;⟨b,o,ha,fun j u e=>hd.out _ _ _ (hc j u e)⟩⟩
theorem SlN.cells{D:Gh}{w:World}[hk:Keeps D w]{s n m c:Nat}{a:Option Addr}{vs:List Value}(h:SlN D s (.slice a m c) n vs):
  m=n∧vs.length=n*s∧n≤c∧c≤maxLen∧(0<n→∃b o,a=some ⟨b,o,none⟩∧∀j u,vs[j]? =some u→w.cell? ⟨b,o+j,none⟩=some u):=by
 obtain⟨hl,a',c',hv,h1,h2,h3,h4⟩:=h
 cases hv
 exact⟨rfl,hl,h1,h2,fun hp=>let⟨b,o,ha,hc⟩:=h4 hp;⟨b,o,ha,fun j u e=>hk.out _ _ _ (hc j u e)⟩⟩
theorem SlN.nil(D:Gh)(s:Nat):SlN D s (.slice none 0 0) 0 []:=⟨by simp,none,0,rfl,by simp,by simp[maxLen],fun _=>rfl,fun h=>by simp at h⟩
theorem SlN.form{D:Gh}{s n:Nat}{v:Value}{vs:List Value}(h:SlN D s v n vs):∃a c,v=.slice a n c∧n≤c∧c≤maxLen:=by
 obtain⟨_,a,c,hv,h1,h2,_⟩:=h
 exact⟨a,c,hv,h1,h2⟩
theorem own_pub{w:World}{D:Gh}[hk:Keeps D w]{base:Nat}{e:TypeId}{s:Nat}{v:Value}{n:Nat}{vs:List Value}(hown:w.ownsRow base e s v n vs)(ho:∀g,v.ownBlock=some g→Off D g):
  ∃D',Pub w D D' v.ownBlock∧SlN D' s v n vs:=by
 have hl:vs.length=n*s:=hown.1
 rcases hown.2 with⟨rfl,rfl⟩|⟨g,cap,cur,rfl,hg,hh,hnc,hcm,hsz,htk⟩
 ·obtain rfl:vs=[]:=List.eq_nil_of_length_eq_zero (by omega)
  exact⟨D,Pub.refl,SlN.nil D s⟩
 ·have:Off D g:=ho g rfl
  refine⟨D.add g vs,pub_add fun o u e=>?_,?_⟩
  ·have:=hown.cells (g:=g) rfl o u e
   simpa[Addr.add_lit]using this
  ·refine⟨hl,some ⟨g,0,none⟩,cap,rfl,by omega,hcm,by simp,fun _=>⟨g,0,rfl,fun j u e=>?_⟩⟩
   rw[Nat.zero_add,Gh.add_at];exact e
theorem own_lt{w:World}{base:Nat}{e:TypeId}{s:Nat}{v:Value}{n:Nat}{vs:List Value}(hown:w.ownsRow base e s v n vs):∀k,v.ownBlock=some k→base≤k∧k<w.heap.size:=by
 rintro k hk
 rcases hown.2 with⟨rfl,_⟩|⟨g,cap,cur,rfl,hg,hh,_⟩
 ·cases hk
 ·have:g=k:=by simpa[Value.ownBlock]using hk
  subst this
  refine⟨hg,?_⟩
  rcases Nat.lt_or_ge g w.heap.size with h|h
  ·exact h
  ·rw[Array.getElem?_eq_none h]at hh;cases hh
end Go.VT
namespace Go.VT
abbrev Bs:=List UInt8
def str(bs:Bs):ByteArray:=⟨bs.toArray⟩
theorem str_inj{a b:Bs}(h:str a=str b):a=b:=by
 have:=congrArg (fun x=>x.data.toList) h
 simpa[str]using this
theorem str_list(s:ByteArray):str s.data.toList=s:=by cases s;simp[str]
abbrev w_and:Bs:=[97,110,100]
abbrev w_some:Bs:=[115,111,109,101]
abbrev w_in:Bs:=[105,110]
abbrev w_to:Bs:=[116,111]
abbrev w_nothing:Bs:=[110,111,116,104,105,110,103]
abbrev w_everything:Bs:=[101,118,101,114,121,116,104,105,110,103]
abbrev w_one:Bs:=[111,110,101]
abbrev w_of:Bs:=[111,102]
abbrev w_open:Bs:=[111,112,101,110]
abbrev w_private:Bs:=[112,114,105,118,97,116,101]
abbrev w_sub:Bs:=[115,117,98]
abbrev w_same:Bs:=[115,97,109,101]
abbrev w_disjoint:Bs:=[100,105,115,106,111,105,110,116]
abbrev w_domain:Bs:=[100,111,109,97,105,110]
abbrev w_role:Bs:=[114,111,108,101]
abbrev w_chain:Bs:=[99,104,97,105,110]
abbrev w_reflexive:Bs:=[114,101,102,108,101,120,105,118,101]
abbrev w_type:Bs:=[116,121,112,101]
abbrev w_link:Bs:=[108,105,110,107]
abbrev w_select:Bs:=[115,101,108,101,99,116]
abbrev w_where:Bs:=[119,104,101,114,101]
abbrev w_or:Bs:=[111,114]
def kws:List Bs:=[w_and,w_some,w_in,w_to,w_nothing,w_everything,w_one,w_of,w_open,w_private,w_sub,w_same,w_disjoint,w_domain,w_role,w_chain,w_reflexive,w_type,w_link,w_select,w_where,w_or]
def keyword(s:Bs):Bool:=kws.contains s
inductive C where
 |top|bot
 |named (s:Bs)
 |nom (s:Bs)
 |and (l:List C)
 |some (r:Bs) (c:C)
 |range (f:Bs) (lo hi:Int)
 deriving Inhabited
def C.kind:C→Int
 |.top=>1|.bot=>2|.named _=>3|.nom _=>4|.and _=>5|.some _ _=>6|.range _ _ _=>7
def C.nm:C→Bs
 |.named s=>s|.nom s=>s|.some r _=>r|.range f _ _=>f|_=>[]
def C.lo:C→Int
 |.range _ lo _=>lo|_=>0
def C.hi:C→Int
 |.range _ _ hi=>hi|_=>0
def C.parts:C→List C
 |.and l=>l|.some _ c=>[c]|_=>[]
mutual
def C.size:C→Nat
 |.and l=>1+sizeL l
 |.some _ c=>1+c.size
 |_=>1
def sizeL:List C→Nat
 |[]=>0
 |c::r=>c.size+sizeL r
end
mutual
def C.depth:C→Nat
 |.and l=>depthL l
 |.some _ c=>1+c.depth
 |_=>0
def depthL:List C→Nat
 |[]=>0
 |c::r=>max (1+c.depth) (depthL r)
end
theorem C.size_parts(c:C):c.size=1+sizeL c.parts:=by cases c<;>simp[C.size,C.parts,sizeL]
theorem C.depth_parts(c:C):c.depth=depthL c.parts:=by cases c<;>simp[C.depth,C.parts,depthL]
theorem C.size_pos(c:C):1≤c.size:=by rw[C.size_parts];omega
theorem size_mem{l:List C}{c:C}(h:c∈l):c.size≤sizeL l:=by
 induction l with
 |nil=>cases h
 |cons a r ih=>
  simp only[sizeL]
  rcases List.mem_cons.1 h with rfl|h
  ·omega
  ·have:=ih h;omega
theorem C.ext{a b:C}(h1:a.kind=b.kind)(h2:a.nm=b.nm)(h3:a.lo=b.lo)(h4:a.hi=b.hi)(h5:a.parts=b.parts):a=b:=by
 cases a<;>cases b<;>simp_all [C.kind,C.nm,C.lo,C.hi,C.parts]
inductive K where
 |sub (l r:C)|equiv (l r:C)|disj (l r:C)
 |dom (r:Bs) (c:C)
 |rsub (r s:Bs)|chain (rs:List Bs) (s:Bs)|refl (s:Bs)
 |typ (a:Bs) (c:C)|link (a r b:Bs)
 deriving Inhabited
structure Ax where
 op:Bool
 k:K
 deriving Inhabited
def K.kind:K→Int
 |.sub _ _=>1|.equiv _ _=>2|.disj _ _=>3|.dom _ _=>4|.rsub _ _=>5|.chain _ _=>6|.refl _=>7|.typ _ _=>8|.link _ _ _=>9
def K.left:K→Option C
 |.sub l _=>some l|.equiv l _=>some l|.disj l _=>some l|_=>none
def K.right:K→Option C
 |.sub _ r=>some r|.equiv _ r=>some r|.disj _ r=>some r|.dom _ c=>some c|.typ _ c=>some c|_=>none
def K.roles:K→List Bs
 |.rsub r _=>[r]|.chain rs _=>rs|_=>[]
def K.role:K→Bs
 |.dom r _=>r|.rsub _ s=>s|.chain _ s=>s|.refl s=>s|.link _ r _=>r|_=>[]
def K.a:K→Bs
 |.typ a _=>a|.link a _ _=>a|_=>[]
def K.b:K→Bs
 |.link _ _ b=>b|_=>[]
def letterB(c:UInt8):Bool:=(97≤c&&c≤122)||(65≤c&&c≤90)
def digitB(c:UInt8):Bool:=48≤c&&c≤57
def innerB(c:UInt8):Bool:=letterB c||c==95||digitB c
def wordB:Bs→Bool
 |[]=>false
 |c::r=>letterB c&&(c::r).all innerB&& !keyword (c::r)
def cutC(s:Bs):Bs×Bs:=(s.takeWhile (· != 58),(s.dropWhile (· != 58)).drop 1)
def plainB(s:Bs):Bool:=s.length≤24&&wordB (cutC s).1&&(!s.contains 58||wordB (cutC s).2)
def maxN:Int:=1099511627776
def C.wf:C→Prop
 |.top=>True|.bot=>True
 |.named s=>plainB s=true
 |.nom s=>plainB s=true
 |.and l=>2≤l.length∧wfL l
 |.some r c=>plainB r=true∧c.wf
 |.range f lo hi=>plainB f=true∧ -maxN≤lo∧lo≤hi∧hi≤maxN
where wfL:List C→Prop
 |[]=>True
 |c::r=>c.wf∧wfL r
def K.wf:K→Prop
 |.sub l r=>l.wf∧r.wf|.equiv l r=>l.wf∧r.wf|.disj l r=>l.wf∧r.wf
 |.dom r c=>plainB r=true∧c.wf
 |.rsub r s=>plainB r=true∧plainB s=true
 |.chain rs s=>2≤rs.length∧rs.length≤4∧(∀r∈rs,plainB r=true)∧plainB s=true
 |.refl s=>plainB s=true
 |.typ a c=>plainB a=true∧c.wf
 |.link a r b=>plainB a=true∧plainB r=true∧plainB b=true
structure Tk where
 kind:Int
 text:Bs
 at_:Int
 deriving Inhabited
def hd(ts:List Tk):Bs:=match ts with|t::_=>t.text| []=>[]
def digitsVal(s:Bs):Int:=s.foldl (fun n c=>n*10+((c.toNat:Int)-48)) 0
def intVal(s:Bs):Int:=match s with|45::r=> -digitsVal r|_=>digitsVal s
def atName(ts:List Tk):Bool:=match ts with|t::_=>t.kind==1&& !keyword t.text| []=>false
def pName(ts:List Tk):Option (Bs×List Tk):=match ts with
 |t::r=>if atName (t::r)&& !(t.text.head?==some 95)&&plainB t.text then some (t.text,r)else none
 |[]=>none
def pNum(least:Int)(ts:List Tk):Option (Int×List Tk):=match ts with
 |t::r=>if t.kind==2&&decide (intVal t.text≤maxN)&&decide (least≤intVal t.text)then some (intVal t.text,r)else none
 |[]=>none
def wantT(s:Bs)(ts:List Tk):Option (List Tk):=if hd ts=s then some ts.tail else none
mutual
def pSingle:Nat→List Tk→Option (C×List Tk)
 |0,_=>none
 |n+1,ts=>
  if hd ts=w_everything then some (.top,ts.tail)
  else if hd ts=w_nothing then some (.bot,ts.tail)
  else if hd ts=[123]then(pName ts.tail).bind fun(s,r)=>(wantT [125] r).bind fun r=>some (.nom s,r)
  else if hd ts=w_some then(pName ts.tail).bind fun(s,r)=>(pSingle n r).bind fun(c,r)=>some (.some s c,r)
  else if hd ts=[40]then(pConcept n ts.tail).bind fun(c,r)=>(wantT [41] r).bind fun r=>some (c,r)
  else(pName ts).bind fun(s,r)=>
   if hd r=w_in then(pNum (-maxN) r.tail).bind fun(lo,r)=>(wantT w_to r).bind fun r=>(pNum lo r).bind fun(hi,r)=>some (.range s lo hi,r)
   else some (.named s,r)
def pConcept:Nat→List Tk→Option (C×List Tk)
 |0,_=>none
 |n+1,ts=>(pSingle n ts).bind fun(c,r)=>pMore n [c] r
def pMore:Nat→List C→List Tk→Option (C×List Tk)
 |0,_,_=>none
 |n+1,acc,ts=>
  if hd ts=w_and then(pSingle n ts.tail).bind fun(c,r)=>pMore n (acc++[c]) r
  else match acc with
   |[c]=>some (c,ts)
   |_=>some (.and acc,ts)
end
def pRest:Nat→List Bs→List Tk→Option (List Bs×List Tk)
 |0,l,ts=>some (l,ts)
 |n+1,l,ts=>if atName ts then(pName ts).bind fun(s,r)=>pRest n (l++[s]) r else some (l,ts)
def pStat(N:Nat)(ts:List Tk):Option (K×List Tk):=
 if hd ts=w_domain then(pName ts.tail).bind fun(s,r)=>(pConcept N r).bind fun(c,r)=>some (.dom s c,r)
 else if hd ts=w_role then(pName ts.tail).bind fun(s,r)=>(wantT w_sub r).bind fun r=>(pName r).bind fun(t,r)=>some (.rsub s t,r)
 else if hd ts=w_chain then(pName ts.tail).bind fun(s,r)=>(pName r).bind fun(t,r)=>(pRest 2 [s,t] r).bind fun(l,r)=>(wantT w_sub r).bind fun r=>(pName r).bind fun(t,r)=>some (.chain l t,r)
 else if hd ts=w_reflexive then(pName ts.tail).bind fun(s,r)=>some (.refl s,r)
 else if hd ts=w_type then(pName ts.tail).bind fun(s,r)=>(pConcept N r).bind fun(c,r)=>some (.typ s c,r)
 else if hd ts=w_link then(pName ts.tail).bind fun(a,r)=>(pName r).bind fun(s,r)=>(pName r).bind fun(b,r)=>some (.link a s b,r)
 else(pConcept N ts).bind fun(l,r)=>
  if hd r=w_sub then(pConcept N r.tail).bind fun(c,r)=>some (.sub l c,r)
  else if hd r=w_same then(pConcept N r.tail).bind fun(c,r)=>some (.equiv l c,r)
  else if hd r=w_disjoint then(pConcept N r.tail).bind fun(c,r)=>some (.disj l c,r)
  else none
def K.roley:K→Bool
 |.rsub _ _=>true|.chain _ _=>true|.refl _=>true|_=>false
def pAxiom(N:Nat)(ts:List Tk):Option (Ax×List Tk):=
 let op:=decide (hd ts=w_open)
 let t1:=if op then ts.tail else ts
 let pr:= !op&&decide (hd t1=w_private)
 let t2:=if pr then t1.tail else t1
 (pStat N t2).bind fun(k,r)=>some (⟨if k.roley then !pr else op,k⟩,r)
def cls(c:UInt8):UInt8:=
 if c=32∨c=9∨c=10∨c=13 then 1
 else if c=35 then 2
 else if letterB c∨c=95 then 3
 else if digitB c then 4
 else if c=45 then 5
 else if c=40∨c=41∨c=91∨c=93∨c=123∨c=125∨c=44∨c=46∨c=60∨c=61∨c=124∨c=63 then 6
 else 0
def runN(b:Bs):Nat:=(b.takeWhile fun c=>cls c==3||cls c==4).length
def integerB(b:Bs):Bool:=
 b==[48]||(let d:=if b.head?=some 45 then b.tail else b
  decide (1≤d.length)&&decide (d.length≤18)&& !(d.head?==some 48)&&d.all digitB)
def numB(b:Bs)(n:Nat):Int×Nat:=if integerB (b.take n)then(2,n)else(0,n)
def scanB(b:Bs):Int×Nat:=match b with
 |[]=>(0,0)
 |c::r=>
  if cls c=3 then
   let n:=runN b
   match b.drop n with
   |58::d::e=>if d≠95∧cls d=3 then(1,n+1+runN (d::e))else(1,n)
   |_=>(1,n)
  else if cls c=5 then match r with
   |[]=>(0,1)
   |d::e=>if d=62 then(3,2)else if cls d≠4 then(0,1)else numB b (1+runN (d::e))
  else if cls c=4 then numB b (runN b)
  else if cls c=6 then(3,1)
  else(0,1)
def lexF:Nat→Bs→List (Int×Bs)×Bool
 |0,_=>([],true)
 |n+1,b=>match b.dropWhile (fun c=>cls c==1)with
  |[]=>([],true)
  |c::r=>
   if cls c=2 then lexF n ((c::r).dropWhile (· != 10))
   else
    let k:=scanB (c::r)
    let l:=lexF n ((c::r).drop k.2)
    if k.1=0 then(l.1,false)else((k.1,(c::r).take k.2)::l.1,l.2)
end Go.VT
namespace Go.Proofs.YticgonfhjcaohaaGreatDoor
open Go.RowKit Go.VT _root_.Go.Proofs.Tryz
structure PC where
 g:Nat
 b:Nat
 o:Nat
 c:Nat
 M:Value
 toks:List Tk
def PC.ts(p:PC)(n:Nat):List Tk:=p.toks.drop n
abbrev PC.ptr(p:PC):Value:=.pointer (some ⟨p.g,0,none⟩)
class TS(D:Gh)(p:PC):Prop where
 kind:∀j t,p.toks[j]? =some t→D p.b (p.o+j*3)=some (.int .i64 t.kind)
 text:∀j t,p.toks[j]? =some t→D p.b (p.o+j*3+1)=some (.string (str t.text))
 at_:∀j t,p.toks[j]? =some t→D p.b (p.o+j*3+2)=some (.int .i64 t.at_)
 lim:p.toks.length≤p.c∧p.c≤9223372036854775807∧p.toks.length≤1099511627776
 word:∀t∈p.toks,t.kind=1→t.text≠[]
 int:∀t∈p.toks,t.kind=2→integerB t.text=true
 len:∀t∈p.toks,t.text.length≤65536
 last:∀j t,p.toks[j]? =some t→(t.text=[]↔j+1=p.toks.length)∧(t.kind=4↔j+1=p.toks.length)
instance TS.le(D D':Gh)(p:PC)[hd:Le D D'][h:TS D p]:TS D' p:=
 ⟨fun j t e=>hd.out _ _ _ (h.kind j t e),fun j t e=>hd.out _ _ _ (h.text j t e),fun j t e=>hd.out _ _ _ (h.at_ j t e),h.lim,h.word,h.int,h.len,h.last⟩
class PS(w:World)(D:Gh)(p:PC)(n:outParam Nat):Prop where
 box:Box w D p.g 101 #[.slice (some ⟨p.b,p.o,none⟩) p.toks.length p.c,.int .i64 n,p.M]
 lt:n<p.toks.length
section
variable(w w':World)(D D':Gh)(p:PC)(n:Nat)
instance PS.drew[h:PS w D p n]:PS w.drew D p n:=⟨@Box.drew _ _ _ _ _ h.box,h.lt⟩
instance PS.drewN(m:Nat)[h:PS w D p n]:PS (w.drewN m) D p n:=⟨@Box.drewN _ _ _ _ _ _ h.box,h.lt⟩
instance PS.alloc(x:Obj)[h:PS w D p n]:PS (w.alloc x) D p n:=⟨@Box.alloc _ _ _ _ _ _ h.box,h.lt⟩
instance PS.set(b o:Nat)(u:Value)[h:PS w D p n][hn:NeX b (some p.g)]:PS (w.setCell ⟨b,o,none⟩ u) D p n:=⟨have:=h.box;Box.far (fun e=>hn.out (by rw[e])) u,h.lt⟩
instance PS.call(X:Option Nat)[hc:Cll X w w'][h:PS w D p n][NeX p.g X]:PS w' D p n:=⟨have:=h.box;Box.call w w' D p.g _ _ X,h.lt⟩
instance PS.gro(X:Option Nat)[hc:Gro X w D w' D'][h:PS w D p n][NeX p.g X]:PS w' D' p n:=⟨have:=h.box;Box.gro w w' D D' p.g _ _ X,h.lt⟩
end
theorem token_c(w:World)(D:Gh)(p:PC)(n:Nat)[Keeps D w][hP:PS w D p n][hT:TS D p]:
  Calls prog 15 #[p.ptr] w fun e w'=>(∃t,p.toks[n]? =some t∧e=.returned (.agg #[.int .i64 t.kind,.string (str t.text),.int .i64 t.at_]))∧Cll none w w':=by
 obtain⟨t,ht⟩:∃t,p.toks[n]? =some t:=⟨_,List.getElem?_eq_getElem hP.lt⟩
 obtain⟨hl1,hl2,hl3⟩:=hT.lim
 have hlt:=hP.lt
 go_enter func15,ntmps15
 go_wp2
 obtain⟨W,hW⟩:∃W,W=w.alloc (.cells #[.int .i64 0,.string ⟨#[]⟩,.int .i64 0] 54):=⟨_,rfl⟩
 rw[←hW]
 have hc:Cll none w W:=hW▸Bel.c
 have hB:Box W D w.heap.size 54 #[.int .i64 0,.string ⟨#[]⟩,.int .i64 0]:=hW▸ii
 have k0:=Keeps.out (D:=D) (w:=W) _ _ _ (hT.kind n t ht)
 have k1:=Keeps.out (D:=D) (w:=W) _ _ _ (hT.text n t ht)
 have k2:=Keeps.out (D:=D) (w:=W) _ _ _ (hT.at_ n t ht)
 have hPW:PS W D p n:=ii
 have c0:W.cell? ⟨p.g,0,none⟩=some (.slice (some ⟨p.b,p.o,none⟩) p.toks.length p.c):=@Box.cell _ _ _ _ _ hPW.box 0
 have c1:W.cell? ⟨p.g,1,none⟩=some (.int .i64 n):=@Box.cell _ _ _ _ _ hPW.box 1
 have HT:=hid ht
 have r0:=hB.held (i:=0) rfl
 have r1:=hB.held (i:=1) rfl
 have r2:=hB.held (i:=2) rfl
 have rs:=hB.lt
 clear ht hl2 hW
 go_still_tail 10,(by kernel_rfl)
 change wpList _ _ _ _ _ W.drew
 go_wp2
 exact bodyPost_ret (v:=.agg #[.int .i64 t.kind,.string (str t.text),.int .i64 t.at_]) (by simp[results,results15,go_sem,Box.cell (D:=D) (g:=w.heap.size)]) rfl ⟨⟨t,HT.out,rfl⟩,Bel.c⟩
theorem PC.ts_cons(p:PC){n:Nat}{t:Tk}(h:p.toks[n]? =some t):p.ts n=t::p.ts (n+1):=by
 obtain⟨hl,rfl⟩:=List.getElem?_eq_some_iff.1 h
 exact List.drop_eq_getElem_cons hl
theorem PC.hd_ts(p:PC){n:Nat}{t:Tk}(h:p.toks[n]? =some t):hd (p.ts n)=t.text:=by rw[p.ts_cons h];rfl
theorem PC.tail_ts(p:PC)(n:Nat):(p.ts n).tail=p.ts (n+1):=by simp[PC.ts,List.tail_drop]
theorem str_toList(a:Bs):(str a).toList=a:=by rw[ByteArray.toList_eq];simp[str]
theorem str_beq(a b:Bs):((str a).toList==(str b).toList)=decide (a=b):=by rw[str_toList,str_toList];by_cases h:a=b<;>simp[h]
theorem fld54_1(a b c:Value)(w:World):Sem.run prog (Instr.field 54 (.agg #[a,b,c]) 1) w=.ok b w:=by kernel_rfl
theorem fld54_2(a b c:Value)(w:World):Sem.run prog (Instr.field 54 (.agg #[a,b,c]) 2) w=.ok c w:=by kernel_rfl
theorem is_c(w:World)(D:Gh)(p:PC)(n:Nat)(s:Bs)[Keeps D w][hP:PS w D p n][hT:TS D p]:
  Calls prog 118 #[p.ptr,.string (str s)] w fun e w'=>e=.returned (.bool (decide (hd (p.ts n)=s)))∧Cll none w w':=by
 go_enter func118,ntmps118
 go_wp2_with fail
 refine(token_c w D p n).mono ?_
 rintro e w1 ⟨⟨t,ht,rfl⟩,hc⟩
 have HH:=hid (p.hd_ts ht)
 clear ht
 have f1:=fld54_1
 go_wp2
 go_ret
 exact⟨by rw[str_beq,HH.out];rfl,hc⟩
theorem PS.next{w:World}{D:Gh}{p:PC}{n:Nat}(h:PS w D p n)(hn:n+1<p.toks.length):PS (w.setCell ⟨p.g,1,none⟩ (.int .i64 ((n:Int)+1))) D p (n+1):=
 ⟨have:=h.box;(ii:Box _ D p.g 101 _),hn⟩
theorem hd_lt{D:Gh}{p:PC}[hT:TS D p]{n:Nat}{s:Bs}(h:hd (p.ts n)=s)(hs:s≠[]):n+1<p.toks.length:=by
 rcases Nat.lt_or_ge n p.toks.length with hl|hl
 ·have ht:=List.getElem?_eq_getElem hl
  rw[p.hd_ts ht]at h
  have:=(hT.last n _ ht).1
  rcases Nat.lt_or_ge (n+1) p.toks.length with hl'|hl'
  ·exact hl'
  ·exact absurd (this.2 (by omega)) (by rw[h];exact hs)
 ·simp[PC.ts,List.drop_eq_nil_of_le hl,hd]at h
  exact absurd h hs
theorem skip_no(w:World)(D:Gh)(p:PC)(n:Nat)(s:Bs)(h:hd (p.ts n)≠s)[Keeps D w][hP:PS w D p n][hT:TS D p]:
  Calls prog 48 #[p.ptr,.string (str s)] w fun e w'=>e=.returned (.bool false)∧Cll none w w':=by
 have hd:=decide_eq_false h
 go_enter func48,ntmps48
 go_wp2_with fail
 refine(is_c w D p n s).mono ?_
 rintro e w1 ⟨rfl,hc⟩
 go_wp2
 go_ret
 exact⟨rfl,hc⟩
theorem skip_yes(w:World)(D:Gh)(p:PC)(n:Nat)(s:Bs)(h:hd (p.ts n)=s)(hs:s≠[])[Keeps D w][hP:PS w D p n][hT:TS D p]:
  Calls prog 48 #[p.ptr,.string (str s)] w fun e w'=>e=.returned (.bool true)∧Cll (some p.g) w w'∧PS w' D p (n+1):=by
 have hl:=hd_lt (D:=D) h hs
 have hd:=decide_eq_true h
 clear h
 go_enter func48,ntmps48
 go_wp2_with fail
 refine(is_c w D p n s).mono ?_
 rintro e w1 ⟨rfl,hc⟩
 have hP1:PS w1 D p n:=ii
 have c1:=@Box.held _ _ _ _ _ hP1.box 1 (.int .i64 n) rfl
 have hl3:=hT.lim.2.2
 have b1:=Box.lt (h:=hP1.box)
 go_wp2
 go_ret
 exact⟨rfl,Bel.c,hP1.next hl⟩
def Fault(e:Ending):Prop:=∃a c:Int,e=.panicked [{v:=.iface 56 (.agg #[.int .i64 a,.int .i64 c]),recovered:=false}]
def Bad(w:World)(D:Gh)(p:PC)(n:Nat)(e:Ending)(w':World):Prop:=Fault e∧∃D' n',Gro (some p.g) w D w' D'∧n≤n'∧PS w' D' p n'
theorem fail_c(w:World)(D:Gh)(p:PC)(n:Nat)(c:Int)[Keeps D w][hP:PS w D p n][hT:TS D p]:
  Calls prog 117 #[p.ptr,.int .i64 c] w fun e w'=>Fault e∧Cll none w w':=by
 go_enter func117,ntmps117
 go_wp2_with fail
 refine(token_c w D p n).mono ?_
 rintro e w1 ⟨⟨t,ht,rfl⟩,hc⟩
 clear ht
 have f2:=fld54_2
 go_wp2
 exact⟨rfl,⟨_,_,rfl⟩,hc⟩
theorem want_ok(w:World)(D:Gh)(p:PC)(n:Nat)(s:Bs)(h:hd (p.ts n)=s)(hs:s≠[])[Keeps D w][hP:PS w D p n][hT:TS D p]:
  Calls prog 47 #[p.ptr,.string (str s)] w fun e w'=>e=.returned (.tuple #[])∧Cll (some p.g) w w'∧PS w' D p (n+1):=by
 go_enter func47,ntmps47
 go_wp2_with fail
 refine(skip_yes w D p n s h hs).mono ?_
 rintro e w1 ⟨rfl,hc,hP1⟩
 go_wp2
 go_end0
 exact⟨rfl,hc,hP1⟩
theorem want_bad(w:World)(D:Gh)(p:PC)(n:Nat)(s:Bs)(h:hd (p.ts n)≠s)[Keeps D w][hP:PS w D p n][hT:TS D p]:
  Calls prog 47 #[p.ptr,.string (str s)] w fun e w'=>Fault e∧Cll none w w':=by
 go_enter func47,ntmps47
 go_wp2_with fail
 refine(skip_no w D p n s h).mono ?_
 rintro e w1 ⟨rfl,hc⟩
 go_wp2_with fail
 refine(fail_c w1 D p n 30).mono ?_
 rintro e w2 ⟨⟨a,c,rfl⟩,hc2⟩
 go_wp2
 exact⟨rfl,⟨_,_,rfl⟩,Bel.c⟩
end Go.Proofs.YticgonfhjcaohaaGreatDoor
