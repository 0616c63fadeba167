/- Q -/
import Derived.Test.YteabgcollokgjaaGreatDoorQH06
import Derived.DeepKeys4
import Derived.WalkArith
import Derived.Sort.Walk0
import Derived.Shelf.SlSortCmp.Insertion
import Derived.Lib.Small
import Derived.Shelf.Small.Bits
import Derived.Shelf.Strconv.Itoa0
import Derived.Shelf.Bits.Mul64
set_option linter.unusedSimpArgs false
set_option linter.unusedVariables false
set_option maxRecDepth 100000
set_option maxHeartbeats 32000000
open Nat renaming lt_of_lt_of_le → zA,le_trans → zB
namespace Go.Proofs.YteabgcollokgjaaGreatDoor
section
open Go.RowKit
theorem perm_erase {α:Type}:∀ (l:List α) (k:Nat) (o:α),l[k]? =some o->l.Perm (o::l.eraseIdx k)
 | [],_,_,h=>by simp at h
 | x::l,0,o,h=>by
  simp at h;subst h;simp
 | x::l,k+1,o,h=>by
  rw [List.getElem?_cons_succ] at h;rw [List.eraseIdx_cons_succ];exact ((perm_erase l k o h).cons x).trans (List.Perm.swap _ _ _)
theorem erase_set {α:Type}:∀ (l:List α) (k:Nat) (o:α),(l.set k o).eraseIdx k=l.eraseIdx k
 | [],_,_=>rfl
 | _::_,0,_=>rfl
 | x::l,k+1,o=>by rw [List.set_cons_succ,List.eraseIdx_cons_succ,List.eraseIdx_cons_succ,erase_set l k o]
structure Ob where
 own:Nat->Prop
 rd:Nat->Prop
 holds:World->Prop
 stable:∀ w w':World,holds w->(w'.os=w.os/\w'.tape=w.tape/\w'.output=w.output/\w.heap.size<=w'.heap.size)->(∀ i,own i∨rd i->w'.heap[i]? =w.heap[i]?)->holds w'
def Apart (x y:Ob):Prop:=(∀ i,x.own i->¬ y.own i/\¬ y.rd i)/\∀ i,y.own i->¬ x.rd i
theorem Apart.symm {x y:Ob} (h:Apart x y):Apart y x:=⟨fun i hi=>⟨fun hx=>(h.1 i hx).1 hi,h.2 i hi⟩,fun i hi=>(h.1 i hi).2⟩
structure Fr (w w':World) (S S':Nat->Prop):Prop where
 os:w'.os=w.os
 tape:w'.tape=w.tape
 output:w'.output=w.output
 size:w.heap.size<=w'.heap.size
 block:∀ i,i<w.heap.size->¬ S i->w'.heap[i]? =w.heap[i]?
 own:∀ i,S' i->S i∨w.heap.size<=i
theorem Fr.of_below {w w':World} (h:Below w.heap.size w w') (S:Nat->Prop):Fr w w' S S:=⟨h.os,h.tape,h.output,h.size,fun i hi _=>h.block i hi,fun _ h=> .inl h⟩
theorem Fr.new {w w':World} (h:Below w.heap.size w w') {S S':Nat->Prop} (hs:∀ i,S' i->S i∨w.heap.size<=i):Fr w w' S S':=⟨h.os,h.tape,h.output,h.size,fun i hi _=>h.block i hi,hs⟩
theorem Fr.trans {w w1 w2:World} {S S1 S2:Nat->Prop} (h:Fr w w1 S S1) (k:Fr w1 w2 S1 S2):Fr w w2 S S2:=
 ⟨k.os.trans h.os,k.tape.trans h.tape,k.output.trans h.output,zB h.size k.size,fun i hi hn=>(k.block i (zA hi h.size) (fun h1=>by
  rcases h.own i h1 with h2 | h2
  · exact hn h2
  · omega)).trans (h.block i hi hn),fun i hi=>by
  rcases k.own i hi with h1 | h1
  · exact h.own i h1
  exact .inr (zB h.size h1)⟩
theorem Fr.grown {w w':World} {g:Nat} (h:w.grownBy w' (some g)) {S S':Nat->Prop} (hg:S g) (hs:∀ i,S' i->S i∨w.heap.size<=i):Fr w w' S S':=
 ⟨h.os,h.tape,h.output,h.size,fun i hi hn=>h.block i hi (fun e=>hn (by injection e with e;rw [e];exact hg)),hs⟩
theorem Fr.below {w w':World} {S S':Nat->Prop} {b:Nat} (h:Fr w w' S S') (hb:∀ i,S i->b<=i) (h0:b<=w.heap.size):Below b w w':=
 ⟨h.os,h.tape,h.output,h.size,fun i hi=>h.block i (by omega) (fun hs=>by have:=hb i hs;omega)⟩
structure Sep (b:Nat) (w:World) (l:List Ob):Prop where
 base:b<=w.heap.size
 holds:∀ o∈l,o.holds w
 own:∀ o∈l,∀ i,o.own i->b<=i/\i<w.heap.size
 rd:∀ o∈l,∀ i,o.rd i->i<w.heap.size
 apart:l.Pairwise Apart
section
variable {b:Nat} {w w':World} {o o' x y:Ob} {l l':List Ob}
theorem Sep.perm (h:Sep b w l) (hp:l'.Perm l):Sep b w l':=
 ⟨h.base,fun o ho=>h.holds o (hp.mem_iff.1 ho),fun o ho=>h.own o (hp.mem_iff.1 ho),fun o ho=>h.rd o (hp.mem_iff.1 ho),(hp.pairwise_iff (fun h=>h.symm)).2 h.apart⟩
theorem Sep.sub (h:Sep b w l) (hs:l'.Sublist l):Sep b w l':=
 ⟨h.base,fun o ho=>h.holds o (hs.subset ho),fun o ho=>h.own o (hs.subset ho),fun o ho=>h.rd o (hs.subset ho),h.apart.sublist hs⟩
theorem Sep.tail (h:Sep b w (o::l)):Sep b w l:=h.sub (List.sublist_cons_self _ _)
theorem Sep.swap (h:Sep b w (x::y::l)):Sep b w (y::x::l):=h.perm (List.Perm.swap _ _ _)
theorem Sep.head (h:Sep b w (o::l)):o.holds w:=h.holds o (by simp)
theorem Sep.nil (w:World) (h:b<=w.heap.size):Sep b w []:=⟨h,by simp,by simp,by simp,List.Pairwise.nil⟩
theorem Sep.step (h:Sep b w (o::l)) (hf:Fr w w' o.own o'.own) (hr:∀ i,o'.rd i->o.own i∨o.rd i∨w.heap.size<=i) (hh:o'.holds w') (hlt:∀ i,o'.own i∨o'.rd i->i<w'.heap.size):Sep b w' (o'::l)/\Below b w w':=by
 have hown:=h.own o (by simp);obtain ⟨ha,hp⟩:=List.pairwise_cons.1 h.apart;have hb:Below b w w':=hf.below (fun i hi=>(hown i hi).1) h.base;refine ⟨⟨zB h.base hf.size,fun y hy=>?_,fun y hy i hi=>?_,fun y hy i hi=>?_,List.pairwise_cons.2 ⟨fun y hy=>?_,hp⟩⟩,hb⟩
 · rcases List.mem_cons.1 hy with rfl | hy
   · exact hh
   refine y.stable w w' (h.holds y (by simp [hy])) ⟨hf.os,hf.tape,hf.output,hf.size⟩ (fun i hi=>?_);refine hf.block i ?_ (fun ho=>?_)
   · rcases hi with hi | hi
     · exact (h.own y (by simp [hy]) i hi).2
     exact h.rd y (by simp [hy]) i hi
   have:=(ha y hy).1 i ho;rcases hi with hi | hi
   · exact this.1 hi
   exact this.2 hi
 · rcases List.mem_cons.1 hy with rfl | hy
   · refine ⟨?_,hlt i (.inl hi)⟩;rcases hf.own i hi with h1 | h1
     · exact (hown i h1).1
     have:=h.base;omega
   have:=h.own y (by simp [hy]) i hi;exact ⟨this.1,zA this.2 hf.size⟩
 · rcases List.mem_cons.1 hy with rfl | hy
   · exact hlt i (.inr hi)
   exact zA (h.rd y (by simp [hy]) i hi) hf.size
 have hyo:=h.own y (by simp [hy]);have hyr:=h.rd y (by simp [hy]);refine ⟨fun i hi=>?_,fun i hi hi'=>?_⟩
 · rcases hf.own i hi with h1 | h1
   · exact (ha y hy).1 i h1
   exact ⟨fun h2=>by have:=(hyo i h2).2;omega,fun h2=>by have:=hyr i h2;omega⟩
 rcases hr i hi' with h1 | h1 | h1
 · exact ((ha y hy).1 i h1).1 hi
 · exact (ha y hy).2 i hi h1
 have:=(hyo i hi).2;omega
theorem Sep.add (h:Sep b w l) (hb:Below w.heap.size w w') (hh:o'.holds w') (ho:∀ i,o'.own i->w.heap.size<=i/\i<w'.heap.size) (hr:∀ i,o'.rd i->i<w'.heap.size) (hn:∀ i,o'.rd i->i<w.heap.size->∀ y∈l,¬ y.own i):Sep b w' (o'::l)/\Below b w w':=by
 refine ⟨⟨zB h.base hb.size,fun y hy=>?_,fun y hy i hi=>?_,fun y hy i hi=>?_,List.pairwise_cons.2 ⟨fun y hy=>⟨fun i hi=>⟨fun h2=>?_,fun h2=>?_⟩,fun i hi hi'=>?_⟩,h.apart⟩⟩,hb.mono h.base⟩
 · rcases List.mem_cons.1 hy with rfl | hy
   · exact hh
   refine y.stable w w' (h.holds y hy) ⟨hb.os,hb.tape,hb.output,hb.size⟩ (fun i hi=>hb.block i ?_);rcases hi with hi | hi
   · exact (h.own y hy i hi).2
   exact h.rd y hy i hi
 · rcases List.mem_cons.1 hy with rfl | hy
   · have:=ho i hi;have:=h.base;omega
   have:=h.own y hy i hi;have:=hb.size;omega
 · rcases List.mem_cons.1 hy with rfl | hy
   · exact hr i hi
   have:=h.rd y hy i hi;have:=hb.size;omega
 · have:=(ho i hi).1;have:=(h.own y hy i h2).2;omega
 · have:=(ho i hi).1;have:=h.rd y hy i h2;omega
 by_cases hlt:i<w.heap.size
 · exact hn i hi' hlt y hy hi
 have:=(h.own y hy i hi).2;omega
theorem Sep.on (h:Sep b w l) (hb:Below w.heap.size w w'):Sep b w' l:=
 ⟨zB h.base hb.size,fun y hy=>y.stable w w' (h.holds y hy) ⟨hb.os,hb.tape,hb.output,hb.size⟩ (fun i hi=>hb.block i (by
  rcases hi with hi | hi
  · exact (h.own y hy i hi).2
  exact h.rd y hy i hi)),fun y hy i hi=>⟨(h.own y hy i hi).1,zA (h.own y hy i hi).2 hb.size⟩,fun y hy i hi=>zA (h.rd y hy i hi) hb.size,h.apart⟩
theorem Sep.view (h:Sep b w (o::l)) (hh:o'.holds w) (ho:∀ i,¬ o'.own i) (hr:∀ i,o'.rd i->o.rd i) (hx:∀ i,o.own i->¬ o.rd i):Sep b w (o'::o::l):=
 ⟨h.base,fun y hy=>by
  rcases List.mem_cons.1 hy with rfl | hy
  · exact hh
  · exact h.holds y hy,fun y hy i hi=>by
  rcases List.mem_cons.1 hy with rfl | hy
  · exact absurd hi (ho i)
  · exact h.own y hy i hi,fun y hy i hi=>by
  rcases List.mem_cons.1 hy with rfl | hy
  · exact h.rd o (by simp) i (hr i hi)
  exact h.rd y hy i hi,List.pairwise_cons.2 ⟨fun y hy=>⟨fun i hi=>absurd hi (ho i),fun i hi hi'=>by
  rcases List.mem_cons.1 hy with rfl | hy
  · exact hx i hi (hr i hi')
  exact ((List.pairwise_cons.1 h.apart).1 y hy).2 i hi (hr i hi')⟩,h.apart⟩⟩
theorem Sep.pull (h:Sep b w l) {k:Nat} (hk:l[k]? =some o):Sep b w (o::l.eraseIdx k):=h.perm (perm_erase l k o hk).symm
theorem Sep.stepAt (h:Sep b w l) (k:Nat) (hk:l[k]? =some o) (hf:Fr w w' o.own o'.own) (hr:∀ i,o'.rd i->o.own i∨o.rd i∨w.heap.size<=i) (hh:o'.holds w') (hlt:∀ i,o'.own i∨o'.rd i->i<w'.heap.size):Sep b w' (l.set k o')/\Below b w w':=by
 obtain ⟨h1,h2⟩:=(h.pull hk).step hf hr hh hlt;refine ⟨h1.perm ?_,h2⟩;have hl:=(List.getElem?_eq_some_iff.1 hk).1;have h3:=perm_erase (l.set k o') k o' (by rw [List.getElem?_set_self hl]);rw [erase_set] at h3;exact h3
theorem Sep.get (h:Sep b w l) {k:Nat} (hk:l[k]? =some o):o.holds w:=h.holds o (List.mem_of_getElem? hk)
theorem Sep.own_ge (h:Sep b w l) {k:Nat} (hk:l[k]? =some o) {i:Nat} (hi:o.own i):b<=i/\i<w.heap.size:=h.own o (List.mem_of_getElem? hk) i hi
end
def cellOb (g:Nat) (t:TypeId) (cs:Array Value):Ob where
 own:=fun i=>i=g
 rd:=fun _=>False
 holds:=fun w=>IsB w g t cs
 stable:=fun w w' h _ hk=>(hk g (.inl rfl)).trans h
theorem Sep.cell {b:Nat} {w:World} {l:List Ob} (h:Sep b w l) {k g:Nat} {t:TypeId} {cs:Array Value} (hk:l[k]? =some (cellOb g t cs)):IsB w g t cs:=h.get hk
theorem Sep.setAt {b:Nat} {w:World} {l:List Ob} (h:Sep b w l) (k:Nat) {g:Nat} {t:TypeId} {cs:Array Value} (hk:l[k]? =some (cellOb g t cs)) (j:Nat) (u:Value):Sep b (w.setCell ⟨g,j,none⟩ u) (l.set k (cellOb g t (cs.setIfInBounds j u)))/\Below b w (w.setCell ⟨g,j,none⟩ u):=by
 have hc:=h.cell hk;have hg:w.grownBy (w.setCell ⟨g,j,none⟩ u) (some g):=g_set (p:=⟨g,j,none⟩) (g_refl _ _) (.inl rfl) _;refine h.stepAt k hk (Fr.grown hg rfl (fun i hi=> .inl hi)) (fun i hi=>hi.elim) (hc.set_ j u) (fun i hi=>?_);rcases hi with hi | hi
 · have:=hc.lt;have e:i=g:=hi;rw [e];simpa [World.setCell] using this
 exact hi.elim
theorem Sep.newCell {b:Nat} {w:World} {l:List Ob} (h:Sep b w l) (t:TypeId) (cs:Array Value):Sep b (w.alloc (.cells cs t)) (cellOb w.heap.size t cs::l)/\Below b w (w.alloc (.cells cs t)):=
 h.add ((Below.refl _ _).alloc (Nat.le_refl _) _) (IsB.new w t cs) (fun i hi=>by have e:i=w.heap.size:=hi;simp [e]) (fun i hi=>hi.elim) (fun i hi=>hi.elim)
end
section
open Go.RowKit Go.MapKept Go.ChangeMaps
def devOwn (p:Nat) (r:Rp) (i:Nat):Prop:=r.own p i∨∃ q∈rooms r.EN,q.1=i
def devRd (r:Rp) (i:Nat):Prop:=∃ d,r.reads d/\blk d=some i
def devOb (p:Nat) (r:Rp) (s:St):Ob where
 own:=devOwn p r
 rd:=devRd r
 holds:=fun w=>DV w p r s
 stable:=fun w w' h hs hk=>by
  have hc:Ch w w' (fun i=>¬ (devOwn p r i∨devRd r i)) []:=⟨hs.1,hs.2.1,hs.2.2.1,hs.2.2.2,fun i _ hn _=>hk i (Classical.not_not.1 hn),by simp⟩;exact ⟨h.dev.ch hc (fun i hi=>⟨fun hn=>hn (.inl (.inl hi)),by simp⟩) (fun d hd=>⟨fun g hg hn=>hn (.inr ⟨d,hd,hg⟩),by simp⟩),h.ok⟩
theorem DV.reads_lt {w:World} {p:Nat} {r:Rp} {s:St} (h:DV w p r s) {i:Nat} (hi:devRd r i):i<w.heap.size:=by
 obtain ⟨d,hd,hg⟩:=hi;rcases hd with ⟨e,he,rfl⟩ | ⟨e,he,rfl⟩ | ⟨e,he,rfl⟩
 · exact (h.dev.kept.2.1 e he).lt hg
 · exact (h.dev.now.2.1 e he).lt hg
 exact (h.dev.ops e he).1.lt hg
theorem DV.own_lt {w:World} {p:Nat} {r:Rp} {s:St} (h:DV w p r s) {i:Nat} (hi:devOwn p r i):i<w.heap.size:=by
 rcases hi with hi | ⟨q,hq,rfl⟩
 · rcases hi with rfl | rfl | rfl | e
   · exact h.dev.cells.lt
   · exact h.dev.kept.1.lt
   · exact h.dev.now.1.lt
   obtain ⟨cur,hcur⟩:=row_is h.dev.pend e;exact hcur.lt
 obtain ⟨cur,hcur⟩:=rooms_byte h.dev.now hq;exact hcur.lt
theorem Step.fr {w w':World} {p:Nat} {r r':Rp} (h:Step w w' p r r'):Fr w w' (devOwn p r) (devOwn p r'):=
 ⟨h.ch.os,h.ch.tape,h.ch.output,h.ch.size,fun i hi hn=>h.ch.block i hi (fun ho=>hn (.inl ho)) (fun q hq e=>hn (.inr ⟨q,hq,e⟩)),fun i hi=>by
  rcases hi with hi | ⟨q,hq,rfl⟩
  · rcases h.own i hi with h1 | h1
    · exact .inl (.inl h1)
    exact .inr h1
  rcases h.rooms q hq with h1 | ⟨q0,h1,h2,_⟩
  · exact .inr h1
  exact .inl (.inr ⟨q0,h1,h2⟩)⟩
theorem Step.rds {w w':World} {p:Nat} {r r':Rp} (h:Step w w' p r r'):∀ i,devRd r' i->devOwn p r i∨devRd r i∨w.heap.size<=i:=by
 rintro i ⟨d,hd,hg⟩;rcases h.reads d hd with h1 | h1 | ⟨d0,h1,h2,_⟩ | ⟨q,h1,h2⟩
 · exact h1.elim
 · exact .inr (.inr (h1 i hg))
 · exact .inr (.inl ⟨d0,h1,by rw [h2,hg]⟩)
 rw [hg] at h2;injection h2 with h2;exact .inl (.inr ⟨q,h1,h2.symm⟩)
theorem Sep.dev {b:Nat} {w w':World} {p:Nat} {r r':Rp} {s s':St} {l:List Ob} {k:Nat} (h:Sep b w l) (hk:l[k]? =some (devOb p r s)) (hd:DV w' p r' s') (hs:Step w w' p r r'):Sep b w' (l.set k (devOb p r' s'))/\Below b w w':=
 h.stepAt k hk hs.fr hs.rds hd (fun i hi=>by
  rcases hi with hi | hi
  · exact hd.own_lt hi
  exact hd.reads_lt hi)
def GoesS (b p k:Nat) (s':St) (v:Value) (l:List Ob) (w:World) (e:Ending) (w':World):Prop:=e= .returned v/\∃ r',Sep b w' (l.set k (devOb p r' s'))/\Below b w w'
def ReqS (b p k:Nat) (s:St) (o:POp) (l:List Ob) (w:World) (e:Ending) (w':World):Prop:=∃ n,Cnt s.now n/\GoesS b p k (reqS s n o) (.int .i64 (reqE s n o)) l w e w'
section
variable {b p k:Nat} {r:Rp} {s:St} {w:World} {l:List Ob}
theorem goes_S {F:FuncId} {args:Array Value} {s':St} {v:Value} (hc:Calls Tryz.prog F args w (Goes p r s' v w)) (h:Sep b w l) (hk:l[k]? =some (devOb p r s)):Calls Tryz.prog F args w (GoesS b p k s' v l w):=by
 refine hc.mono ?_;rintro e w' ⟨he,r',hd,hs⟩;exact ⟨he,r',h.dev hk hd hs⟩
theorem req_S {F:FuncId} {args:Array Value} {o:POp} (hc:Calls Tryz.prog F args w (ReqPost p r s o w)) (h:Sep b w l) (hk:l[k]? =some (devOb p r s)):Calls Tryz.prog F args w (ReqS b p k s o l w):=by
 refine hc.mono ?_;rintro e w' ⟨n,hn,he,r',hd,hs⟩;exact ⟨n,hn,he,r',h.dev hk hd hs⟩
end
end
section
open Go.RowKit Go.MapKept Go.ChangeMaps
open Go.Maps (Keyed)
abbrev vID (i:ID):Value:=.agg #[.int .u64 i.1,.int .i64 i.2]
def encID (i:ID):List Value:=[.int .u64 i.1,.int .i64 i.2]
def okID (i:ID):Prop:=(Lit.int .u64 i.1).wf=true/\(Lit.int .i64 i.2).wf=true
theorem laidOutC:laidOutB Tryz.prog=true:=by kernel_rfl
theorem row31:(31:TypeId)<Tryz.prog.types.size:=of_decide_eq_true (by kernel_rfl)
theorem kta31:Tryz.prog.keyTypeAt 2 31=true:=by kernel_rfl
theorem keyed31:Keyed Tryz.prog 31:=Keyed.of_law (deep_law_laid laidOutC (m:=2) (by omega) row31 kta31 (by rw [Tryz.underlying31]))
theorem typesC:∃ m,Tryz.prog.types.size=m+1:=⟨Tryz.prog.types.size-1,by have h:(31:Nat)<Tryz.prog.types.size:=row31;omega⟩
theorem kt31:Tryz.prog.keyType 31=true:=by kernel_rfl
theorem cellsOf31:Tryz.prog.cellsOf 31=2:=by kernel_rfl
theorem cellsOf29:Tryz.prog.cellsOf 29=1:=by kernel_rfl
theorem cellsOf3:Tryz.prog.cellsOf 3=1:=by kernel_rfl
theorem keyOf31 (i:ID) (h:okID i):keyOf Tryz.prog 31 (vID i)=some (.string (keyBytes [.int .u64 i.1,.int .i64 i.2])):=by
 obtain ⟨wa,wb⟩:=h;obtain ⟨m,hm⟩:=typesC;have hkt:=kt31;unfold keyOf;simp only [Tryz.underlying31];rw [if_pos (by simp [hkt,Value.formed,Tryz.underlying31,cellsOf31]),hm];unfold Program.keyLits;simp only [Tryz.underlying31,Value.cells];rw [if_pos (by rw [cellsOf31];exact ⟨rfl,by simp⟩)];simp [cellsOf29,cellsOf3,Program.keyLits,Tryz.underlying29,Tryz.underlying3,wa,wb]
theorem mkI:MK Tryz.prog 31 okID vID:=⟨keyed31,fun i h=>⟨_,keyOf31 i h⟩,fun a b h=>by
 simp [vID] at h;exact Prod.ext h.1 h.2⟩
abbrev vN (n:Int):Value:=.int .i64 n
def okN (n:Int):Prop:=(Lit.int .i64 n).wf=true
theorem mkN:MK Tryz.prog 3 okN vN:=⟨Maps.int_keyed Tryz.underlying3,fun n h=>⟨.int .i64 n,by simp only [okN] at h;simp [keyOf,Tryz.underlying3,mapKey,h]⟩,fun a b h=>by injection h⟩
theorem okID_of {i:ID} (h0:0<=i.1) (h1:i.1<18446744073709551616) (h2: -9223372036854775808<=i.2) (h3:i.2<=9223372036854775807):okID i:=by
 exact ⟨WalkArith.wf_u64 ⟨h0,by omega⟩,WalkArith.wf_i64 ⟨h2,h3⟩⟩
theorem okID_fp (bs:List UInt8) (h:bs.length<=9223372036854775807):okID (fpOf bs):=by
 have:=fpSum_lt bs;unfold pP at this;exact okID_of (by simp [fpOf]) (by simp only [fpOf];omega) (by simp only [fpOf];omega) (by simp only [fpOf];omega)
inductive Pl where
 | pend (d:BD) (bs:List UInt8)
 | at (o:Nat)
def Pl.A:Pl->Option Addr | .pend d _=>d.A | .at _=>none
def Pl.len:Pl->Nat | .pend d _=>d.len | .at _=>0
def Pl.cap:Pl->Nat | .pend d _=>d.cap | .at _=>0
def Pl.f:Pl->Int | .pend _ _=>0 | .at _=>1
def Pl.o:Pl->Int | .pend _ _=>0 | .at o=>o
def Pl.isP:Pl->Bool | .pend _ _=>true | .at _=>false
abbrev vPl (p:Pl):Value:=.agg #[.slice p.A p.len p.cap,.int .i64 p.f,.int .i64 p.o]
abbrev Chs:=List (ID×Pl)
def chOb (cm:Nat) (C:Chs):Ob where
 own:=fun i=>i=cm
 rd:=fun i=>∃ id d bs,(id,Pl.pend d bs)∈C/\blk d=some i
 holds:=fun w=>MapIs okID vID vPl w cm C/\∀ id d bs,(id,Pl.pend d bs)∈C->RB w d bs/\0<bs.length
 stable:=fun w w' h hs hk=>⟨h.1.same (hk cm (.inl rfl)),fun id d bs hm=>by
  have h1:=h.2 id d bs hm;have hc:Ch w w' (fun i=>¬ blk d=some i) []:=⟨hs.1,hs.2.1,hs.2.2.1,hs.2.2.2,fun i _ hn _=>hk i (.inr ⟨id,d,bs,hm,Classical.not_not.1 hn⟩),by simp⟩;exact ⟨h1.1.ch hc (fun g hg hn=>hn hg) (by simp),h1.2⟩⟩
structure FR where
 fb:Nat
 sb:Nat
 len:Nat
 clean:Bool
 T:List (ID×Bool)
abbrev vPtr (g:Nat):Value:=.pointer (some ⟨g,0,none⟩)
abbrev vBl (b:Bool):Value:=.bool b
abbrev FR.cells (f:FR):Array Value:= #[.int .i64 f.len,.bool f.clean,.map (some f.sb)]
def fL (F:Option FR):List (Int×Nat):=match F with | none=>[] | some f=>[(1,f.fb)]
def flOb (fm:Nat) (F:Option FR):Ob where
 own:=fun i=>i=fm∨∃ f,F=some f/\(i=f.fb∨i=f.sb)
 rd:=fun _=>False
 holds:=fun w=>MapIs okN vN vPtr w fm (fL F)/\∀ f,F=some f->IsB w f.fb 145 f.cells/\MapIs okID vID vBl w f.sb f.T/\f.sb≠fm
 stable:=fun w w' h hs hk=>⟨h.1.same (hk fm (.inl (.inl rfl))),fun f hf=>by
  obtain ⟨h1,h2,h3⟩:=h.2 f hf;exact ⟨(hk f.fb (.inl (.inr ⟨f,hf,.inl rfl⟩))).trans h1,h2.same (hk f.sb (.inl (.inr ⟨f,hf,.inr rfl⟩))),h3⟩⟩
structure SR where
 p:Nat
 ps:Nat
 cm:Nat
 fm:Nat
 r:Rp
 s:St
 nm:ByteArray
 C:Chs
 F:Option FR
 wait:Int
 bytes:Int
 dead:Bool
abbrev SR.cells (x:SR):Array Value:= #[.pointer (some ⟨x.p,0,none⟩),.string x.nm,.map (some x.cm),.map (some x.fm),.int .i64 x.wait,.int .i64 x.bytes,.bool x.dead]
abbrev SR.obs (x:SR) (l:List Ob):List Ob:=devOb x.p x.r x.s::cellOb x.ps 131 x.cells::chOb x.cm x.C::flOb x.fm x.F::l
abbrev Sto (b:Nat) (w:World) (x:SR) (l:List Ob):Prop:=Sep b w (x.obs l)
section
variable {b:Nat} {w:World} {x:SR} {l:List Ob}
theorem Sep.sdv (h:Sto b w x l):DV w x.p x.r x.s:=h.get (k:=0) rfl
theorem Sep.scell (h:Sto b w x l):IsB w x.ps 131 x.cells:=h.get (k:=1) (o:=cellOb x.ps 131 x.cells) rfl
theorem Sep.sch (h:Sto b w x l):MapIs okID vID vPl w x.cm x.C:=(h.get (k:=2) (o:=chOb x.cm x.C) rfl).1
theorem Sep.spend (h:Sto b w x l) {id:ID} {d:BD} {bs:List UInt8} (hm:(id,Pl.pend d bs)∈x.C):RB w d bs/\0<bs.length:=(h.get (k:=2) (o:=chOb x.cm x.C) rfl).2 id d bs hm
theorem Sep.sfl (h:Sto b w x l):MapIs okN vN vPtr w x.fm (fL x.F):=(h.get (k:=3) (o:=flOb x.fm x.F) rfl).1
theorem Sep.sfile (h:Sto b w x l) {f:FR} (hf:x.F=some f):IsB w f.fb 145 f.cells/\MapIs okID vID vBl w f.sb f.T/\f.sb≠x.fm:=(h.get (k:=3) (o:=flOb x.fm x.F) rfl).2 f hf
end
end
section
open Go.RowKit Go.MapKept Go.ChangeMaps
section
variable {b:Nat} {w:World} {x:SR} {l:List Ob}
theorem Pending_any (h:Sto b w x l):Calls Tryz.prog 29 #[vPtr x.ps] w (fun e w'=>e= .returned (.int .i64 x.wait)/\w=w'):=by
 have k4:w.cell? ⟨x.ps,4,none⟩=some (.int .i64 x.wait):=h.scell.cell 4;clear h;go_enter Tryz.func29,Tryz.ntmps29;go_wp2_with fail
 go_ret;exact ⟨rfl,rfl⟩
end
end
section
open Go.RowKit Go.Shelf Go.Sort
attribute [local go_sem] wext_cell
def Gives (v:Value) (w:World) (e:Ending) (w':World):Prop:=e= .returned v/\Below w.heap.size w w'
theorem encID_len (i:ID):(encID i).length=2:=rfl
theorem encID_one (i:ID):∀ u∈encID i,u.oneCell'=true:=by
 intro u hu;simp [encID] at hu;rcases hu with rfl | rfl<;>rfl
abbrev RdID (w:World) (x:Nat) (A:Option Addr) (l:List ID):Prop:=Rd encID 2 (0,0) w x A l
theorem info31:(Tryz.prog.info? 31).map (fun i=>(i.zero,i.size,i.bytes))=some (some (.agg #[.int .u64 0,.int .i64 0]),2,16):=by kernel_rfl
def orI (a b:Int):Int:=if a=0 then b else a
theorem nan65 (x:Int) (w:World):Calls Tryz.prog 210 #[.int .u64 x] w fun e w'=>e= .returned (.bool false)/\w'=w:=by
 go_enter Tryz.func210,Tryz.ntmps210;go_wp2
 go_ret;exact ⟨by simp,rfl⟩
theorem cmpU_any (x y:Int) (w:World):Calls Tryz.prog 158 #[.int .u64 x,.int .u64 y] w fun e w'=>e= .returned (.int .i64 (Lib.compareInt x y))/\w'=w:=by
 go_enter Tryz.func158,Tryz.ntmps158;go_wp2_with (go_at_call 210;refine (nan65 _ _).mono ?_;rintro e w' ⟨rfl,hw⟩;rw [hw])
 all_goals (go_ret;refine ⟨?_,rfl⟩;unfold Lib.compareInt;(repeat' split)<;>first | rfl | (exfalso;omega))
theorem nan66 (x:Int) (w:World):Calls Tryz.prog 200 #[.int .i64 x] w fun e w'=>e= .returned (.bool false)/\w'=w:=by
 go_enter Tryz.func200,Tryz.ntmps200;go_wp2
 go_ret;exact ⟨by simp,rfl⟩
theorem cmpI_any (x y:Int) (w:World):Calls Tryz.prog 154 #[.int .i64 x,.int .i64 y] w fun e w'=>e= .returned (.int .i64 (Lib.compareInt x y))/\w'=w:=by
 go_enter Tryz.func154,Tryz.ntmps154;go_wp2_with (go_at_call 200;refine (nan66 _ _).mono ?_;rintro e w' ⟨rfl,hw⟩;rw [hw])
 all_goals (go_ret;refine ⟨?_,rfl⟩;unfold Lib.compareInt;(repeat' split)<;>first | rfl | (exfalso;omega))
theorem Or_two (g:Nat) (a b:Int) (w:World) (h0:w.cell? ⟨g,0,none⟩=some (.int .i64 a)) (h1:w.cell? ⟨g,1,none⟩=some (.int .i64 b)):
 Calls Tryz.prog 157 #[.slice (some ⟨g,0,none⟩) 2 2] w fun e w'=>e= .returned (.int .i64 (orI a b))/\w=w':=by
 obtain ⟨r,Hr⟩:∃ r,Hid (orI a b=r):=⟨_,rfl⟩;rw [Hr.out];go_enter Tryz.func157,Tryz.ntmps157;go_wp2
 go_loop [8] (fun i=>∃ k:Nat,k<=2/\i= .int .i64 k/\Hid (0<k->a=0)/\Hid (1<k->b=0)) (fun i=>2-(intOf i).toNat)
 case atStart=>exact ⟨0,by omega,rfl,fun h=>absurd h (by omega),fun h=>absurd h (by omega)⟩
 obtain ⟨k,hk,rfl,HA,HB⟩:=hrel;by_cases hk0:k=0
 · have hc:w.cell? ⟨g,k,none⟩=some (.int .i64 a):=by rw [hk0];exact h0
   have Hk:=Lib.hid hk0;have hk2:k<2:=by omega
   clear h0 h1 hk0;by_cases ha:a=0
   · have hb':(a !=0)=false:=by simp [ha]
     have Ha:=Lib.hid ha;clear ha;go_wp2
     go_round
     case rel=>exact ⟨k+1,by omega,by go_num,fun _=>Ha.out,fun h=>absurd h (by have:=Hk.out;omega)⟩
     simp [intOf];omega
   have hb':(a !=0)=true:=by simp [ha]
   have hr:r=a:=by rw [<- Hr.out,orI,if_neg ha]
   subst hr;clear ha;go_wp2
   go_ret;exact ⟨rfl,rfl⟩
 by_cases hk1:k=1
 · have hc:w.cell? ⟨g,k,none⟩=some (.int .i64 b):=by rw [hk1];exact h1
   have Hk:=Lib.hid hk1;have hk2:k<2:=by omega
   have hr:r=b:=by rw [<- Hr.out,orI,if_pos (HA.out (by omega))]
   subst hr;clear h0 h1 hk0 hk1;by_cases hb:r=0
   · have hb':(r !=0)=false:=by simp [hb]
     have Hb:=Lib.hid hb;clear hb;go_wp2
     go_round
     case rel=>exact ⟨k+1,by omega,by go_num,fun _=>HA.out (by have:=Hk.out;omega),fun _=>Hb.out⟩
     simp [intOf];omega
   have hb':(r !=0)=true:=by simp [hb]
   clear hb;go_wp2
   go_ret;exact ⟨rfl,rfl⟩
 have hk2:¬ k<2:=by omega
 have hr:r=0:=by rw [<- Hr.out,orI,if_pos (HA.out (by omega)),HB.out (by omega)]
 subst hr;go_wp2
 go_ret;exact ⟨rfl,rfl⟩
def cmpID (x y:ID):Int:=orI (Lib.compareInt x.1 y.1) (Lib.compareInt x.2 y.2)
theorem grow4 (W:World) (a b c d:Obj) (q:Nat):((((W.alloc a).alloc b).alloc c).drewN q).alloc d=grow (W.drewN q) #[a,b,c,d]:=by
 show (((((W.drewN q).alloc a).alloc b).alloc c).alloc d)=grow (W.drewN q) #[a,b,c,d];rw [alloc_eq_grow,alloc_eq_grow,alloc_eq_grow,alloc_eq_grow,grow_grow,grow_grow,grow_grow];rfl
theorem asc_grow (x1 x2 y1 y2:Int) (W:World):Calls Tryz.prog 104 #[.agg #[],.agg #[.int .u64 x1,.int .i64 x2],.agg #[.int .u64 y1,.int .i64 y2]] W fun e w'=>e= .returned (.int .i64 (cmpID (x1,x2) (y1,y2)))/\∃ q os',w'=grow (W.drewN q) os':=by
 have hcon1:=fun W'=>cmpU_any x1 y1 W';have hcon2:=fun W'=>cmpI_any x2 y2 W';obtain ⟨r,Hr⟩:∃ r,Hid (cmpID (x1,x2) (y1,y2)=r):=⟨_,rfl⟩;have Hr2:Hid (orI (Lib.compareInt x1 y1) (Lib.compareInt x2 y2)=r):=Hr;rw [Hr.out];generalize Lib.compareInt x1 y1=c1 at hcon1 Hr2;generalize Lib.compareInt x2 y2=c2 at hcon2 Hr2;have H1:=Lib.hid hcon1;have H2:=Lib.hid hcon2;clear hcon1 hcon2;go_enter Tryz.func104,Tryz.ntmps104;go_wp2_with fail
 refine wp_region_draw_tail 10 (by kernel_rfl) (by kernel_rfl) ?_;simp only [List.take_succ_cons,List.take_zero,List.drop_succ_cons,List.drop_zero];repeat (go_big_quiet_step ((first | (go_at_call 158;exact Calls.quiet_of_same (H1.out _)) | (go_at_call 154;exact Calls.quiet_of_same (H2.out _)))))
 refine wpQuiet_nil ?_;intro q2;go_wp2_with (go_at_call 157;refine (Or_two _ c1 c2 _ ?c1 ?c2).mono ?_)
 case c1=>exact new_cell _ _ _ _ (by simp) 0
 case c2=>exact new_cell _ _ _ _ (by simp) 1
 rintro e w' ⟨rfl,rfl⟩;rw [Hr2.out];go_wp2
 go_ret;exact ⟨rfl,q2,_,grow4 W _ _ _ _ q2⟩
theorem below_grow (W:World) (q:Nat) (os:Array Obj):Below W.heap.size W (grow (W.drewN q) os):=
 ⟨rfl,rfl,rfl,by simp [grow],fun k hk=>heap_grow_old _ _ hk⟩
def ltID (x y:ID):Bool:=decide (x.1<y.1∨x.1=y.1/\x.2<y.2)
theorem lt_cmpID (x y:ID):ltOf cmpID x y=ltID x y:=by
 unfold ltOf cmpID orI Lib.compareInt ltID;by_cases h1:x.1<y.1
 · simp [h1]
 by_cases h2:y.1<x.1
 · have:¬ x.1=y.1:=by omega
   simp [h1,h2,this]
 have:x.1=y.1:=by omega
 by_cases h3:x.2<y.2
 · simp [this,h3]
 by_cases h4:y.2<x.2<;>simp [this,h3,h4]
theorem Less_any (x1 x2 y1 y2:Int) (w:World):Calls Tryz.prog 149 #[.agg #[.int .u64 x1,.int .i64 x2],.agg #[.int .u64 y1,.int .i64 y2]] w (Gives (.bool (ltID (x1,x2) (y1,y2))) w):=by
 have fin:∀ b:Bool,ltID (x1,x2) (y1,y2)=b->∀ W,W=(w.alloc (.cells #[.int .u64 x1,.int .i64 x2] 31)).alloc (.cells #[.int .u64 y1,.int .i64 y2] 31)->Gives (.bool (ltID (x1,x2) (y1,y2))) w (.returned (.bool b)) W:=by
  rintro b h W rfl;exact ⟨by rw [h],(bel1 _ _).alloc (by simp) _⟩
 by_cases h1:x1<y1
 · go_enter Tryz.func149,Tryz.ntmps149;go_wp2_with fail
   go_ret;exact fin _ (by simp [ltID];omega) _ rfl
 by_cases h2:x1=y1
 · subst h2;by_cases h3:x2<y2
   · have V:Hid (ltID (x1,x2) (x1,y2)=true):=by simp [Hid,ltID];omega
     go_enter Tryz.func149,Tryz.ntmps149;go_wp2_with fail
     go_ret;exact fin _ V.out _ rfl
   have V:Hid (ltID (x1,x2) (x1,y2)=false):=by simp [Hid,ltID];omega
   go_enter Tryz.func149,Tryz.ntmps149;go_wp2_with fail
   go_ret;exact fin _ V.out _ rfl
 have hb:(x1==y1)=false:=by rw [beq_eq_false_iff_ne];exact h2
 have V:Hid (ltID (x1,x2) (y1,y2)=false):=by simp [Hid,ltID];omega
 go_enter Tryz.func149,Tryz.ntmps149;go_wp2_with fail
 go_ret;exact fin _ V.out _ rfl
theorem swoID:SWO (ltOf cmpID) where
 irrefl x:=by rw [lt_cmpID];simp [ltID]
 trans x y z h1 h2:=by rw [lt_cmpID] at *; simp [ltID] at *; omega
 ntrans x y z h1 h2:=by rw [lt_cmpID] at *; simp [ltID] at *; omega
end
end Go.Proofs.YteabgcollokgjaaGreatDoor
namespace Go.Proofs
section
open Go.Shelf
def Tryz.lays125_ren:Go.Shelf.Ren:=⟨fun | 125=>151 | 128=>197 | 129=>198 | n=>n,fun | 46=>230 | 3=>3 | 51=>276 | 53=>29 | 4=>4 | 5=>5 | 9=>9 | n=>n,fun | n=>n⟩
theorem Tryz.lays125:Go.Proofs.Lays.n125 Tryz.prog Tryz.lays125_ren:={
 mixed:=by kernel_rfl
 f125:=Tryz.func151.trans (congrArg some (by kernel_rfl))
 f128:=Tryz.func197.trans (congrArg some (by kernel_rfl))
 f129:=Tryz.func198.trans (congrArg some (by kernel_rfl))
 t3:=Tryz.underlying3
 a3:=Tryz.isAgg3
 z3:=Tryz.sizeOf3
 v3:=Tryz.zeroValue3
 t4:=Tryz.underlying4
 a4:=Tryz.isAgg4
 z4:=Tryz.sizeOf4
 v4:=Tryz.zeroValue4
 t5:=Tryz.underlying5
 a5:=Tryz.isAgg5
 z5:=Tryz.sizeOf5
 v5:=Tryz.zeroValue5
 t9:=Tryz.underlying9
 a9:=Tryz.isAgg9
 z9:=Tryz.sizeOf9
 v9:=Tryz.zeroValue9
 t46:=Tryz.underlying230
 a46:=Tryz.isAgg230
 z46:=Tryz.sizeOf230
 v46:=Tryz.zeroValue230
 t51:=Tryz.underlying276
 a51:=Tryz.isAgg276
 z51:=Tryz.sizeOf276
 v51:=Tryz.zeroValue276
 t53:=Tryz.underlying29
 a53:=Tryz.isAgg29
 z53:=Tryz.sizeOf29
 v53:=Tryz.zeroValue29 }
theorem Tryz.bits_Len (x:Int) (w:World) (h0:0<=x) (h1:x<=18446744073709551615):
 Calls Tryz.prog 151 #[.int .u64 x] w fun e w'=>e= .returned (.int .i64 (Lib.bitLen x.toNat))/\w'=w:=Any.bits_Len Tryz.lays125 x w h0 h1
def Tryz.lays264_ren:Go.Shelf.Ren:=⟨fun | 264=>185 | n=>n,fun | 53=>29 | 46=>230 | n=>n,fun | n=>n⟩
theorem Tryz.lays264:Go.Proofs.Lays.n264 Tryz.prog Tryz.lays264_ren:={
 mixed:=by kernel_rfl
 f264:=Tryz.func185.trans (congrArg some (by kernel_rfl))
 t46:=Tryz.underlying230
 a46:=Tryz.isAgg230
 z46:=Tryz.sizeOf230
 v46:=Tryz.zeroValue230
 t53:=Tryz.underlying29
 a53:=Tryz.isAgg29
 z53:=Tryz.sizeOf29
 v53:=Tryz.zeroValue29 }
open Go.RowKit Go.Lib in
theorem Tryz.bits_Mul64 (x y:Nat) (hx:x<18446744073709551616) (hy:y<18446744073709551616) (w:World):
 Calls Tryz.prog 185 #[.int .u64 x,.int .u64 y] w fun e w'=>e= .returned (.tuple #[.int .u64 ((x*y / 18446744073709551616:Nat):Int),.int .u64 ((x*y % 18446744073709551616:Nat):Int)])/\w'=w:=Any.bits_Mul64 Tryz.lays264 x y hx hy w
end
end Go.Proofs
