/- Contracts of the walk, part 2. -/
import Derived.WalkKit
import Derived.Laws.AppendOwn
import Derived.Laws.OwnMore
import Derived.OwnWalk
import Derived.ArgAppend
import Derived.Lib.SliceRun
import Derived.Shelf.Small.Bits
import Derived.Shelf.Small.Wraps
import Derived.Shelf.Strconv.Itoa0
import Derived.Shelf.Strings.Prefix
import Derived.Shelf.Bits.Mul64
import Derived.Ground.Names2Prog
import Derived.Shelf.Slices.SearchI
import Derived.Shelf.Bytes.SlSearch0
import Derived.Shelf.Bytes.SlSmallAll
import Derived.Shelf.Bytes.SlEqualAll
import Derived.Shelf.Bytes.Small
import Derived.Test.YtmiknfneeipkeaaGreatProg
import Derived.Test.YtmiknfneeipkeaaGreatS01
namespace Go.Proofs.YtmiknfneeipkeaaGreat
open Go.RowKit Go.MapKept Go.ChangeMaps
open Go.Maps (Keyed)
theorem nodup_idx {γ:Type} {l:List γ} (hn:l.Nodup) {i j:Nat} (hi:i<l.length) (hj:j<l.length) (h:l[i]? =l[j]?):i=j:=by
 rw [List.getElem?_eq_getElem hi,List.getElem?_eq_getElem hj] at h;injection h with h;rcases Nat.lt_trichotomy i j with h1 | h1 | h1
 · exact absurd h (List.pairwise_iff_getElem.1 hn i j hi hj h1)
 · exact h1
 exact absurd h.symm (List.pairwise_iff_getElem.1 hn j i hj hi h1)
section
variable {α β:Type}
variable {P:Program} {k:TypeId} {ok:α->Prop} {kv:α->Value} {vv:β->Value}
def RIs (ok:α->Prop) (kv:α->Value) (vv:β->Value) (w:World) (b r:Nat) (L done:List (α×β)) (cnt:Nat):Prop:=
 ∃ (es:Array MapEntry) (clock since:Nat) (seen:Array Nat) (c0:Nat) (is:List Nat),w.heap[b]? =some (.map es clock)/\Stamped es clock/\es.toList.map (fun e=>(e.key,e.val))=L.map (fun c=>(kv c.1,vv c.2))/\(∀ c∈L,ok c.1)/\
  w.heap[r]? =some (.mapIter (some b) since seen c0)/\(∀ x∈es.toList,x.born<since)/\since<=c0/\since<=clock/\(leftOf es seen).size=cnt/\
  is.Nodup/\is.map (fun i=>es.toList[i]?.map (·.born))=seen.toList.map some/\is.map (fun i=>L[i]?)=done.map some
theorem RIs.map {w:World} {b r:Nat} {L done:List (α×β)} {cnt:Nat} (h:RIs ok kv vv w b r L done cnt):MapIs ok kv vv w b L:=by
 obtain ⟨es,clock,since,seen,c0,is,h1,h2,h3,h4,_⟩:=h;exact ⟨es,clock,h1,h2,h3,h4⟩
theorem RIs.lt {w:World} {b r:Nat} {L done:List (α×β)} {cnt:Nat} (h:RIs ok kv vv w b r L done cnt):r<w.heap.size:=by
 obtain ⟨es,clock,since,seen,c0,is,_,_,_,_,h5,_⟩:=h;exact (Array.getElem?_eq_some_iff.1 h5).1
theorem RIs.ne {w:World} {b r:Nat} {L done:List (α×β)} {cnt:Nat} (h:RIs ok kv vv w b r L done cnt):r≠b:=by
 obtain ⟨es,clock,since,seen,c0,is,h1,_,_,_,h5,_⟩:=h;rintro rfl;rw [h1] at h5;cases h5
theorem RIs.kept {w w':World} {b r:Nat} {L done:List (α×β)} {cnt:Nat} {row:Option Nat} (h:RIs ok kv vv w b r L done cnt) (hg:w.grownBy w' row) (hb:some b≠row) (hr:some r≠row):RIs ok kv vv w' b r L done cnt:=by
 have l1:=h.map.lt;have l2:=h.lt;obtain ⟨es,clock,since,seen,c0,is,h1,h2,h3,h4,h5,h6⟩:=h;exact ⟨es,clock,since,seen,c0,is,(hg.block b l1 hb).trans h1,h2,h3,h4,(hg.block r l2 hr).trans h5,h6⟩
theorem RIs.alloc {w:World} {b r:Nat} {L done:List (α×β)} {cnt:Nat} (h:RIs ok kv vv w b r L done cnt) (o:Obj):RIs ok kv vv (w.alloc o) b r L done cnt:=h.kept (World.grownBy_alloc w o none) (by simp) (by simp)
theorem RIs.on {w w':World} {b r:Nat} {L done:List (α×β)} {cnt:Nat} (h:RIs ok kv vv w b r L done cnt) (hb:Below w.heap.size w w'):RIs ok kv vv w' b r L done cnt:=h.kept (only_of_below hb none) (by simp) (by simp)
theorem MapIs.range {t e:TypeId} (ht:P.underlying t=some (.map k e)) {w:World} {b:Nat} {L:List (α×β)} (h:MapIs ok kv vv w b L):
 ∃ w',(Instr.range t (.map (some b))).run P w= .ok (.pointer (some ⟨w.heap.size,0,none⟩)) w'/\RIs ok kv vv w' b w.heap.size L [] L.length/\w.grownBy w' none/\w'.heap.size=w.heap.size+1:=by
 have hlt:=h.lt;obtain ⟨es,clock,hb,hs,he,hok⟩:=h
 have hl:es.size=L.length:=by
  have:=congrArg List.length he;simpa using this
 refine ⟨_,run_range_map w t k e b es clock ht hb,⟨es,clock,clock, #[],clock,[],((MapKept.heap_alloc w _).2 b hlt).trans hb,hs,he,hok,(MapKept.heap_alloc w _).1,hs.1,Nat.le_refl _,Nat.le_refl _,?_,by simp,rfl,rfl⟩,World.grownBy_alloc w _ none,by simp⟩;have:leftOf es #[]=es:=by unfold leftOf;rw [Array.filter_eq_self];intro x _;simp
 rw [this,hl]
theorem RIs.next {w:World} {b r:Nat} {L done:List (α×β)} {cnt:Nat} (h:RIs ok kv vv w b r L done cnt) (ty:TypeId):
 (done.Perm L/\(Instr.next (.pointer (some ⟨r,0,none⟩)) false ty).run P w= .ok (.tuple #[.bool false]) w)∨
 ∃ c w' cnt',c∈L/\(Instr.next (.pointer (some ⟨r,0,none⟩)) false ty).run P w= .ok (.tuple #[.bool true,kv c.1,vv c.2]) w'/\RIs ok kv vv w' b r L (done++[c]) cnt'/\cnt'<cnt/\w.grownBy w' (some r)/\w'.heap.size=w.heap.size/\
  (Instr.entry (.pointer (some ⟨r,0,none⟩))).run P w'= .ok (.tuple #[kv c.1,vv c.2]) w':=by
 have hne:=h.ne;obtain ⟨es,clock,since,seen,c0,is,hb,hs,he,hok,hr,hold,hsc,hsk,rfl,hnd,hseen,hdone⟩:=h
 have hl:es.toList.length=L.length:=by
  have:=congrArg List.length he;simpa using this
 rcases run_next_at (P:=P) w ty r b since c0 seen es clock hr hb hold hsc with ⟨h0,hrun⟩ | ⟨e,hin,w1,hal,hrun⟩
 · refine Or.inl ⟨?_,hrun⟩;have hall:=all_seen es seen h0
   have hmem:∀ i,i∈is↔i∈List.range L.length:=by
    intro i;rw [List.mem_range];constructor
    · intro hi;have:L[i]? ∈is.map (fun i=>L[i]?):=List.mem_map.2 ⟨i,hi,rfl⟩;rw [hdone] at this;obtain ⟨c,_,hc⟩:=List.mem_map.1 this;exact (List.getElem?_eq_some_iff.1 hc.symm).1
    intro hi;have hi':i<es.toList.length:=by omega
    have h1:=hall es.toList[i] (List.getElem_mem hi');have h2:some (es.toList[i]).born∈seen.toList.map some:=List.mem_map.2 ⟨_,by simpa using h1,rfl⟩;rw [<- hseen] at h2;obtain ⟨i',hi'',e2⟩:=List.mem_map.1 h2;obtain ⟨x,hx,hxb⟩:=Option.map_eq_some_iff.1 e2;have e3:=born_inj hs.2.1 (List.mem_of_getElem? hx) (List.getElem_mem hi') hxb;have e4:es.toList[i']? =es.toList[i]? :=by rw [hx,e3,List.getElem?_eq_getElem hi']
    have e5:i'=i:=by
     have hn:es.toList.Nodup:=List.Pairwise.of_map (fun x:MapEntry=>x.born) (fun a b (hne:a.born≠b.born) e=>hne (by rw [e])) hs.2.1;exact nodup_idx hn (List.getElem?_eq_some_iff.1 hx).1 hi' e4
    exact e5 ▸ hi''
   have hp:=((List.perm_ext_iff_of_nodup hnd List.nodup_range).2 hmem).map (fun i=>L[i]?)
   have e1:(List.range L.length).map (fun i=>L[i]?)=L.map some:=by
    apply List.ext_getElem?
    intro j;by_cases hj:j<L.length
    · simp [hj]
    simp [Nat.not_lt.1 hj]
   rw [hdone,e1] at hp;have:=hp.filterMap id;simpa using this
 right
 obtain ⟨hem,hes⟩:=mem_left hin;obtain ⟨i,hi⟩:=List.mem_iff_getElem?.1 hem;obtain ⟨c,hc,hk,hv⟩:=at_list he hi;have hr1:w1.heap[r]? =some (.mapIter (some b) since seen c0):=by rcases hal with rfl | rfl<;>exact hr
 have hb1:w1.heap[b]? =some (.map es clock):=by rcases hal with rfl | rfl<;>exact hb
 have hset:=heap_set (o':=.mapIter (some b) since (seen.push e.born) clock) hr1;have hb':(setBlock w1 r (.mapIter (some b) since (seen.push e.born) clock)).heap[b]? =some (.map es clock):=(hset.2 b (fun e1=>hne e1.symm)).trans hb1
 have hni:i ∉ is:=by
  intro hmem;have:es.toList[i]?.map (·.born)∈is.map (fun i=>es.toList[i]?.map (·.born)):=List.mem_map.2 ⟨i,hmem,rfl⟩;rw [hseen,hi] at this;obtain ⟨y,hy,e⟩:=List.mem_map.1 this;injection e with e;subst e;have:seen.contains _=true:=Array.contains_iff_mem.2 (Array.mem_toList_iff.1 hy);rw [hes] at this;cases this
 refine ⟨c,_,_,List.mem_of_getElem? hc,by rw [hrun,hk,hv],⟨es,clock,since,seen.push e.born,clock,is++[i],hb',hs,he,hok,hset.1,hold,hsk,hsk,rfl,?_,?_,?_⟩,left_shrinks es seen e hin,?_,?_,?_⟩
 · refine List.nodup_append.2 ⟨hnd,by simp,fun a ha d hd e=>?_⟩;simp at hd;subst hd e;exact hni ha
 · rw [List.map_append,hseen,Array.toList_push,List.map_append,List.map_singleton,List.map_singleton,hi];rfl
 · rw [List.map_append,hdone,List.map_append];simp [hc]
 · rcases hal with rfl | rfl<;>exact ⟨rfl,rfl,rfl,by simp [setBlock],fun i _ hi=>hset.2 i (fun e1=>hi (by rw [e1]))⟩
 · rcases hal with rfl | rfl<;>simp [setBlock]
 rw [<- hk, <- hv];exact run_entry_at _ r b since seen es clock e hset.1 hb' hem hs.2.1
variable (w:World) {ops:Array Oper} {rest:List Oper} {o:Oper} {a:Act} {Q:Exit->Act->World->Prop}
end
end Go.Proofs.YtmiknfneeipkeaaGreat
namespace Go.Proofs.YtmiknfneeipkeaaGreat
open Go.RowKit
section
variable {P:Program}
end
end Go.Proofs.YtmiknfneeipkeaaGreat
namespace Go.Proofs.YtmiknfneeipkeaaGreat
open Go.RowKit
structure BD where
 A:Option Addr
 len:Nat
 cap:Nat
def vB (d:BD):Value:=.slice d.A d.len d.cap
def blk (d:BD):Option Nat:=d.A.map (·.block)
def encU (b:UInt8):Value:=.int .u8 ((b.toNat:Nat):Int)
theorem encU_one (bs:List UInt8):∀ u∈bs.map encU,u.oneCell'=true:=by
 intro u hu;obtain ⟨b,_,rfl⟩:=List.mem_map.1 hu;rfl
def RB (w:World) (d:BD) (bs:List UInt8):Prop:=
 bs.length=d.len/\d.len<=d.cap/\(d.A=none->d.cap=0)/\∀ ad,d.A=some ad->∃ g cur,ad=⟨g,0,none⟩/\IsB w g 5 cur/\d.cap<=cur.size/\∀ (j:Nat) (u:Value),(bs.map encU)[j]? =some u->cur[j]? =some u
def SB (w:World) (A:Option Addr) (bs:List UInt8):Prop:=(A=none->bs.length=0)/\∀ ad,A=some ad->∀ (j:Nat) (u:Value),(bs.map encU)[j]? =some u->w.cell? (ad.add j)=some u
theorem lit_add (g o j:Nat):(⟨g,o,none⟩:Addr).add j=⟨g,o+j,none⟩:=by unfold Addr.add;split<;>simp_all
theorem RB.src {w:World} {d:BD} {bs:List UInt8} (h:RB w d bs):SB w d.A bs:=by
 obtain ⟨h1,h2,h3,h4⟩:=h;refine ⟨fun e=>by have:=h3 e;omega,fun ad e j u hu=>?_⟩;obtain ⟨g,cur,rfl,hg,_,hc⟩:=h4 ad e;rw [lit_add,hg.cell,Nat.zero_add];exact hc j u hu
structure Ch (w w':World) (M:Nat->Prop) (G:List (Nat×Nat)):Prop where
 os:w'.os=w.os
 tape:w'.tape=w.tape
 output:w'.output=w.output
 size:w.heap.size<=w'.heap.size
 block:∀ i,i<w.heap.size->¬ M i->(∀ p∈G,p.1≠i)->w'.heap[i]? =w.heap[i]?
 bytes:∀ p∈G,¬ M p.1->∀ cur,IsB w p.1 5 cur->∃ cur',IsB w' p.1 5 cur'/\cur'.size=cur.size/\∀ j,j<p.2->cur'[j]? =cur[j]?
theorem Ch.refl (w:World) (M:Nat->Prop) (G:List (Nat×Nat)):Ch w w M G:=⟨rfl,rfl,rfl,Nat.le_refl _,fun _ _ _ _=>rfl,fun _ _ _ cur h=>⟨cur,h,rfl,fun _ _=>rfl⟩⟩
theorem Ch.below {w w':World} (h:Below w.heap.size w w') (M:Nat->Prop) (G:List (Nat×Nat)):Ch w w' M G:=⟨h.os,h.tape,h.output,h.size,fun i hi _ _=>h.block i hi,fun _ _ _ cur hc=>⟨cur,hc.on h,rfl,fun _ _=>rfl⟩⟩
theorem Ch.mono {w w':World} {M M':Nat->Prop} {G G':List (Nat×Nat)} (h:Ch w w' M G) (hM:∀ i,M i->M' i) (hG:∀ p∈G,p∈G') (hG':∀ p∈G',(∀ q∈G,q.1=p.1->q=p)):Ch w w' M' G':=by
 refine ⟨h.os,h.tape,h.output,h.size,fun i hi hm hg=>h.block i hi (fun hh=>hm (hM i hh)) (fun p hp=>hg p (hG p hp)),fun p hp hm cur hc=>?_⟩;by_cases hx:∃ q∈G,q.1=p.1
 · obtain ⟨q,hq,e⟩:=hx;have:=hG' p hp q hq e;subst this;exact h.bytes q hq (fun hh=>hm (hM _ hh)) cur hc
 refine ⟨cur,(h.block p.1 hc.lt (fun hh=>hm (hM _ hh)) (fun q hq e=>hx ⟨q,hq,e⟩)).trans hc,rfl,fun _ _=>rfl⟩
theorem RB.ch {w w':World} {d:BD} {bs:List UInt8} {M:Nat->Prop} {G:List (Nat×Nat)} (h:RB w d bs) (hc:Ch w w' M G) (hM:∀ g,blk d=some g->¬ M g) (hG:∀ p∈G,blk d=some p.1->d.len<=p.2):RB w' d bs:=by
 obtain ⟨h1,h2,h3,h4⟩:=h;refine ⟨h1,h2,h3,fun ad e=>?_⟩;obtain ⟨g,cur,rfl,hg,hs,hcur⟩:=h4 ad e;have hb:blk d=some g:=by simp [blk,e]
 by_cases hx:∃ p∈G,p.1=g
 · obtain ⟨p,hp,rfl⟩:=hx;obtain ⟨cur',c1,c2,c3⟩:=hc.bytes p hp (hM _ hb) cur hg;refine ⟨p.1,cur',rfl,c1,by omega,fun j u hu=>?_⟩
   have hj:j<bs.length:=by
    have:=(List.getElem?_eq_some_iff.1 hu).1;simpa using this
   rw [c3 j (by have:=hG p hp hb;omega)];exact hcur j u hu
 exact ⟨g,cur,rfl,(hc.block g hg.lt (hM _ hb) (fun p hp e=>hx ⟨p,hp,e⟩)).trans hg,hs,hcur⟩
theorem RB.on {w w':World} {d:BD} {bs:List UInt8} (h:RB w d bs) (hb:Below w.heap.size w w'):RB w' d bs:=h.ch (Ch.below hb (fun _=>False) []) (fun _ _ h=>h) (by simp)
theorem info5:(Tryz.prog.info? 5).map (fun i=>(i.zero,i.size,i.bytes))=some (some (.int .u8 0),1,1):=by kernel_rfl
theorem RB.lt {w:World} {d:BD} {bs:List UInt8} (h:RB w d bs) {g:Nat} (hg:blk d=some g):g<w.heap.size:=by
 cases hA:d.A with
 | none=>simp [blk,hA] at hg
 | some ad=>
  obtain ⟨g',cur,rfl,hb,_⟩:=h.2.2.2 ad hA;simp [blk,hA] at hg;subst hg;exact hb.lt
def room (d:BD):List (Nat×Nat):=match d.A with | some ad=>if d.len<d.cap then [(ad.block,d.len)] else [] | none=>[]
theorem setCells_heap (b:Nat):∀ (vs:List Value) (o:Nat) (w:World) (i:Nat),i≠b->(w.setCells b o vs).heap[i]? =w.heap[i]?
 | [],_,_,_,_=>rfl
 | v::r,o,w,i,h=>by
  rw [World.setCells,setCells_heap b r (o+1) _ i h];exact Below.heap_setCell w ⟨b,o,none⟩ v i (fun e=>h e)
theorem setCells_is (b:Nat) {t:TypeId}:∀ (vs:List Value) (o:Nat) (w:World) (cur:Array Value),IsB w b t cur->∃ cur',IsB (w.setCells b o vs) b t cur'/\cur'.size=cur.size/\(∀ j,j<o->cur'[j]? =cur[j]?)/\∀ j,j<vs.length->o+j<cur.size->cur'[o+j]? =vs[j]?
 | [],_,_,cur,h=>⟨cur,h,rfl,fun _ _=>rfl,fun j hj=>absurd hj (by simp)⟩
 | v::r,o,w,cur,h=>by
  obtain ⟨cur',c1,c2,c3,c4⟩:=setCells_is b r (o+1) (w.setCell ⟨b,o,none⟩ v) (cur.setIfInBounds o v) (h.set_ o v);refine ⟨cur',c1,by simpa using c2,fun j hj=>?_,fun j hj hs=>?_⟩
  · rw [c3 j (by omega),Array.getElem?_setIfInBounds_ne (by omega)]
  cases j with
  | zero=>
   rw [Nat.add_zero,c3 o (by omega),Array.getElem?_setIfInBounds_self_of_lt (by omega)];rfl
  | succ j=>
   have:=c4 j (by simpa using hj) (by simp;omega);rw [show o+(j+1)=o+1+j by omega,this];rfl
theorem setCells_world (b:Nat):∀ (vs:List Value) (o:Nat) (w:World),(w.setCells b o vs).os=w.os/\(w.setCells b o vs).tape=w.tape/\(w.setCells b o vs).output=w.output/\(w.setCells b o vs).heap.size=w.heap.size
 | [],_,_=>⟨rfl,rfl,rfl,rfl⟩
 | v::r,o,w=>by
  obtain ⟨a,b',c,d⟩:=setCells_world b r (o+1) (w.setCell ⟨b,o,none⟩ v);exact ⟨a.trans rfl,b'.trans rfl,c.trans rfl,d.trans (by simp [World.setCell])⟩
theorem IsB.uniq {w:World} {g:Nat} {t:TypeId} {cs cs':Array Value} (h:IsB w g t cs) (h':IsB w g t cs'):cs=cs':=by
 have e:some (Obj.cells cs t (0,0))=some (Obj.cells cs' t (0,0)):=h.symm.trans h';injection e with e;injection e
def AppB (w:World) (d:BD) (bs:List UInt8) (d':BD) (w':World):Prop:=
 RB w' d' bs/\((blk d'=blk d/\d'.cap=d.cap/\d.len<=d'.len/\Ch w w' (fun _=>False) (room d))∨(∃ H,blk d'=some H/\w.heap.size<=H/\Below w.heap.size w w'))
theorem take_get {α:Type} {l k:List α} {j:Nat} {u:α} (h:(l++k)[j]? =some u):(j<l.length/\l[j]? =some u)∨(l.length<=j/\k[j-l.length]? =some u):=by
 by_cases hj:j<l.length
 · rw [List.getElem?_append_left hj] at h;exact .inl ⟨hj,h⟩
 rw [List.getElem?_append_right (by omega)] at h;exact .inr ⟨by omega,h⟩
theorem new_bytes (w:World) (vs:Array Value) (H n cap:Nat) (bs:List UInt8) (hH:w.heap.size=H) (hl:bs.length=n) (hn:n<=cap) (hs:cap<=vs.size) (hv:∀ (j:Nat) (u:Value),(bs.map encU)[j]? =some u->vs[j]? =some u):RB (w.alloc (.cells vs 5)) ⟨some ⟨H,0,none⟩,n,cap⟩ bs:=by
 subst hH;refine ⟨hl,hn,(fun e=>by cases e),fun ad e=>?_⟩;injection e with e;subst e;exact ⟨w.heap.size,vs,rfl,IsB.new _ _ _,hs,hv⟩
set_option maxHeartbeats 1000000 in
theorem run_append_bytes (w:World) (ty:TypeId) (d:BD) (bs:List UInt8) (h:RB w d bs) (A:Option Addr) (c:Nat) (ns:List UInt8) (hs:SB w A ns) (hb:bs.length+ns.length<=1099511627776):
 ∃ d' w',(Builtin.append_ #[40,40] ty #[vB d,.slice A ns.length c]).run Tryz.prog w= .ok (vB d') w'/\d'.len=d.len+ns.length/\AppB w d (bs++ns) d' w':=by
 obtain ⟨i0,hi,hz0,hz1,hz2⟩:=info_parts info5;obtain ⟨h1,h2,h3,h4⟩:=h;have hR:RB w d bs:=⟨h1,h2,h3,h4⟩;by_cases hm:ns.length=0
 · have hns:ns=[]:=List.eq_nil_of_length_eq_zero hm;subst hns;refine ⟨d,w,?_,by simp,by simpa using hR,.inl ⟨rfl,rfl,Nat.le_refl _,Ch.refl _ _ _⟩⟩;cases hA:A with
   | none=>
    simp [vB,Builtin.append_,run_underlying Tryz.underlying40,sizeOf,typeInfo,hi,Builtin.lenOf,Builtin.firstCells,h2,storeCells];cases d.A<;>simp
   | some a=>
    simp [vB,Builtin.append_,run_underlying Tryz.underlying40,sizeOf,typeInfo,hi,Builtin.lenOf,Builtin.firstCells,h2,storeCells,loadCells,loadCellsFrom];cases d.A<;>simp
 cases hA:A with
 | none=>exact absurd (hs.1 hA) hm
 | some a=>
  have hnews:=hs.2 a hA;have hl:(ns.map encU).length=ns.length*i0.size:=by rw [hz1,List.length_map,Nat.mul_one]
  cases hd:d.A with
  | none=>
   have hc0:=h3 hd;have hl0:d.len=0:=by omega
   have hb0:bs=[]:=List.eq_nil_of_length_eq_zero (by omega);subst hb0;have hv:vB d= .slice none 0 0:=by simp [vB,hd,hl0,hc0]
   have hr:=run_append_nil (P:=Tryz.prog) w 40 ty 5 i0 _ Tryz.underlying40 hi hz0 a ns.length c (ns.map encU) hl hnews (by omega) (by simp at hb;omega) (by rw [hz2];simp at hb;omega);have hge:=grownCap_ge w ns.length 0 5;refine ⟨⟨some ⟨w.heap.size,0,none⟩,ns.length,grownCap w ns.length 0 5⟩,_,by rw [hv];exact hr,by simp only [hl0];omega,?_,.inr ⟨w.heap.size,rfl,Nat.le_refl _,(Below.refl w.heap.size w).drew.alloc (by simp) _⟩⟩;refine new_bytes w.drew _ _ _ _ _ (by simp) (by simp) hge ?_ (fun j u hu=>?_)
   · rw [Array.size_append,List.size_toArray,size_zeroCells];simp [Value.cells];omega
   rw [List.nil_append] at hu;have hj:=(List.getElem?_eq_some_iff.1 hu).1;rw [Array.getElem?_append_left (by simpa using hj),List.getElem?_toArray];exact hu
  | some ad=>
   obtain ⟨g,cur,rfl,hg,hcs,hcur⟩:=h4 ad hd;have hv:vB d= .slice (some ⟨g,0,none⟩) d.len d.cap:=by simp [vB,hd]
   by_cases hroom:d.len+ns.length<=d.cap
   · have hr:=run_append_room_cells (P:=Tryz.prog) w 40 ty 5 i0 Tryz.underlying40 hi g 0 d.len d.cap a ns.length c (ns.map encU) hl hnews (encU_one ns) hroom
      (fun j hj=>by
        rw [hz1,hg.cell];have hj':j<ns.length:=by simpa using hj
        have:0+d.len*1+j<cur.size:=by omega
        rw [Array.getElem?_eq_getElem this];rfl) (fun j _=>hg.frozen _)
     rw [hz1,Nat.zero_add,Nat.mul_one] at hr;obtain ⟨cur',c1,c2,c3,c4⟩:=setCells_is g (ns.map encU) d.len w cur hg;obtain ⟨e1,e2,e3,e4⟩:=setCells_world g (ns.map encU) d.len w;refine ⟨⟨some ⟨g,0,none⟩,d.len+ns.length,d.cap⟩,_,by rw [hv];exact hr,rfl,⟨by simp;omega,hroom,(fun e=>by cases e),fun ad e=>?_⟩,.inl ⟨by simp [blk,hd],rfl,by simp,?_⟩⟩
     · injection e with e;subst e;refine ⟨g,cur',rfl,c1,by simp only;omega,fun j u hu=>?_⟩;rw [List.map_append] at hu;rcases take_get hu with ⟨hj,hu⟩ | ⟨hj,hu⟩
       · rw [c3 j (by simp at hj;omega)];exact hcur j u hu
       have hj2:=(List.getElem?_eq_some_iff.1 hu).1;simp only [List.length_map] at hj hj2 hu;have:=c4 (j-bs.length) (by simpa using hj2) (by omega);rw [show d.len+(j-bs.length)=j by omega] at this;rw [this];exact hu
     refine ⟨e1,e2,e3,by omega,fun i hi' _ hgi=>setCells_heap g _ _ w i (fun e=>?_),fun p hp _ cur0 hcur0=>?_⟩
     · subst e;have hlt:d.len<d.cap:=by omega
       exact hgi (i,d.len) (by simp [room,hd,hlt]) rfl
     have hlt:d.len<d.cap:=by omega
     simp [room,hd,hlt] at hp;subst hp;have:cur0=cur:=IsB.uniq hcur0 hg;subst this;exact ⟨cur',c1,c2,c3⟩
   have hlo:(bs.map encU).length=d.len*i0.size:=by rw [hz1,List.length_map,Nat.mul_one,h1]
   have hr:=run_append_grow (P:=Tryz.prog) w 40 ty 5 i0 _ Tryz.underlying40 hi hz0 ⟨g,0,none⟩ d.len d.cap (bs.map encU) hlo (fun j u hu=>by rw [lit_add,hg.cell,Nat.zero_add];exact hcur j u hu) a ns.length c (ns.map encU) hl hnews (by omega) (by omega) (growslice_fits (by omega) (by rw [hz2];omega));have hge:=grownCap_ge w (d.len+ns.length) d.cap 5;refine ⟨⟨some ⟨w.heap.size,0,none⟩,d.len+ns.length,grownCap w (d.len+ns.length) d.cap 5⟩,_,by rw [hv];exact hr,rfl,?_,.inr ⟨w.heap.size,rfl,Nat.le_refl _,(Below.refl w.heap.size w).drew.alloc (by simp) _⟩⟩;refine new_bytes w.drew _ _ _ _ _ (by simp) (by simp;omega) hge ?_ (fun j u hu=>?_)
   · rw [Array.size_append,Array.size_append,List.size_toArray,List.size_toArray,size_zeroCells];simp [Value.cells];omega
   rw [List.map_append] at hu;have hj:=(List.getElem?_eq_some_iff.1 hu).1;rw [Array.getElem?_append_left (by simpa using hj),List.append_toArray,List.getElem?_toArray];exact hu
end Go.Proofs.YtmiknfneeipkeaaGreat
namespace Go.Proofs.YtmiknfneeipkeaaGreat
open Go.RowKit
section
variable {w:World} {ops:Array Oper} {rest:List Oper} {o:Oper} {a:Act} {Q:Exit->Act->World->Prop}
theorem wp_append_bytes {K:Act->World->Prop} (s x:Operand) (ho:o.op= .call { callee:=.builtin .append,args:= #[s,x],argTypes:= #[40,40] }) (d:BD) (bs:List UInt8) (hs:a.eval s=vB d) (h:RB w d bs)
 (A:Option Addr) (c:Nat) (ns:List UInt8) (hx:a.eval x= .slice A ns.length c) (hsrc:SB w A ns) (hb:bs.length+ns.length<=1099511627776)
 (hK:∀ d' w',d'.len=d.len+ns.length->AppB w d (bs++ns) d' w'->K (a.put o.dst (vB d')) w'):o.wp Tryz.prog a w K Q:=by
 obtain ⟨d',w',hr,h2,h3⟩:=run_append_bytes w o.type d bs h A c ns hsrc hb;unfold Oper.wp execOp;simp only [ho,resolve,invoke,builtin,Sem.run_bind,Sem.run_pure,Result.andThen_ok,List.map_toArray,List.map_cons,List.map_nil,hs,hx,hr];exact hK d' w' h2 h3
theorem wpList_append_bytes (hgd:o.guard=none) (s x:Operand) (ho:o.op= .call { callee:=.builtin .append,args:= #[s,x],argTypes:= #[40,40] }) (d:BD) (bs:List UInt8) (hs:a.eval s=vB d) (h:RB w d bs)
 (A:Option Addr) (c:Nat) (ns:List UInt8) (hx:a.eval x= .slice A ns.length c) (hsrc:SB w A ns) (hb:bs.length+ns.length<=1099511627776)
 (hK:∀ d' w',d'.len=d.len+ns.length->AppB w d (bs++ns) d' w'->wpList Tryz.prog ops Q rest (a.put o.dst (vB d')) w'):wpList Tryz.prog ops Q (o::rest) a w:=
 wpList_plain hgd fun _ hK'=>wp_append_bytes s x ho d bs hs h A c ns hx hsrc hb fun d' w' h2 h3=>hK' _ _ (hK d' w' h2 h3)
theorem step_append_bytes {K:Act->World->Prop} {E:Prop} (hgd:o.guard=none) (s x:Operand) (ho:o.op= .call { callee:=.builtin .append,args:= #[s,x],argTypes:= #[40,40] }) (d:BD) (bs:List UInt8) (hs:a.eval s=vB d) (h:RB w d bs)
 (A:Option Addr) (c:Nat) (ns:List UInt8) (hx:a.eval x= .slice A ns.length c) (hsrc:SB w A ns) (hb:bs.length+ns.length<=1099511627776)
 (hK:∀ d' w',d'.len=d.len+ns.length->AppB w d (bs++ns) d' w'->K (a.put o.dst (vB d')) w'):if Region.wanted o (yielded ops a.tmps)=true then Oper.wp Tryz.prog o a w K Q else E:=by
 have hw:Region.wanted o (yielded ops a.tmps)=true:=by simp [Region.wanted,hgd]
 rw [if_pos hw];exact wp_append_bytes s x ho d bs hs h A c ns hx hsrc hb hK
end
theorem SB.on {w w':World} {A:Option Addr} {bs:List UInt8} (h:SB w A bs) (hb:Below w.heap.size w w') (hlt:∀ ad,A=some ad->0<bs.length->ad.block<w.heap.size):SB w' A bs:=by
 refine ⟨h.1,fun ad e j u hu=>?_⟩
 have hp:0<bs.length:=by
  have:=(List.getElem?_eq_some_iff.1 hu).1;simp at this;omega
 have h1:=h.2 ad e j u hu;have h2:=hlt ad e hp;rw [hb.cell (p:=ad.add j) (by rw [show (ad.add j).block=ad.block from by unfold Addr.add;split<;>rfl];exact h2)];exact h1
theorem SB.lt {w:World} {A:Option Addr} {bs:List UInt8} (h:SB w A bs):∀ ad,A=some ad->0<bs.length->ad.block<w.heap.size:=by
 intro ad e hp;have h1:=h.2 ad e 0 _ (List.getElem?_eq_getElem (by simpa using hp));have:=World.block_lt_of_cell? w _ h1;rwa [show (ad.add 0).block=ad.block from by unfold Addr.add;split<;>rfl] at this
def NewB (bs:List UInt8) (w:World) (e:Ending) (w':World):Prop:=
 ∃ d,e= .returned (vB d)/\RB w' d bs/\(∀ g,blk d=some g->w.heap.size<=g)/\Below w.heap.size w w'
theorem AppB.new {w w0 w':World} {d d':BD} {bs:List UInt8} (h:AppB w d bs d' w') (hd:∀ g,blk d=some g->w0.heap.size<=g) (h0:Below w0.heap.size w0 w):RB w' d' bs/\(∀ g,blk d'=some g->w0.heap.size<=g)/\Below w0.heap.size w0 w':=by
 obtain ⟨h1,⟨e,_,_,hc⟩ | ⟨H,e,hH,hb⟩⟩:=h
 · refine ⟨h1,fun g hg=>hd g (by rw [<- e];exact hg),⟨hc.os.trans h0.os,hc.tape.trans h0.tape,hc.output.trans h0.output,Nat.le_trans h0.size hc.size,fun i hi=>(hc.block i (Nat.lt_of_lt_of_le hi h0.size) (fun h=>h) (fun p hp e'=>?_)).trans (h0.block i hi)⟩⟩;unfold room at hp;cases hA:d.A with
   | none=>rw [hA] at hp;cases hp
   | some ad=>
    rw [hA] at hp;simp only at hp;split at hp
    · rw [List.mem_singleton] at hp;subst hp;have:=hd ad.block (by simp [blk,hA]);simp only at e';omega
    cases hp
 refine ⟨h1,fun g hg=>?_,h0.trans (hb.mono h0.size)⟩;rw [e] at hg;injection hg with hg;have:=h0.size;omega
set_option maxRecDepth 100000 in
set_option maxHeartbeats 1000000 in
theorem CloneB_any (A:Option Addr) (c:Nat) (bs:List UInt8) (w:World) (hs:SB w A bs) (hb:bs.length<=1099511627776):Calls Tryz.prog 68 #[.slice A bs.length c] w (NewB bs w):=by
 have q22:∀ (w:World) (a:Option Addr) (n c n' c':Nat),(binOp .eql 40 (.slice a n c) (.slice none n' c')).run Tryz.prog w= .ok (.bool a.isNone) w:=fun w a n c n' c'=>Lib.run_eql_slice_nil w _ _ a n c n' c' Tryz.underlying40;have Hs:=Lib.hid hs;clear hs;cases A with
 | none=>
  have h0:=Hs.out.1 rfl;obtain rfl:bs=[]:=List.eq_nil_of_length_eq_zero h0;clear h0;go_enter Tryz.func68,Tryz.ntmps68;go_wp2_with fail
  go_ret;exact ⟨⟨none,0,0⟩,rfl,⟨rfl,Nat.le_refl _,fun _=>rfl,(fun ad e=>by cases e)⟩,(fun g hg=>by cases hg),Below.refl _ _⟩
 | some ad=>
  go_enter Tryz.func68,Tryz.ntmps68;go_wp2_with (at_builtin;refine wpList_append_bytes rfl _ _ rfl ⟨some ⟨w.heap.size,0,none⟩,0,0⟩ [] rfl (new_bytes w #[] _ _ _ _ rfl rfl (Nat.le_refl _) (Nat.zero_le _) (by simp)) (some ad) c bs rfl (Hs.out.on ((Below.refl _ _).alloc (Nat.le_refl _) _) Hs.out.lt) (by simpa using hb) ?_)
  intro d1 w1 hl1 happ;obtain ⟨r1,r2,r3⟩:=happ.new (w0:=w) (fun g hg=>by simp [blk] at hg;omega) ((Below.refl _ _).alloc (Nat.le_refl _) _);have R1:=Lib.hid r1;have R2:=Lib.hid r2;have R3:=Lib.hid r3;clear r1 r2 r3 happ hl1;go_wp2_with fail
  go_ret;exact ⟨d1,rfl,R1.out,R2.out,R3.out⟩
end Go.Proofs.YtmiknfneeipkeaaGreat
namespace Go.Proofs.YtmiknfneeipkeaaGreat
def pP:Nat:=2305843009213693951
def pB:Nat:=747382712868975713
def fpStep (s:Nat) (x:UInt8):Nat:=(s*pB+(x.toNat+1)) % pP
def fpSum (bs:List UInt8):Nat:=bs.foldl fpStep 0
theorem fpSum_snoc (bs:List UInt8) (x:UInt8):fpSum (bs++[x])=fpStep (fpSum bs) x:=by
 unfold fpSum;rw [List.foldl_append,List.foldl_cons,List.foldl_nil]
theorem fpSum_nil:fpSum []=0:=by
 unfold fpSum;rw [List.foldl_nil]
theorem pP_pos:0<pP:=by unfold pP;omega
theorem fpStep_lt (s:Nat) (x:UInt8):fpStep s x<pP:=by
 unfold fpStep;exact Nat.mod_lt _ pP_pos
theorem fpSum_lt (bs:List UInt8):fpSum bs<pP:=by
 have h:∀ (l:List UInt8) (s:Nat),s<pP->l.foldl fpStep s<pP:=by
  intro l;induction l with
  | nil=>intro s h;rw [List.foldl_nil];exact h
  | cons x l ih=>intro s _;rw [List.foldl_cons];exact ih _ (fpStep_lt s x)
 unfold fpSum;exact h bs 0 pP_pos
theorem mul_words (m:Nat) (h:m<pP*pP):(m % 18446744073709551616 % 2305843009213693952+(m / 18446744073709551616*8+m % 18446744073709551616 / 2305843009213693952)) % pP=m % pP:=by
 have e:m=(m / 18446744073709551616*8+m % 18446744073709551616 / 2305843009213693952)*2305843009213693952+m % 18446744073709551616 % 2305843009213693952:=by omega
 generalize ha:m / 18446744073709551616*8+m % 18446744073709551616 / 2305843009213693952=a at *; generalize hb:m % 18446744073709551616 % 2305843009213693952=b at *; have e2:m=a*pP+(b+a):=by rw [e];unfold pP;omega
 rw [e2,Nat.mul_comm,Nat.mul_add_mod]
theorem mul_high (m:Nat) (h:m<pP*pP):m / 18446744073709551616<288230376151711744:=by
 have:pP*pP<288230376151711744*18446744073709551616:=by unfold pP;omega
 exact Nat.div_lt_of_lt_mul (by rw [Nat.mul_comm];omega)
end Go.Proofs.YtmiknfneeipkeaaGreat
namespace Go.Proofs.YtmiknfneeipkeaaGreat
abbrev ID:=Int×Int
def fpOf (bs:List UInt8):ID:=((fpSum bs:Nat),(bs.length:Nat))
def u64 (z:Int):Nat:=(z % 18446744073709551616).toNat
def putU (v:Nat):List UInt8:=if h:v<128 then [UInt8.ofNat v] else UInt8.ofNat (v % 128+128)::putU (v / 128)
termination_by v
decreasing_by omega
theorem putU_pos (v:Nat):0<(putU v).length:=by
 rw [putU];split<;>simp
theorem putU_len {v k:Nat} (h:v<128^(k+1)):(putU v).length<=k+1:=by
 induction k generalizing v with
 | zero=>
  rw [putU,dif_pos (by simpa using h)];simp
 | succ k ih=>
  rw [putU];split
  · simp
  simp only [List.length_cons]
  have:v / 128<128^(k+1):=by
   rw [Nat.div_lt_iff_lt_mul (by omega)];rw [Nat.pow_succ] at h;exact h
  have:=ih this;omega
end Go.Proofs.YtmiknfneeipkeaaGreat
namespace Go.Proofs
open Go.Shelf
def Tryz.lays125_ren:Go.Shelf.Ren:=⟨fun | 125=>127 | 128=>164 | 129=>165 | n=>n,fun | 46=>174 | 3=>3 | 51=>245 | 53=>34 | 4=>4 | 5=>5 | 9=>9 | n=>n,fun | n=>n⟩
theorem Tryz.lays125:Go.Proofs.Lays.n125 Tryz.prog Tryz.lays125_ren:={
 mixed:=by kernel_rfl
 f125:=Tryz.func127.trans (congrArg some (by kernel_rfl))
 f128:=Tryz.func164.trans (congrArg some (by kernel_rfl))
 f129:=Tryz.func165.trans (congrArg some (by kernel_rfl))
 t3:=Tryz.underlying3
 a3:=Tryz.isAgg3
 z3:=Tryz.sizeOf3
 v3:=Tryz.zeroValue3
 t4:=Tryz.underlying4
 a4:=Tryz.isAgg4
 z4:=Tryz.sizeOf4
 v4:=Tryz.zeroValue4
 t5:=Tryz.underlying5
 a5:=Tryz.isAgg5
 z5:=Tryz.sizeOf5
 v5:=Tryz.zeroValue5
 t9:=Tryz.underlying9
 a9:=Tryz.isAgg9
 z9:=Tryz.sizeOf9
 v9:=Tryz.zeroValue9
 t46:=Tryz.underlying174
 a46:=Tryz.isAgg174
 z46:=Tryz.sizeOf174
 v46:=Tryz.zeroValue174
 t51:=Tryz.underlying245
 a51:=Tryz.isAgg245
 z51:=Tryz.sizeOf245
 v51:=Tryz.zeroValue245
 t53:=Tryz.underlying34
 a53:=Tryz.isAgg34
 z53:=Tryz.sizeOf34
 v53:=Tryz.zeroValue34 }
theorem Tryz.bits_Len (x:Int) (w:World) (h0:0<=x) (h1:x<=18446744073709551615):
 Calls Tryz.prog 127 #[.int .u64 x] w fun e w'=>e= .returned (.int .i64 (Lib.bitLen x.toNat))/\w'=w:=Any.bits_Len Tryz.lays125 x w h0 h1
def Tryz.lays206_ren:Go.Shelf.Ren:=⟨fun | 206=>222 | n=>n,fun | 9=>9 | 4=>4 | 3=>3 | n=>n,fun | n=>n⟩
def Tryz.lays99_ren:Go.Shelf.Ren:=⟨fun | 99=>195 | 206=>222 | n=>n,fun | 9=>9 | 4=>4 | 3=>3 | n=>n,fun | n=>n⟩
theorem Tryz.lays99:Go.Proofs.Lays.n99 Tryz.prog Tryz.lays99_ren:={
 mixed:=by kernel_rfl
 f99:=Tryz.func195.trans (congrArg some (by kernel_rfl))
 f206:=Tryz.func222.trans (congrArg some (by kernel_rfl))
 t3:=Tryz.underlying3
 a3:=Tryz.isAgg3
 z3:=Tryz.sizeOf3
 v3:=Tryz.zeroValue3
 t4:=Tryz.underlying4
 a4:=Tryz.isAgg4
 z4:=Tryz.sizeOf4
 v4:=Tryz.zeroValue4
 t9:=Tryz.underlying9
 a9:=Tryz.isAgg9
 z9:=Tryz.sizeOf9
 v9:=Tryz.zeroValue9 }
open Go.RowKit Go.Lib in
theorem Tryz.strings_HasPrefix (s p:ByteArray) (w:World):
 Calls Tryz.prog 195 #[.string s,.string p] w fun e w'=>e= .returned (.bool (Lib.hasPrefix s.data.toList p.data.toList))/\w'=w:=Any.strings_HasPrefix Tryz.lays99 s p w
def Tryz.lays264_ren:Go.Shelf.Ren:=⟨fun | 264=>125 | n=>n,fun | 53=>34 | 46=>174 | n=>n,fun | n=>n⟩
theorem Tryz.lays264:Go.Proofs.Lays.n264 Tryz.prog Tryz.lays264_ren:={
 mixed:=by kernel_rfl
 f264:=Tryz.func125.trans (congrArg some (by kernel_rfl))
 t46:=Tryz.underlying174
 a46:=Tryz.isAgg174
 z46:=Tryz.sizeOf174
 v46:=Tryz.zeroValue174
 t53:=Tryz.underlying34
 a53:=Tryz.isAgg34
 z53:=Tryz.sizeOf34
 v53:=Tryz.zeroValue34 }
open Go.RowKit Go.Lib in
theorem Tryz.bits_Mul64 (x y:Nat) (hx:x<18446744073709551616) (hy:y<18446744073709551616) (w:World):
 Calls Tryz.prog 125 #[.int .u64 x,.int .u64 y] w fun e w'=>e= .returned (.tuple #[.int .u64 ((x*y / 18446744073709551616:Nat):Int),.int .u64 ((x*y % 18446744073709551616:Nat):Int)])/\w'=w:=Any.bits_Mul64 Tryz.lays264 x y hx hy w
def Tryz.lays115_ren:Go.Shelf.Ren:=⟨fun | 115=>115 | n=>n,fun | 37=>40 | 4=>4 | 9=>9 | 5=>5 | n=>n,fun | n=>n⟩
def Tryz.laysnb116_ren:Go.Shelf.Ren:=⟨fun | 116=>220 | 115=>115 | n=>n,fun | 37=>40 | 4=>4 | 3=>3 | 9=>9 | 5=>5 | n=>n,fun | n=>n⟩
def Tryz.laysnb141_ren:Go.Shelf.Ren:=⟨fun | 141=>192 | 116=>220 | 115=>115 | n=>n,fun | 37=>40 | 4=>4 | 3=>3 | 9=>9 | 5=>5 | n=>n,fun | n=>n⟩
theorem Tryz.laysnb141:Go.Proofs.Lays.nb141 Tryz.prog Tryz.laysnb141_ren:={
 mixed:=by kernel_rfl
 f115:=Tryz.func115.trans (congrArg some (by kernel_rfl))
 f116:=Tryz.func220.trans (congrArg some (by kernel_rfl))
 f141:=Tryz.func192.trans (congrArg some (by kernel_rfl))
 t3:=Tryz.underlying3
 a3:=Tryz.isAgg3
 z3:=Tryz.sizeOf3
 v3:=Tryz.zeroValue3
 t4:=Tryz.underlying4
 a4:=Tryz.isAgg4
 z4:=Tryz.sizeOf4
 v4:=Tryz.zeroValue4
 t9:=Tryz.underlying9
 a9:=Tryz.isAgg9
 z9:=Tryz.sizeOf9
 v9:=Tryz.zeroValue9
 t37:=Tryz.underlying40
 a37:=Tryz.isAgg40
 z37:=Tryz.sizeOf40
 v37:=Tryz.zeroValue40
 t5:=Tryz.underlying5
 a5:=Tryz.isAgg5
 z5:=Tryz.sizeOf5
 v5:=Tryz.zeroValue5 }
theorem Tryz.bytes_CutPrefix_all (p1 p2:Option Addr) (n c m d:Nat) (xs ys:List Int) (w:World) (hx:xs.length=n) (hy:ys.length=m) (hnc:n<=c) (h1:Lib.BytesIn w p1 n xs) (h2:Lib.BytesIn w p2 m ys):
 Calls Tryz.prog 192 #[.slice p1 n c,.slice p2 m d] w fun e w'=>e= .returned (.tuple #[Lib.trimPrefixV p1 n c xs ys,.bool (Lib.hasPrefix (Lib.bytesOf xs) (Lib.bytesOf ys))])/\w'=w:=Any.bytes_CutPrefix_all Tryz.laysnb141 p1 p2 n c m d xs ys w hx hy hnc h1 h2
def Tryz.laysnb115_ren:Go.Shelf.Ren:=⟨fun | 115=>115 | n=>n,fun | 37=>40 | 4=>4 | 9=>9 | 5=>5 | n=>n,fun | n=>n⟩
theorem Tryz.laysnb115:Go.Proofs.Lays.nb115 Tryz.prog Tryz.laysnb115_ren:={
 mixed:=by kernel_rfl
 f115:=Tryz.func115.trans (congrArg some (by kernel_rfl))
 t4:=Tryz.underlying4
 a4:=Tryz.isAgg4
 z4:=Tryz.sizeOf4
 v4:=Tryz.zeroValue4
 t9:=Tryz.underlying9
 a9:=Tryz.isAgg9
 z9:=Tryz.sizeOf9
 v9:=Tryz.zeroValue9
 t37:=Tryz.underlying40
 a37:=Tryz.isAgg40
 z37:=Tryz.sizeOf40
 v37:=Tryz.zeroValue40
 t5:=Tryz.underlying5
 a5:=Tryz.isAgg5
 z5:=Tryz.sizeOf5
 v5:=Tryz.zeroValue5 }
theorem Tryz.bytes_Equal_all (p1 p2:Option Addr) (n c m d:Nat) (xs ys:List Int) (w:World) (hx:xs.length=n) (hy:ys.length=m) (h1:Lib.BytesIn w p1 n xs) (h2:Lib.BytesIn w p2 m ys):
 Calls Tryz.prog 115 #[.slice p1 n c,.slice p2 m d] w fun e w'=>e= .returned (.bool (Lib.bytesOf xs==Lib.bytesOf ys))/\w'=w:=Any.bytes_Equal_all Tryz.laysnb115 p1 p2 n c m d xs ys w hx hy h1 h2
end Go.Proofs
