/- Q -/
import Derived.Test.YteabgcollokgjaaGreatDoorQP01
import Derived.ArgAppend
import Derived.Lib.SliceRun
import Derived.Deep.RegionHeld3
set_option linter.unusedSimpArgs false
set_option linter.unusedVariables false
set_option maxRecDepth 100000
set_option maxHeartbeats 32000000
open Go.Lib (hid)
open Nat renaming le_refl → zA,lt_of_lt_of_le → zB,le_trans → zC,zero_add → zD
namespace Go.Proofs.YteabgcollokgjaaGreatDoor
section
open Go.RowKit
structure BD where
 A:Option Addr
 len:Nat
 cap:Nat
def vB (d:BD):Value:=.slice d.A d.len d.cap
def blk (d:BD):Option Nat:=d.A.map (·.block)
def encU (b:UInt8):Value:=.int .u8 ((b.toNat:Nat):Int)
theorem encU_one (bs:List UInt8):∀ u∈bs.map encU,u.oneCell'=true:=by
 intro u hu;obtain ⟨b,_,rfl⟩:=List.mem_map.1 hu;rfl
def RB (w:World) (d:BD) (bs:List UInt8):Prop:=
 bs.length=d.len/\d.len<=d.cap/\(d.A=none->d.cap=0)/\∀ ad,d.A=some ad->∃ g cur,ad=⟨g,0,none⟩/\IsB w g 5 cur/\d.cap<=cur.size/\∀ (j:Nat) (u:Value),(bs.map encU)[j]? =some u->cur[j]? =some u
def SB (w:World) (A:Option Addr) (bs:List UInt8):Prop:=(A=none->bs.length=0)/\∀ ad,A=some ad->∀ (j:Nat) (u:Value),(bs.map encU)[j]? =some u->w.cell? (ad.add j)=some u
theorem lit_add (g o j:Nat):(⟨g,o,none⟩:Addr).add j=⟨g,o+j,none⟩:=by unfold Addr.add;split<;>simp_all
theorem RB.src {w:World} {d:BD} {bs:List UInt8} (h:RB w d bs):SB w d.A bs:=by
 obtain ⟨h1,h2,h3,h4⟩:=h;refine ⟨fun e=>by have:=h3 e;omega,fun ad e j u hu=>?_⟩;obtain ⟨g,cur,rfl,hg,_,hc⟩:=h4 ad e;rw [lit_add,hg.cell,zD];exact hc j u hu
structure Ch (w w':World) (M:Nat->Prop) (G:List (Nat×Nat)):Prop where
 os:w'.os=w.os
 tape:w'.tape=w.tape
 output:w'.output=w.output
 size:w.heap.size<=w'.heap.size
 block:∀ i,i<w.heap.size->¬ M i->(∀ p∈G,p.1≠i)->w'.heap[i]? =w.heap[i]?
 bytes:∀ p∈G,¬ M p.1->∀ cur,IsB w p.1 5 cur->∃ cur',IsB w' p.1 5 cur'/\cur'.size=cur.size/\∀ j,j<p.2->cur'[j]? =cur[j]?
theorem Ch.refl (w:World) (M:Nat->Prop) (G:List (Nat×Nat)):Ch w w M G:=⟨rfl,rfl,rfl,zA _,fun _ _ _ _=>rfl,fun _ _ _ cur h=>⟨cur,h,rfl,fun _ _=>rfl⟩⟩
theorem Ch.below {w w':World} (h:Below w.heap.size w w') (M:Nat->Prop) (G:List (Nat×Nat)):Ch w w' M G:=⟨h.os,h.tape,h.output,h.size,fun i hi _ _=>h.block i hi,fun _ _ _ cur hc=>⟨cur,hc.on h,rfl,fun _ _=>rfl⟩⟩
theorem Ch.mono {w w':World} {M M':Nat->Prop} {G G':List (Nat×Nat)} (h:Ch w w' M G) (hM:∀ i,M i->M' i) (hG:∀ p∈G,p∈G') (hG':∀ p∈G',(∀ q∈G,q.1=p.1->q=p)):Ch w w' M' G':=by
 refine ⟨h.os,h.tape,h.output,h.size,fun i hi hm hg=>h.block i hi (fun hh=>hm (hM i hh)) (fun p hp=>hg p (hG p hp)),fun p hp hm cur hc=>?_⟩;by_cases hx:∃ q∈G,q.1=p.1
 · obtain ⟨q,hq,e⟩:=hx;have:=hG' p hp q hq e;subst this;exact h.bytes q hq (fun hh=>hm (hM _ hh)) cur hc
 refine ⟨cur,(h.block p.1 hc.lt (fun hh=>hm (hM _ hh)) (fun q hq e=>hx ⟨q,hq,e⟩)).trans hc,rfl,fun _ _=>rfl⟩
theorem RB.ch {w w':World} {d:BD} {bs:List UInt8} {M:Nat->Prop} {G:List (Nat×Nat)} (h:RB w d bs) (hc:Ch w w' M G) (hM:∀ g,blk d=some g->¬ M g) (hG:∀ p∈G,blk d=some p.1->d.len<=p.2):RB w' d bs:=by
 obtain ⟨h1,h2,h3,h4⟩:=h;refine ⟨h1,h2,h3,fun ad e=>?_⟩;obtain ⟨g,cur,rfl,hg,hs,hcur⟩:=h4 ad e;have hb:blk d=some g:=by simp [blk,e]
 by_cases hx:∃ p∈G,p.1=g
 · obtain ⟨p,hp,rfl⟩:=hx;obtain ⟨cur',c1,c2,c3⟩:=hc.bytes p hp (hM _ hb) cur hg;refine ⟨p.1,cur',rfl,c1,by omega,fun j u hu=>?_⟩
   have hj:j<bs.length:=by
    have:=(List.getElem?_eq_some_iff.1 hu).1;simpa using this
   rw [c3 j (by have:=hG p hp hb;omega)];exact hcur j u hu
 exact ⟨g,cur,rfl,(hc.block g hg.lt (hM _ hb) (fun p hp e=>hx ⟨p,hp,e⟩)).trans hg,hs,hcur⟩
theorem RB.on {w w':World} {d:BD} {bs:List UInt8} (h:RB w d bs) (hb:Below w.heap.size w w'):RB w' d bs:=h.ch (Ch.below hb (fun _=>False) []) (fun _ _ h=>h) (by simp)
theorem info5:(Tryz.prog.info? 5).map (fun i=>(i.zero,i.size,i.bytes))=some (some (.int .u8 0),1,1):=by kernel_rfl
theorem RB.lt {w:World} {d:BD} {bs:List UInt8} (h:RB w d bs) {g:Nat} (hg:blk d=some g):g<w.heap.size:=by
 cases hA:d.A with
 | none=>simp [blk,hA] at hg
 | some ad=>
  obtain ⟨g',cur,rfl,hb,_⟩:=h.2.2.2 ad hA;simp [blk,hA] at hg;subst hg;exact hb.lt
def room (d:BD):List (Nat×Nat):=match d.A with | some ad=>if d.len<d.cap then [(ad.block,d.len)] else [] | none=>[]
theorem setCells_heap (b:Nat):∀ (vs:List Value) (o:Nat) (w:World) (i:Nat),i≠b->(w.setCells b o vs).heap[i]? =w.heap[i]?
 | [],_,_,_,_=>rfl
 | v::r,o,w,i,h=>by
  rw [World.setCells,setCells_heap b r (o+1) _ i h];exact Below.heap_setCell w ⟨b,o,none⟩ v i (fun e=>h e)
theorem setCells_is (b:Nat) {t:TypeId}:∀ (vs:List Value) (o:Nat) (w:World) (cur:Array Value),IsB w b t cur->∃ cur',IsB (w.setCells b o vs) b t cur'/\cur'.size=cur.size/\(∀ j,j<o->cur'[j]? =cur[j]?)/\∀ j,j<vs.length->o+j<cur.size->cur'[o+j]? =vs[j]?
 | [],_,_,cur,h=>⟨cur,h,rfl,fun _ _=>rfl,fun j hj=>absurd hj (by simp)⟩
 | v::r,o,w,cur,h=>by
  obtain ⟨cur',c1,c2,c3,c4⟩:=setCells_is b r (o+1) (w.setCell ⟨b,o,none⟩ v) (cur.setIfInBounds o v) (h.set_ o v);refine ⟨cur',c1,by simpa using c2,fun j hj=>?_,fun j hj hs=>?_⟩
  · rw [c3 j (by omega),Array.getElem?_setIfInBounds_ne (by omega)]
  cases j with
  | zero=>
   rw [Nat.add_zero,c3 o (by omega),Array.getElem?_setIfInBounds_self_of_lt (by omega)];rfl
  | succ j=>
   have:=c4 j (by simpa using hj) (by simp;omega);rw [show o+(j+1)=o+1+j by omega,this];rfl
theorem setCells_world (b:Nat):∀ (vs:List Value) (o:Nat) (w:World),(w.setCells b o vs).os=w.os/\(w.setCells b o vs).tape=w.tape/\(w.setCells b o vs).output=w.output/\(w.setCells b o vs).heap.size=w.heap.size
 | [],_,_=>⟨rfl,rfl,rfl,rfl⟩
 | v::r,o,w=>by
  obtain ⟨a,b',c,d⟩:=setCells_world b r (o+1) (w.setCell ⟨b,o,none⟩ v);exact ⟨a.trans rfl,b'.trans rfl,c.trans rfl,d.trans (by simp [World.setCell])⟩
theorem IsB.uniq {w:World} {g:Nat} {t:TypeId} {cs cs':Array Value} (h:IsB w g t cs) (h':IsB w g t cs'):cs=cs':=by
 have e:some (Obj.cells cs t (0,0))=some (Obj.cells cs' t (0,0)):=h.symm.trans h';injection e with e;injection e
def AppB (w:World) (d:BD) (bs:List UInt8) (d':BD) (w':World):Prop:=
 RB w' d' bs/\((blk d'=blk d/\d'.cap=d.cap/\d.len<=d'.len/\Ch w w' (fun _=>False) (room d))∨(∃ H,blk d'=some H/\w.heap.size<=H/\Below w.heap.size w w'))
theorem take_get {α:Type} {l k:List α} {j:Nat} {u:α} (h:(l++k)[j]? =some u):(j<l.length/\l[j]? =some u)∨(l.length<=j/\k[j-l.length]? =some u):=by
 by_cases hj:j<l.length
 · rw [List.getElem?_append_left hj] at h;exact .inl ⟨hj,h⟩
 rw [List.getElem?_append_right (by omega)] at h;exact .inr ⟨by omega,h⟩
theorem new_bytes (w:World) (vs:Array Value) (H n cap:Nat) (bs:List UInt8) (hH:w.heap.size=H) (hl:bs.length=n) (hn:n<=cap) (hs:cap<=vs.size) (hv:∀ (j:Nat) (u:Value),(bs.map encU)[j]? =some u->vs[j]? =some u):RB (w.alloc (.cells vs 5)) ⟨some ⟨H,0,none⟩,n,cap⟩ bs:=by
 subst hH;refine ⟨hl,hn,(fun e=>by cases e),fun ad e=>?_⟩;injection e with e;subst e;exact ⟨w.heap.size,vs,rfl,IsB.new _ _ _,hs,hv⟩
theorem run_append_bytes (w:World) (ty:TypeId) (d:BD) (bs:List UInt8) (h:RB w d bs) (A:Option Addr) (c:Nat) (ns:List UInt8) (hs:SB w A ns) (hb:bs.length+ns.length<=1099511627776):
 ∃ d' w',(Builtin.append_ #[34,34] ty #[vB d,.slice A ns.length c]).run Tryz.prog w= .ok (vB d') w'/\d'.len=d.len+ns.length/\AppB w d (bs++ns) d' w':=by
 obtain ⟨i0,hi,hz0,hz1,hz2⟩:=info_parts info5;obtain ⟨h1,h2,h3,h4⟩:=h;have hR:RB w d bs:=⟨h1,h2,h3,h4⟩;by_cases hm:ns.length=0
 · have hns:ns=[]:=List.eq_nil_of_length_eq_zero hm;subst hns;refine ⟨d,w,?_,by simp,by simpa using hR,.inl ⟨rfl,rfl,zA _,Ch.refl _ _ _⟩⟩;cases hA:A with
   | none=>
    simp [vB,Builtin.append_,run_underlying Tryz.underlying34,sizeOf,typeInfo,hi,Builtin.lenOf,Builtin.firstCells,h2,storeCells];cases d.A<;>simp
   | some a=>
    simp [vB,Builtin.append_,run_underlying Tryz.underlying34,sizeOf,typeInfo,hi,Builtin.lenOf,Builtin.firstCells,h2,storeCells,loadCells,loadCellsFrom];cases d.A<;>simp
 cases hA:A with
 | none=>exact absurd (hs.1 hA) hm
 | some a=>
  have hnews:=hs.2 a hA;have hl:(ns.map encU).length=ns.length*i0.size:=by rw [hz1,List.length_map,Nat.mul_one]
  cases hd:d.A with
  | none=>
   have hc0:=h3 hd;have hl0:d.len=0:=by omega
   have hb0:bs=[]:=List.eq_nil_of_length_eq_zero (by omega);subst hb0;have hv:vB d= .slice none 0 0:=by simp [vB,hd,hl0,hc0]
   have hr:=run_append_nil (P:=Tryz.prog) w 34 ty 5 i0 _ Tryz.underlying34 hi hz0 a ns.length c (ns.map encU) hl hnews (by omega) (by simp at hb;omega) (by rw [hz2];simp at hb;omega);have hge:=grownCap_ge w ns.length 0 5;refine ⟨⟨some ⟨w.heap.size,0,none⟩,ns.length,grownCap w ns.length 0 5⟩,_,by rw [hv];exact hr,by simp only [hl0];omega,?_,.inr ⟨w.heap.size,rfl,zA _,(Below.refl w.heap.size w).drew.alloc (by simp) _⟩⟩;refine new_bytes w.drew _ _ _ _ _ (by simp) (by simp) hge ?_ (fun j u hu=>?_)
   · rw [Array.size_append,List.size_toArray,size_zeroCells];simp [Value.cells];omega
   rw [List.nil_append] at hu;have hj:=(List.getElem?_eq_some_iff.1 hu).1;rw [Array.getElem?_append_left (by simpa using hj),List.getElem?_toArray];exact hu
  | some ad=>
   obtain ⟨g,cur,rfl,hg,hcs,hcur⟩:=h4 ad hd;have hv:vB d= .slice (some ⟨g,0,none⟩) d.len d.cap:=by simp [vB,hd]
   by_cases hroom:d.len+ns.length<=d.cap
   · have hr:=run_append_room_cells (P:=Tryz.prog) w 34 ty 5 i0 Tryz.underlying34 hi g 0 d.len d.cap a ns.length c (ns.map encU) hl hnews (encU_one ns) hroom
      (fun j hj=>by
        rw [hz1,hg.cell];have hj':j<ns.length:=by simpa using hj
        have:0+d.len*1+j<cur.size:=by omega
        rw [Array.getElem?_eq_getElem this];rfl) (fun j _=>hg.frozen _)
     rw [hz1,zD,Nat.mul_one] at hr;obtain ⟨cur',c1,c2,c3,c4⟩:=setCells_is g (ns.map encU) d.len w cur hg;obtain ⟨e1,e2,e3,e4⟩:=setCells_world g (ns.map encU) d.len w;refine ⟨⟨some ⟨g,0,none⟩,d.len+ns.length,d.cap⟩,_,by rw [hv];exact hr,rfl,⟨by simp;omega,hroom,(fun e=>by cases e),fun ad e=>?_⟩,.inl ⟨by simp [blk,hd],rfl,by simp,?_⟩⟩
     · injection e with e;subst e;refine ⟨g,cur',rfl,c1,by simp only;omega,fun j u hu=>?_⟩;rw [List.map_append] at hu;rcases take_get hu with ⟨hj,hu⟩ | ⟨hj,hu⟩
       · rw [c3 j (by simp at hj;omega)];exact hcur j u hu
       have hj2:=(List.getElem?_eq_some_iff.1 hu).1;simp only [List.length_map] at hj hj2 hu;have:=c4 (j-bs.length) (by simpa using hj2) (by omega);rw [show d.len+(j-bs.length)=j by omega] at this;rw [this];exact hu
     refine ⟨e1,e2,e3,by omega,fun i hi' _ hgi=>setCells_heap g _ _ w i (fun e=>?_),fun p hp _ cur0 hcur0=>?_⟩
     · subst e;have hlt:d.len<d.cap:=by omega
       exact hgi (i,d.len) (by simp [room,hd,hlt]) rfl
     have hlt:d.len<d.cap:=by omega
     simp [room,hd,hlt] at hp;subst hp;have:cur0=cur:=IsB.uniq hcur0 hg;subst this;exact ⟨cur',c1,c2,c3⟩
   have hlo:(bs.map encU).length=d.len*i0.size:=by rw [hz1,List.length_map,Nat.mul_one,h1]
   have hr:=run_append_grow (P:=Tryz.prog) w 34 ty 5 i0 _ Tryz.underlying34 hi hz0 ⟨g,0,none⟩ d.len d.cap (bs.map encU) hlo (fun j u hu=>by rw [lit_add,hg.cell,zD];exact hcur j u hu) a ns.length c (ns.map encU) hl hnews (by omega) (by omega) (growslice_fits (by omega) (by rw [hz2];omega));have hge:=grownCap_ge w (d.len+ns.length) d.cap 5;refine ⟨⟨some ⟨w.heap.size,0,none⟩,d.len+ns.length,grownCap w (d.len+ns.length) d.cap 5⟩,_,by rw [hv];exact hr,rfl,?_,.inr ⟨w.heap.size,rfl,zA _,(Below.refl w.heap.size w).drew.alloc (by simp) _⟩⟩;refine new_bytes w.drew _ _ _ _ _ (by simp) (by simp;omega) hge ?_ (fun j u hu=>?_)
   · rw [Array.size_append,Array.size_append,List.size_toArray,List.size_toArray,size_zeroCells];simp [Value.cells];omega
   rw [List.map_append] at hu;have hj:=(List.getElem?_eq_some_iff.1 hu).1;rw [Array.getElem?_append_left (by simpa using hj),List.append_toArray,List.getElem?_toArray];exact hu
section
variable {w:World} {ops:Array Oper} {rest:List Oper} {o:Oper} {a:Act} {Q:Exit->Act->World->Prop}
theorem wp_append_bytes {K:Act->World->Prop} (s x:Operand) (ho:o.op= .call { callee:=.builtin .append,args:= #[s,x],argTypes:= #[34,34] }) (d:BD) (bs:List UInt8) (hs:a.eval s=vB d) (h:RB w d bs)
 (A:Option Addr) (c:Nat) (ns:List UInt8) (hx:a.eval x= .slice A ns.length c) (hsrc:SB w A ns) (hb:bs.length+ns.length<=1099511627776)
 (hK:∀ d' w',d'.len=d.len+ns.length->AppB w d (bs++ns) d' w'->K (a.put o.dst (vB d')) w'):o.wp Tryz.prog a w K Q:=by
 obtain ⟨d',w',hr,h2,h3⟩:=run_append_bytes w o.type d bs h A c ns hsrc hb;unfold Oper.wp execOp;simp only [ho,resolve,invoke,builtin,Sem.run_bind,Sem.run_pure,Result.andThen_ok,List.map_toArray,List.map_cons,List.map_nil,hs,hx,hr];exact hK d' w' h2 h3
theorem wpList_append_bytes (hgd:o.guard=none) (s x:Operand) (ho:o.op= .call { callee:=.builtin .append,args:= #[s,x],argTypes:= #[34,34] }) (d:BD) (bs:List UInt8) (hs:a.eval s=vB d) (h:RB w d bs)
 (A:Option Addr) (c:Nat) (ns:List UInt8) (hx:a.eval x= .slice A ns.length c) (hsrc:SB w A ns) (hb:bs.length+ns.length<=1099511627776)
 (hK:∀ d' w',d'.len=d.len+ns.length->AppB w d (bs++ns) d' w'->wpList Tryz.prog ops Q rest (a.put o.dst (vB d')) w'):wpList Tryz.prog ops Q (o::rest) a w:=
 wpList_plain hgd fun _ hK'=>wp_append_bytes s x ho d bs hs h A c ns hx hsrc hb fun d' w' h2 h3=>hK' _ _ (hK d' w' h2 h3)
theorem step_append_bytes {K:Act->World->Prop} {E:Prop} (hgd:o.guard=none) (s x:Operand) (ho:o.op= .call { callee:=.builtin .append,args:= #[s,x],argTypes:= #[34,34] }) (d:BD) (bs:List UInt8) (hs:a.eval s=vB d) (h:RB w d bs)
 (A:Option Addr) (c:Nat) (ns:List UInt8) (hx:a.eval x= .slice A ns.length c) (hsrc:SB w A ns) (hb:bs.length+ns.length<=1099511627776)
 (hK:∀ d' w',d'.len=d.len+ns.length->AppB w d (bs++ns) d' w'->K (a.put o.dst (vB d')) w'):if Region.wanted o (yielded ops a.tmps)=true then Oper.wp Tryz.prog o a w K Q else E:=by
 have hw:Region.wanted o (yielded ops a.tmps)=true:=by simp [Region.wanted,hgd]
 rw [if_pos hw];exact wp_append_bytes s x ho d bs hs h A c ns hx hsrc hb hK
end
theorem SB.on {w w':World} {A:Option Addr} {bs:List UInt8} (h:SB w A bs) (hb:Below w.heap.size w w') (hlt:∀ ad,A=some ad->0<bs.length->ad.block<w.heap.size):SB w' A bs:=by
 refine ⟨h.1,fun ad e j u hu=>?_⟩
 have hp:0<bs.length:=by
  have:=(List.getElem?_eq_some_iff.1 hu).1;simp at this;omega
 have h1:=h.2 ad e j u hu;have h2:=hlt ad e hp;rw [hb.cell (p:=ad.add j) (by rw [show (ad.add j).block=ad.block from by unfold Addr.add;split<;>rfl];exact h2)];exact h1
theorem SB.lt {w:World} {A:Option Addr} {bs:List UInt8} (h:SB w A bs):∀ ad,A=some ad->0<bs.length->ad.block<w.heap.size:=by
 intro ad e hp;have h1:=h.2 ad e 0 _ (List.getElem?_eq_getElem (by simpa using hp));have:=World.block_lt_of_cell? w _ h1;rwa [show (ad.add 0).block=ad.block from by unfold Addr.add;split<;>rfl] at this
def NewB (bs:List UInt8) (w:World) (e:Ending) (w':World):Prop:=
 ∃ d,e= .returned (vB d)/\RB w' d bs/\(∀ g,blk d=some g->w.heap.size<=g)/\Below w.heap.size w w'
theorem AppB.new {w w0 w':World} {d d':BD} {bs:List UInt8} (h:AppB w d bs d' w') (hd:∀ g,blk d=some g->w0.heap.size<=g) (h0:Below w0.heap.size w0 w):RB w' d' bs/\(∀ g,blk d'=some g->w0.heap.size<=g)/\Below w0.heap.size w0 w':=by
 obtain ⟨h1,⟨e,_,_,hc⟩ | ⟨H,e,hH,hb⟩⟩:=h
 · refine ⟨h1,fun g hg=>hd g (by rw [<- e];exact hg),⟨hc.os.trans h0.os,hc.tape.trans h0.tape,hc.output.trans h0.output,zC h0.size hc.size,fun i hi=>(hc.block i (zB hi h0.size) (fun h=>h) (fun p hp e'=>?_)).trans (h0.block i hi)⟩⟩;unfold room at hp;cases hA:d.A with
   | none=>rw [hA] at hp;cases hp
   | some ad=>
    rw [hA] at hp;simp only at hp;split at hp
    · rw [List.mem_singleton] at hp;subst hp;have:=hd ad.block (by simp [blk,hA]);simp only at e';omega
    cases hp
 refine ⟨h1,fun g hg=>?_,h0.trans (hb.mono h0.size)⟩;rw [e] at hg;injection hg with hg;have:=h0.size;omega
theorem CloneB_any (A:Option Addr) (c:Nat) (bs:List UInt8) (w:World) (hs:SB w A bs) (hb:bs.length<=1099511627776):Calls Tryz.prog 87 #[.slice A bs.length c] w (NewB bs w):=by
 have q22:∀ (w:World) (a:Option Addr) (n c n' c':Nat),(binOp .eql 34 (.slice a n c) (.slice none n' c')).run Tryz.prog w= .ok (.bool a.isNone) w:=fun w a n c n' c'=>Lib.run_eql_slice_nil w _ _ a n c n' c' Tryz.underlying34;have Hs:=hid hs;clear hs;cases A with
 | none=>
  have h0:=Hs.out.1 rfl;obtain rfl:bs=[]:=List.eq_nil_of_length_eq_zero h0;clear h0;go_enter Tryz.func87,Tryz.ntmps87;go_wp2_with fail
  go_ret;exact ⟨⟨none,0,0⟩,rfl,⟨rfl,zA _,fun _=>rfl,(fun ad e=>by cases e)⟩,(fun g hg=>by cases hg),Below.refl _ _⟩
 | some ad=>
  go_enter Tryz.func87,Tryz.ntmps87;go_wp2_with (at_builtin;refine wpList_append_bytes rfl _ _ rfl ⟨some ⟨w.heap.size,0,none⟩,0,0⟩ [] rfl (new_bytes w #[] _ _ _ _ rfl rfl (zA _) (Nat.zero_le _) (by simp)) (some ad) c bs rfl (Hs.out.on ((Below.refl _ _).alloc (zA _) _) Hs.out.lt) (by simpa using hb) ?_)
  intro d1 w1 hl1 happ;obtain ⟨r1,r2,r3⟩:=happ.new (w0:=w) (fun g hg=>by simp [blk] at hg;omega) ((Below.refl _ _).alloc (zA _) _);have R1:=hid r1;have R2:=hid r2;have R3:=hid r3;clear r1 r2 r3 happ hl1;go_wp2_with fail
  go_ret;exact ⟨d1,rfl,R1.out,R2.out,R3.out⟩
theorem rbool {p q:Bool} {w W:World} (h:p=q) (hw:w=W):Ending.returned (.bool q)= .returned (.bool p)/\w=W:=⟨by rw [h],hw⟩
def okU (n:Int):Bool:=(decide (97<=n)&&decide (n<=122))||(decide (48<=n)&&decide (n<=57))||n==46||n==45
def okL (l:List UInt8):Bool:=l.all (fun c=>okU ((c.toNat:Nat):Int))
def nameB (s:ByteArray):Bool:=decide (1<=s.size)&&decide (s.size<=64)&&okL s.data.toList
theorem take_byte (s:ByteArray) (k:Nat) (h:k<s.size):s.data.toList.take (k+1)=s.data.toList.take k++[s[k]]:=by
 rw [List.take_succ_eq_append_getElem (by simpa using h)];rfl
theorem okL_snoc (l:List UInt8) (c:UInt8):okL (l++[c])=(okL l&&okU ((c.toNat:Nat):Int)):=by simp [okL]
theorem okL_false {s:ByteArray} {k:Nat} (h:k<s.size) (hc:okU (((s[k]).toNat:Nat):Int)=false):okL s.data.toList=false:=by
 unfold okL;rw [List.all_eq_false]
 exact ⟨s[k],by
  have:s[k]=s.data.toList[k]'(by simpa using h):=rfl;rw [this];exact List.getElem_mem _,by rw [hc];simp⟩
theorem validName_any (s:ByteArray) (w:World) (hs:s.size<=maxLen):Calls Tryz.prog 98 #[.string s] w fun e w'=>e= .returned (.bool (nameB s))/\w=w':=by
 unfold maxLen at hs;by_cases h1:s.size<1
 · have HN:Hid (nameB s=false):=by simp [Hid,nameB];omega
   go_enter Tryz.func98,Tryz.ntmps98;go_wp2_with fail
   go_ret;exact rbool HN.out rfl
 by_cases h2:64<s.size
 · have HN:Hid (nameB s=false):=by simp [Hid,nameB];omega
   go_enter Tryz.func98,Tryz.ntmps98;go_wp2_with fail
   go_ret;exact rbool HN.out rfl
 go_enter Tryz.func98,Tryz.ntmps98;go_wp2_with fail
 go_loop [15] (fun i=>∃ k:Nat,k<=s.size/\i= .int .i64 k/\Hid (okL (s.data.toList.take k)=true)) (fun i=>s.size-(intOf i).toNat)
 case atStart=>exact ⟨0,Nat.zero_le _,rfl,rfl⟩
 obtain ⟨k,hk,rfl,Hk⟩:=hrel;by_cases hlt:k<s.size
 · have HB:Hid (okU ((s[k]).toNat:Int)=false->nameB s=false):=fun h=>by simp [nameB,okL_false hlt h]
   have HG:Hid (okU ((s[k]).toNat:Int)=true->okL (s.data.toList.take (k+1))=true):=fun h=>by rw [take_byte s k hlt,okL_snoc,Hk.out,h];rfl
   by_cases c1:((s[k]).toNat:Int)<97
   · by_cases c2:((s[k]).toNat:Int)<48
     · by_cases c3:((s[k]).toNat:Int)=46
       · have b3:(((s[k]).toNat:Int) !=46)=false:=by simp [c3]
         have HO:=hid (HG.out (by simp [okU,c3]));clear HB HG c3;go_wp2_with fail
         go_round
         case rel=>exact ⟨k+1,by omega,by go_num,HO⟩
         simp [intOf];omega
       have b3:(((s[k]).toNat:Int) !=46)=true:=by rw [bne_iff_ne];exact c3
       by_cases c4:((s[k]).toNat:Int)=45
       · have b4:(((s[k]).toNat:Int) !=45)=false:=by simp [c4]
         have HO:=hid (HG.out (by simp [okU,c4]));clear HB HG c4 c3;go_wp2_with fail
         go_round
         case rel=>exact ⟨k+1,by omega,by go_num,HO⟩
         simp [intOf];omega
       have b4:(((s[k]).toNat:Int) !=45)=true:=by rw [bne_iff_ne];exact c4
       have HO:=hid (HB.out (by simp [okU];omega));clear HB HG c4 c3;go_wp2_with fail
       go_ret;exact rbool HO.out rfl
     by_cases c3:57<((s[k]).toNat:Int)
     · have b3:(((s[k]).toNat:Int) !=46)=true:=by rw [bne_iff_ne];omega
       have b4:(((s[k]).toNat:Int) !=45)=true:=by rw [bne_iff_ne];omega
       have HO:=hid (HB.out (by simp [okU];omega));clear HB HG;go_wp2_with fail
       go_ret;exact rbool HO.out rfl
     skip
     have HO:=hid (HG.out (by simp [okU];omega));clear HB HG;go_wp2_with fail
     go_round
     case rel=>exact ⟨k+1,by omega,by go_num,HO⟩
     simp [intOf];omega
   by_cases c2:122<((s[k]).toNat:Int)
   · have c3:57<((s[k]).toNat:Int):=by omega
     have c4:¬ ((s[k]).toNat:Int)<48:=by omega
     have b3:(((s[k]).toNat:Int) !=46)=true:=by rw [bne_iff_ne];omega
     have b4:(((s[k]).toNat:Int) !=45)=true:=by rw [bne_iff_ne];omega
     have HO:=hid (HB.out (by simp [okU];omega));clear HB HG;go_wp2_with fail
     go_ret;exact rbool HO.out rfl
   skip
   have HO:=hid (HG.out (by simp [okU];omega));clear HB HG;go_wp2_with fail
   go_round
   case rel=>exact ⟨k+1,by omega,by go_num,HO⟩
   simp [intOf];omega
 obtain rfl:k=s.size:=by omega
 have HN:Hid (nameB s=true):=by
  have:=Hk.out;rw [List.take_of_length_le (by simp)] at this;simp [Hid,nameB,this];omega
 go_wp2_with fail
 go_ret;exact rbool HN.out rfl
end
section
open Go.RowKit Go.MapKept Go.ChangeMaps
open Go.Maps (Keyed)
section
variable {α β:Type} [DecidableEq α]
def delL:List (α×β)->α->List (α×β)
 | [],_=>[]
 | c::L,a=>if c.1=a then L else c::delL L a
theorem delL_none {L:List (α×β)} {a:α} (h:∀ c∈L,c.1≠a):delL L a=L:=by
 induction L with
 | nil=>rfl
 | cons c L ih=>rw [delL,if_neg (h c (by simp)),ih (fun c hc=>h c (by simp [hc]))]
theorem delL_at {L:List (α×β)} (hn:(L.map (·.1)).Nodup) {j:Nat} {c:α×β} (h:L[j]? =some c):delL L c.1=L.eraseIdx j:=by
 induction L generalizing j with
 | nil=>simp at h
 | cons d L ih=>
  simp only [List.map_cons,List.nodup_cons] at hn;cases j with
  | zero=>simp at h;subst h;simp [delL]
  | succ j=>
   simp only [List.getElem?_cons_succ] at h;have:d.1≠c.1:=fun e=>hn.1 (by rw [e];exact List.mem_map.2 ⟨c,List.mem_of_getElem? h,rfl⟩);rw [delL,if_neg this,ih hn.2 h];rfl
theorem delL_sub (L:List (α×β)) (a:α):∀ c∈delL L a,c∈L:=by
 induction L with
 | nil=>simp [delL]
 | cons d L ih=>
  intro c hc;rw [delL] at hc;split at hc
  · exact List.mem_cons_of_mem _ hc
  rcases List.mem_cons.1 hc with rfl | hc
  · simp
  exact List.mem_cons_of_mem _ (ih c hc)
theorem asc_delL {L:List (α×β)} (hn:(L.map (·.1)).Nodup) (a a':α):asc (delL L a) a'=if a=a' then none else asc L a':=by
 induction L with
 | nil=>simp [delL,asc]
 | cons c L ih=>
  simp only [List.map_cons,List.nodup_cons] at hn;rw [delL];split
  · rename_i e
    subst e;split
    · rename_i e2
      subst e2;exact asc_none (fun d hd e3=>hn.1 (e3 ▸ List.mem_map.2 ⟨d,hd,rfl⟩))
    rename_i e2
    rw [asc,if_neg e2]
  rename_i e
  simp only [asc,ih hn.2];split
  · rename_i e2
    rw [if_neg (fun e3=>e (e2.trans e3.symm))]
  rfl
theorem delL_pairwise {R:(α×β)->(α×β)->Prop} {L:List (α×β)} (h:L.Pairwise R) (a:α):(delL L a).Pairwise R:=by
 induction L with
 | nil=>simp [delL]
 | cons c L ih=>
  obtain ⟨h1,h2⟩:=List.pairwise_cons.1 h;rw [delL];split
  · exact h2
  exact List.pairwise_cons.2 ⟨fun d hd=>h1 d (delL_sub L a d hd),ih h2⟩
theorem setL_pairwise {R:(α×β)->(α×β)->Prop} {L:List (α×β)} (hn:(L.map (·.1)).Nodup) (h:L.Pairwise R) (a:α) (v:β) (hs:∀ x y,R x y->R y x) (hv:∀ c∈L,c.1≠a->R c (a,v)):(setL L a v).Pairwise R/\∀ c∈setL L a v,c=(a,v)∨c∈L:=by
 induction L with
 | nil=>simp [setL]
 | cons c L ih=>
  obtain ⟨h1,h2⟩:=List.pairwise_cons.1 h;simp only [List.map_cons,List.nodup_cons] at hn;obtain ⟨i1,i2⟩:=ih hn.2 h2 (fun d hd=>hv d (by simp [hd]));rw [setL];split
  · rename_i e
    refine ⟨List.pairwise_cons.2 ⟨fun d hd=>?_,h2⟩,fun d hd=>?_⟩
    · by_cases hd1:d.1=a
      · exact absurd (List.mem_map.2 ⟨d,hd,by rw [hd1,e]⟩) hn.1
      exact hs _ _ (hv d (by simp [hd]) hd1)
    rcases List.mem_cons.1 hd with rfl | hd
    · exact .inl rfl
    exact .inr (by simp [hd])
  rename_i e
  refine ⟨List.pairwise_cons.2 ⟨fun d hd=>?_,i1⟩,fun d hd=>?_⟩
  · rcases i2 d hd with rfl | hd
    · exact hv c (by simp) e
    exact h1 d hd
  rcases List.mem_cons.1 hd with rfl | hd
  · exact .inr (by simp)
  rcases i2 d hd with h | h
  · exact .inl h
  exact .inr (by simp [h])
end
section
variable {α β:Type} [DecidableEq α]
variable {P:Program} {k:TypeId} {ok:α->Prop} {kv:α->Value} {vv:β->Value}
theorem map_erase {γ δ:Type} (f:γ->δ) (l:List γ) (j:Nat):(l.eraseIdx j).map f=(l.map f).eraseIdx j:=by
 induction l generalizing j with
 | nil=>simp
 | cons c l ih=>
  cases j with
  | zero=>simp
  | succ j=>simp [ih]
theorem set_block {W:World} {b:Nat} {o o':Obj} (ho:W.heap[b]? =some o):W.grownBy (setBlock W b o') (some b)/\(setBlock W b o').heap.size=W.heap.size/\(setBlock W b o').heap[b]? =some o':=by
 have hlt:b<W.heap.size:=(Array.getElem?_eq_some_iff.1 ho).1;refine ⟨⟨rfl,rfl,rfl,by simp [setBlock],fun i hi hne=>?_⟩,by simp [setBlock],by simp [setBlock,hlt]⟩;have:b≠i:=fun e=>hne (by rw [e]);simp [setBlock,this]
theorem MapIs.update (M:MK P k ok kv) {t e:TypeId} (ht:P.underlying t=some (.map k e)) {w:World} {b:Nat} {L:List (α×β)} (h:MapIs ok kv vv w b L) {a:α} (ha:ok a) (v:β):
 ∃ w',(Instr.mapUpdate t (.map (some b)) (kv a) (vv v)).run P w= .ok () w'/\MapIs ok kv vv w' b (setL L a v)/\w.grownBy w' (some b)/\w'.heap.size=w.heap.size:=by
 obtain ⟨es,clock,hb,hs,he,hok⟩:=h;obtain ⟨l,hl⟩:=M.key a ha
 have hok':∀ c∈setL L a v,ok c.1:=by
  intro c hc;have:c.1∈(setL L a v).map (·.1):=List.mem_map.2 ⟨c,hc,rfl⟩;rcases (setL_keys L a v c.1).1 this with h | h
  · rw [h];exact ha
  obtain ⟨d,hd,e⟩:=List.mem_map.1 h;rw [<- e];exact hok d hd
 rcases MapIs.find (w:=w) M hs he hok ha with ⟨h1,h0,h2⟩ | ⟨j,x,v0,h1,h2,h3,h4,h5⟩
 · refine ⟨setBlock w b (.map (es.push ⟨kv a,vv v,clock⟩) (clock+1)),?_,⟨_,_,(set_block hb).2.2,stamped_push hs h0,?_,hok'⟩,(set_block hb).1,(set_block hb).2.1⟩
   · simp [Instr.mapUpdate,run_underlying ht,MapKept.run_getObj_map hb,M.K.check w false hl,h1,MapKept.run_setObj_map _ hb,Result.andThen,setBlock]
   rw [setL_none h2];simp [he]
 have hj:es[j]? =some x:=by simpa using h2
 refine ⟨setBlock w b (.map (es.modify j (fun e'=>{ e' with key:=kv a,val:=vv v })) clock),?_,⟨_,_,(set_block hb).2.2,?_,setL_enc hs he h4 v,hok'⟩,(set_block hb).1,(set_block hb).2.1⟩
 · simp [Instr.mapUpdate,run_underlying ht,MapKept.run_getObj_map hb,M.K.check w false hl,h1,hj,h3,M.K.stays w hl,MapKept.run_setObj_map _ hb,Result.andThen,setBlock]
 refine stamped_modify hs _ _ (fun _ _=>rfl) (fun e' _ he'=>?_);rw [hj] at he';cases he'
 exact h3.symm
theorem MapIs.delete (M:MK P k ok kv) {t e:TypeId} (ht:P.underlying t=some (.map k e)) {w:World} {b:Nat} {L:List (α×β)} (h:MapIs ok kv vv w b L) {a:α} (ha:ok a) (kt ty:TypeId):
 ∃ w',(Builtin.delete_ #[t,kt] ty #[.map (some b),kv a]).run P w= .ok (.tuple #[]) w'/\MapIs ok kv vv w' b (delL L a)/\w.grownBy w' (some b)/\w'.heap.size=w.heap.size:=by
 obtain ⟨es,clock,hb,hs,he,hok⟩:=h;obtain ⟨l,hl⟩:=M.key a ha;have hok':∀ c∈delL L a,ok c.1:=fun c hc=>hok c (delL_sub L a c hc);rcases MapIs.find (w:=w) M hs he hok ha with ⟨h1,h0,h2⟩ | ⟨j,x,v0,h1,h2,h3,h4,h5⟩
 · refine ⟨setBlock w b (.map es clock),?_,⟨_,_,(set_block hb).2.2,hs,by rw [delL_none h2];exact he,hok'⟩,(set_block hb).1,(set_block hb).2.1⟩;simp [Builtin.delete_,run_underlying ht,MapKept.run_getObj_map hb,M.K.check w _ hl,h1,MapKept.run_setObj_map _ hb,Result.andThen,setBlock]
 refine ⟨setBlock w b (.map (es.eraseIdxIfInBounds j) clock),?_,⟨_,_,(set_block hb).2.2,stamped_erase hs j,?_,hok'⟩,(set_block hb).1,(set_block hb).2.1⟩
 · simp [Builtin.delete_,run_underlying ht,MapKept.run_getObj_map hb,M.K.check w _ hl,h1,MapKept.run_setObj_map _ hb,Result.andThen,setBlock]
 have e1:delL L a=L.eraseIdx j:=delL_at (keys_nodup hs he) h4
 have hjl:j<es.size:=by
  have:=(List.getElem?_eq_some_iff.1 h2).1;simpa using this
 rw [e1,Array.eraseIdxIfInBounds,dif_pos hjl,Array.toList_eraseIdx,map_erase,map_erase,he]
end
end
section
open Go.RowKit Go.MapKept Go.ChangeMaps
theorem of_drew {B:Nat} {w w':World} (h:Below B w.drew w'):Below B w w':=⟨h.os,h.tape,h.output,h.size,h.block⟩
theorem bel1 (w:World) (o:Obj):Below w.heap.size w (w.alloc o):=(Below.refl _ _).alloc (zA _) o
abbrev En:=BD×List UInt8
abbrev Files:=List (ByteArray×En)
def okS (s:ByteArray):Prop:=s.size<=maxLen
abbrev kS (s:ByteArray):Value:=.string s
def vE (p:En):Value:=vB p.1
theorem mkS:MK Tryz.prog 9 okS kS:=⟨Maps.string_keyed Tryz.underlying9,fun s h=>⟨.string s.data.toList,by simp only [okS] at h;simp [keyOf,Tryz.underlying9,mapKey,h]⟩,fun a b h=>by injection h⟩
theorem zero22 (w:World):(zeroValue 34).run Tryz.prog w= .ok (vE (⟨none,0,0⟩,[])) w:=by kernel_rfl
def FM (w:World) (b:Nat) (E:Files):Prop:=MapIs okS kS vE w b E/\(∀ e∈E,RB w e.2.1 e.2.2)/\E.Pairwise (fun x y=>∀ g,blk x.2.1=some g->blk y.2.1≠some g)
def rooms (E:Files):List (Nat×Nat):=E.flatMap (fun e=>room e.2.1)
def plain (E:Files):List (ByteArray×List UInt8):=E.map (fun e=>(e.1,e.2.2))
def Succ (E E':Files) (H:Nat):Prop:=∀ e∈E',∀ g,blk e.2.1=some g->H<=g∨∃ d∈E,blk d.2.1=some g/\d.2.1.len<=e.2.1.len/\d.2.1.cap=e.2.1.cap
theorem mem_room {d:BD} {p:Nat×Nat}:p∈room d↔blk d=some p.1/\p.2=d.len/\d.len<d.cap:=by
 unfold room blk;cases d.A with
 | none=>simp
 | some ad=>
  by_cases h:d.len<d.cap
  · simp [h];constructor
    · rintro rfl;exact ⟨rfl,rfl⟩
    rintro ⟨h1,h2⟩;exact Prod.ext h1.symm h2
  simp [h]
theorem mem_rooms {E:Files} {p:Nat×Nat}:p∈rooms E↔∃ e∈E,blk e.2.1=some p.1/\p.2=e.2.1.len/\e.2.1.len<e.2.1.cap:=by
 unfold rooms;rw [List.mem_flatMap];constructor
 · rintro ⟨e,he,hp⟩;exact ⟨e,he,mem_room.1 hp⟩
 rintro ⟨e,he,hp⟩;exact ⟨e,he,mem_room.2 hp⟩
def Safe (E:Files) (d:BD):Prop:=∀ p∈rooms E,blk d=some p.1->d.len<=p.2
theorem Safe.next {E E':Files} {H:Nat} {d:BD} (h:Safe E d) (hs:Succ E E' H) (hd:∀ g,blk d=some g->g<H):Safe E' d:=by
 intro p hp hb;obtain ⟨e,he,h1,h2,h3⟩:=mem_rooms.1 hp;rcases hs e he p.1 h1 with h4 | ⟨c,hc,c1,c2,c3⟩
 · have:=hd p.1 hb;omega
 have:=h (p.1,c.2.1.len) (mem_rooms.2 ⟨c,hc,c1,rfl,by omega⟩) hb;simp only at this;omega
theorem plain_setL (E:Files) (s:ByteArray) (v:En):plain (setL E s v)=setL (plain E) s v.2:=by
 induction E with
 | nil=>rfl
 | cons c E ih=>
  rw [setL];show _=setL ((c.1,c.2.2)::plain E) s v.2;rw [setL];by_cases h:c.1=s
  · simp [h,plain]
  rw [if_neg h,if_neg h];show (c.1,c.2.2)::plain (setL E s v)=_;rw [ih]
theorem plain_delL (E:Files) (s:ByteArray):plain (delL E s)=delL (plain E) s:=by
 induction E with
 | nil=>rfl
 | cons c E ih=>
  rw [delL];show _=delL ((c.1,c.2.2)::plain E) s;rw [delL];by_cases h:c.1=s
  · simp [h,plain]
  rw [if_neg h,if_neg h];show (c.1,c.2.2)::plain (delL E s)=_;rw [ih]
theorem asc_plain (E:Files) (s:ByteArray):asc (plain E) s=(asc E s).map (·.2):=by
 induction E with
 | nil=>rfl
 | cons c E ih=>
  show asc ((c.1,c.2.2)::plain E) s=_;rw [asc,asc];split
  · rfl
  exact ih
theorem is_map {w:World} {b:Nat} {E:Files} (h:MapIs okS kS vE w b E) {t:TypeId} {cs:Array Value}:¬ IsB w b t cs:=by
 intro hb;obtain ⟨es,clock,h1,_⟩:=h;unfold IsB at hb;rw [h1] at hb;cases hb
theorem RB.ne_map {w:World} {b:Nat} {E:Files} (h:MapIs okS kS vE w b E) {d:BD} {bs:List UInt8} (hr:RB w d bs):blk d≠some b:=by
 intro e;cases hA:d.A with
 | none=>simp [blk,hA] at e
 | some ad=>
  obtain ⟨g,cur,rfl,hg,_⟩:=hr.2.2.2 ad hA;simp [blk,hA] at e;subst e;exact is_map h hg
theorem FM.kept {w w':World} {b:Nat} {E:Files} (h:FM w b E) (hb:w'.heap[b]? =w.heap[b]?) (hr:∀ e∈E,RB w e.2.1 e.2.2->RB w' e.2.1 e.2.2):FM w' b E:=⟨h.1.same hb,fun e he=>hr e he (h.2.1 e he),h.2.2⟩
theorem FM.on {w w':World} {b:Nat} {E:Files} (h:FM w b E) (hb:Below w.heap.size w w'):FM w' b E:=h.kept (hb.block b h.1.lt) (fun _ _ hr=>hr.on hb)
theorem FM.own {E:Files} (h:E.Pairwise (fun x y=>∀ g,blk x.2.1=some g->blk y.2.1≠some g)) {c d:ByteArray×En} (hc:c∈E) (hd:d∈E) {g:Nat} (h1:blk c.2.1=some g) (h2:blk d.2.1=some g):c=d:=by
 induction E with
 | nil=>cases hc
 | cons x E ih=>
  obtain ⟨a,b⟩:=List.pairwise_cons.1 h;rcases List.mem_cons.1 hc with e1 | hc1
  · rcases List.mem_cons.1 hd with e2 | hd1
    · rw [e1,e2]
    subst e1;exact absurd h2 (a d hd1 g h1)
  rcases List.mem_cons.1 hd with e2 | hd1
  · subst e2;exact absurd h1 (a c hc1 g h2)
  exact ih b hc1 hd1
def OpPost (b:Nat) (E:Files) (F':List (ByteArray×List UInt8)) (w:World) (e:Ending) (w':World):Prop:=
 e= .returned (.tuple #[])/\∃ E',FM w' b E'/\plain E'=F'/\Succ E E' w.heap.size/\Ch w w' (fun i=>i=b) (rooms E)
theorem grown_ch {w w':World} {b:Nat} (h:w.grownBy w' (some b)) (G:List (Nat×Nat)):Ch w w' (fun i=>i=b) G:=
 ⟨h.os,h.tape,h.output,h.size,fun i hi hm _=>h.block i hi (fun e=>hm (by injection e)),fun p _ hm cur hc=>⟨cur,hc.grown h (fun e=>hm (by injection e)),rfl,fun _ _=>rfl⟩⟩
theorem Ch.after {w w1 w':World} {M:Nat->Prop} {G:List (Nat×Nat)} (h0:Below w.heap.size w w1) (h:Ch w1 w' M G):Ch w w' M G:=
 ⟨h.os.trans h0.os,h.tape.trans h0.tape,h.output.trans h0.output,zC h0.size h.size,fun i hi hm hg=>(h.block i (zB hi h0.size) hm hg).trans (h0.block i hi),fun p hp hm cur hc=>h.bytes p hp hm cur (hc.on h0)⟩
theorem Ch.then {w w1 w':World} {M:Nat->Prop} {G:List (Nat×Nat)} (h:Ch w w1 M G) (h2:Ch w1 w' M G):Ch w w' M G:=by
 refine ⟨h2.os.trans h.os,h2.tape.trans h.tape,h2.output.trans h.output,zC h.size h2.size,fun i hi hm hg=>(h2.block i (zB hi h.size) hm hg).trans (h.block i hi hm hg),fun p hp hm cur hc=>?_⟩;obtain ⟨c1,a1,a2,a3⟩:=h.bytes p hp hm cur hc;obtain ⟨c2,b1,b2,b3⟩:=h2.bytes p hp hm c1 a1;exact ⟨c2,b1,by omega,fun j hj=>(b3 j hj).trans (a3 j hj)⟩
theorem RB.grown {w w':World} {b:Nat} {d:BD} {bs:List UInt8} (h:RB w d bs) (hg:w.grownBy w' (some b)) (hb:blk d≠some b):RB w' d bs:=h.ch (grown_ch hg []) (fun g e hm=>hb (by rw [e];exact congrArg some hm)) (by simp)
theorem FM.set_ {w w':World} {b:Nat} {E:Files} (h:FM w b E) {s:ByteArray} {d:BD} {bs:List UInt8} (hm:MapIs okS kS vE w' b (setL E s (d,bs))) (hg:w.grownBy w' (some b)) (hd:RB w d bs) (hne:∀ c∈E,c.1≠s->∀ g,blk c.2.1=some g->blk d≠some g):FM w' b (setL E s (d,bs)):=by
 obtain ⟨p1,p2⟩:=setL_pairwise (R:=fun x y:ByteArray×En=>∀ g,blk x.2.1=some g->blk y.2.1≠some g) h.1.nodup h.2.2 s (d,bs) (fun x y hxy g hy hx=>hxy g hx hy) (fun c hc hcs g h1=>hne c hc hcs g h1);refine ⟨hm,fun e he=>?_,p1⟩;rcases p2 e he with rfl | he
 · exact hd.grown hg (RB.ne_map h.1 hd)
 exact (h.2.1 e he).grown hg (RB.ne_map h.1 (h.2.1 e he))
theorem Succ.refl (E:Files) (H:Nat):Succ E E H:=fun e he _g hg=> .inr ⟨e,he,hg,zA _,rfl⟩
theorem Succ.sub {E E':Files} (h:∀ e∈E',e∈E) (H:Nat):Succ E E' H:=fun e he _g hg=> .inr ⟨e,h e he,hg,zA _,rfl⟩
abbrev vOp (run:Value) (nm to:ByteArray) (d:BD) (tears:Bool):Value:=.agg #[run,.string nm,.string to,.slice d.A d.len d.cap,.bool tears]
theorem remove_any (b:Nat) (E:Files) (run:Value) (nm to:ByteArray) (d:BD) (tears:Bool) (w:World) (h:FM w b E) (hn:okS nm):
 Calls Tryz.prog 235 #[.map (some b),vOp run nm to d tears] w (OpPost b E (delL (plain E) nm) w):=by
 obtain ⟨w2,hrun,hm,hg,hsz⟩:=MapIs.delete mkS Tryz.underlying133 (h.1.alloc (.cells #[run,.string nm,.string to,.slice d.A d.len d.cap,.bool tears] 239)) hn 9 0;have hrun':∀ ty,(Builtin.delete_ #[133,9] ty #[.map (some b),.string nm]).run Tryz.prog (w.alloc (.cells #[run,.string nm,.string to,.slice d.A d.len d.cap,.bool tears] 239))= .ok (.tuple #[]) w2:=fun _=>hrun;have H:=hid h;have Hm:=hid hm;have Hg:=hid hg;clear h hm hg hrun hsz;go_enter Tryz.func235,Tryz.ntmps235;go_wp2_with fail
 go_end0;have hfm:=H.out.on (bel1 w (.cells #[run,.string nm,.string to,.slice d.A d.len d.cap,.bool tears] 239));refine ⟨rfl,delL E nm,⟨Hm.out,fun e he=>?_,delL_pairwise hfm.2.2 nm⟩,plain_delL E nm,Succ.sub (delL_sub E nm) _,Ch.after (bel1 _ _) (grown_ch Hg.out _)⟩;have he':=delL_sub E nm e he;exact (hfm.2.1 e he').grown Hg.out (RB.ne_map hfm.1 (hfm.2.1 e he'))
end
end Go.Proofs.YteabgcollokgjaaGreatDoor
