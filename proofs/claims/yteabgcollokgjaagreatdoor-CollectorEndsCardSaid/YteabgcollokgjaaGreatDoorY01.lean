/- Q -/
import Derived.WalkKit
import Derived.Deep.QuietTactic
import Derived.BigQuiet
import Derived.Lib.Hide
import Derived.StillTail
import Derived.Deep.RegionHeld3
import Derived.Deep.AppendLies
import Derived.Laws.OwnMore
import Derived.Maps.AppendAt
import Derived.Laws.AppendOwn
import Derived.OwnWalk
import Derived.ArgAppend
import Derived.Test.YteabgcollokgjaaGreatDoorProg
import Derived.WalkSpells
import Derived.WalkLawsBesides
set_option linter.unusedSimpArgs false
set_option linter.unusedVariables false
set_option maxRecDepth 100000
set_option maxHeartbeats 32000000
open List renaming length_cons → zA,mem_of_getElem? → zB
open Nat renaming lt_of_lt_of_le → zC,le_trans → zD,zero_add → zE
namespace Go.Proofs.YteabgcollokgjaaGreatDoor
section
open Go.RowKit
structure Ext (w:World) where
 to:World
 below:Below w.heap.size w to
instance extNonempty (w:World):Nonempty (Ext w):=⟨⟨w,Below.refl _ _⟩⟩
def wext (w:World) (g:Ext w):World:=g.to
theorem wext_below {w:World} (g:Ext w):Below w.heap.size w (wext w g):=g.below
theorem wext_of {w w':World} (h:Below w.heap.size w w'):∃ g:Ext w,w'=wext w g:=⟨⟨w',h⟩,rfl⟩
theorem wext_cell (w:World) (g:Ext w) (b o:Nat) (s:Option Nat) (h:b<w.heap.size):(wext w g).cell? ⟨b,o,s⟩=w.cell? ⟨b,o,s⟩:=g.below.cell (p:=⟨b,o,s⟩) h
theorem wp_region_ext {P:Program} {id:Nat} {Q:Exit->Act->World->Prop} {a:Act} {w:World} {l:List Oper} (hm:P.follows .mixedOrders=true) (hB:Region.lexB .any l.toArray=true)
 (h:wpQuiet P l.toArray (fun w'=>∃ g:Ext w,w'=wext w g) (fun a'=>∀ w',Below w.heap.size w w'->Q .normal a' w') l a):(Code.region id l.toArray true).wp P Q a w:=by
 refine wp_region_quiet (C:=fun w'=>∃ g:Ext w,w'=wext w g) hm hB (wext_of (Below.refl _ _).drew) ?_
 have e:(fun a'=>∀ w',(∃ g:Ext w,w'=wext w g)->Q .normal a' w')=(fun a'=>∀ w',Below w.heap.size w w'->Q .normal a' w'):=by
  funext a'
  apply propext
  constructor
  · intro hh w' hb;exact hh w' (wext_of hb)
  rintro hh w' ⟨g,rfl⟩;exact hh _ (wext_below g)
 rw [e];exact h
theorem ext_call {P:Program} {f:FuncId} {args:Array Value} {w:World} {g:Ext w} {v:Value}
 (h:Calls P f args (wext w g) fun e w'=>e= .returned v/\Below (wext w g).heap.size (wext w g) w'):
 Calls P f args (wext w g) fun e w''=>e= .returned v/\∃ g',w''=wext w g':=
 h.mono fun _ _ ⟨he,hb⟩=>⟨he,wext_of ((wext_below g).trans (hb.mono (wext_below g).size))⟩
section
variable {P:Program} {ops:Array Oper} {md:Region.Mode} {C:World->Prop}
def headQ (P:Program) (md:Region.Mode) (ops:Array Oper) (C:World->Prop) (n:Nat) (L:Array Bool->Act->Prop):Nat->Array Bool->Act->Prop
 | 0,listed,a=>L listed a
 | f+1,listed,a=>Region.ready md ops listed≠[]/\∀ i∈Region.ready md ops listed,i<n/\qOp P ops C i (headQ P md ops C n L f (listed.setIfInBounds i true)) a
theorem any_of_headQ {n g:Nat} {L:Array Bool->Act->Prop} {Q':Exit->Act->World->Prop} (hL:∀ listed a w,C w->L listed a->wpAny P md ops Q' g listed a w):
 ∀ (f:Nat) (listed:Array Bool) (a:Act) (w:World),C w->headQ P md ops C n L f listed a->wpAny P md ops Q' (f+g) listed a w
 | 0,listed,a,w,hw,h=>by rw [zE];exact hL _ _ _ hw h
 | f+1,listed,a,w,hw,h=>by
  rw [show f+1+g=(f+g)+1 by omega];exact ⟨fun h0=>absurd h0 h.1,fun i hi=>wpOp_of_qOp hw (fun a' w' hw' h'=>any_of_headQ hL f _ a' w' hw' h') (h.2 i hi).2⟩
theorem headQ_first {n i:Nat} {oi:Oper} {v:Value} {L:Array Bool->Act->Prop} (hi:ops[i]? =some oi) (hsel:∀ (j:Nat) (o:Oper) cs b,ops[j]? =some o->o.op≠ .select cs b)
 (hs:Region.sinkB md ops n=true) (hc:Region.chainB md ops n=true) (hn:n<ops.size) (hin:i<n)
 (hdone:∀ listed a,L listed a->∀ j∈Region.ready md ops listed,n<=j):
 ∀ (f:Nat) (listed:Array Bool) (a:Act),HeadInv md ops n listed->
  (∀ j oj,ops[j]? =some oj->j≠i->listed.getD j true=false->(∀ e∈oj.after,Region.binds md e=true->e.on≠i)->oi.apart ops oj=true)->
  i∈Region.ready md ops listed->YieldsIn P ops C oi v a->
  headQ P md ops C n L f (listed.setIfInBounds i true) (a.put oi.dst v)->headQ P md ops C n L (f+1) listed a:=by
 have early:∀ (listed:Array Bool),HeadInv md ops n listed->i∈Region.ready md ops listed->∀ j∈Region.ready md ops listed,j<n:=by
  intro listed inv hr j hj;rcases Nat.lt_or_ge j n with h | h
  · exact h
  exact absurd hj (tail_waits hs hc hn inv _ i rfl hin (mem_ready.1 hr).1 j h)
 intro f;induction f with
 | zero=>
  intro listed a inv _ hr hy H;refine ⟨fun h=>(by rw [h] at hr;cases hr),fun j hj=>⟨early listed inv hr j hj,?_⟩⟩;by_cases hji:j=i
  · subst hji;exact hy.qOp hi H
  have h1:=hdone _ _ H j (ready_mono hj hji);have h2:=early listed inv hr j hj;omega
 | succ f ih=>
  intro listed a inv hfree hr hy H;have hun:=(mem_ready.1 hr).1;refine ⟨fun h=>(by rw [h] at hr;cases hr),fun j hj=>⟨early listed inv hr j hj,?_⟩⟩;by_cases hji:j=i
  · subst hji;exact hy.qOp hi H
  have hjn:=early listed inv hr j hj;have h1:=(H.2 j (ready_mono hj hji)).2;obtain ⟨hjun,oj,hoj,hall⟩:=mem_ready.1 hj
  have hnot:∀ e∈oj.after,Region.binds md e=true->e.on≠i:=fun e he hb heq=>by
   have h1:=hall e he hb;rw [heq,getD_both hun] at h1;cases h1
  have h2:=qOp_put hoj (hfree j oj hoj hji hjun hnot) (fun cs b=>hsel i oi cs b hi) (fun cs b=>hsel j oj cs b hoj) hy h1
  have hfree':∀ k ok,ops[k]? =some ok->k≠i->(listed.setIfInBounds j true).getD k true=false->
   (∀ e∈ok.after,Region.binds md e=true->e.on≠i)->oi.apart ops ok=true:=fun k ok hk hki hun hno=>by
   refine hfree k ok hk hki ?_ hno;by_cases hjk:j=k
   · subst hjk;exact hjun
   rw [getD_set_ne true hjk] at hun;exact hun
  refine qOp_mono (fun a' h3=>ih (listed.setIfInBounds j true) a' (inv.set hj hjn) hfree' (ready_mono hr (Ne.symm hji)) h3.1 ?_) h2;rw [Array.setIfInBounds_comm _ _ hji];exact h3.2
theorem headQ_lex {n g:Nat} {Lq:Act->Prop} (hsel:Region.noSelect ops=true) (hs:Region.sinkB md ops n=true) (hc:Region.chainB md ops n=true) (hn:n<ops.size):
 ∀ (l:List Oper) (k:Nat) (listed:Array Bool) (a:Act),(∀ j,j<l.length->l[j]? =ops[k+j]?)->k+l.length=n->HeadInv md ops n listed->
 Region.lexHead md ops g l.length k listed=true->wpQuiet P ops C Lq l a->
 headQ P md ops C n (fun listed' a'=>Region.seqB md ops g n listed'=true/\Lq a') l.length listed a
 | [],k,listed,a,_,hk,_,hB,h=>by
  have:k=n:=by simpa using hk
  subst this;exact ⟨by simpa [Region.lexHead] using hB,h⟩
 | o::l,k,listed,a,hl,hk,inv,hB,h=>by
  have h0:ops[k]? =some o:=by simpa using (hl 0 (by simp)).symm
  simp only [zA,Region.lexHead,Bool.and_eq_true] at hB;obtain ⟨⟨hr,hf⟩,hB'⟩:=hB;have hkn:k<n:=by simp only [zA] at hk;omega
  have hr':k∈Region.ready md ops listed:=by simpa using hr
  have hst:qOp P ops C k (wpQuiet P ops C Lq l) a:=by unfold qOp;simp only [h0];exact h
  obtain ⟨v,hy,hK⟩:=yieldsIn_of_qOp h0 hst
  exact headQ_first h0 (Region.noSelect_spec hsel) hs hc hn hkn (fun listed' a' hL=>seqB_ready hL.1) l.length listed a inv (Region.free_spec h0 hf) hr' hy
   (headQ_lex hsel hs hc hn l (k+1) _ _ (fun j hj=>by have:=hl (j+1) (by simp;omega);simpa [Nat.add_assoc,Nat.add_comm 1 j] using this) (by simp only [zA] at hk;omega) (inv.set hr' hkn) hB' hK)
theorem wp_region_class_tail {id:Nat} {Q:Exit->Act->World->Prop} {a:Act} {w:World} {l:List Oper} (n:Nat) (hm:P.follows .mixedOrders=true) (hB:Region.lexTailB .any l.toArray n=true) (hC:C { w with drawn:=w.drawn+1 })
 (h:wpQuiet P l.toArray C (fun a'=>∀ w',C w'->wpList P l.toArray Q (l.drop n) a' w') (l.take n) a):(Code.region id l.toArray true).wp P Q a w:=by
 simp only [Region.lexTailB,Bool.and_eq_true,decide_eq_true_eq] at hB;obtain ⟨⟨⟨⟨hsel,hn⟩,hs⟩,hc⟩,hlex⟩:=hB;have hn':n<l.length:=by simpa using hn
 have htl:(l.take n).length=n:=by simp;omega
 have hdl:(l.drop n).length=l.toArray.size-n:=by simp
 have inv0:HeadInv .any l.toArray n (Array.replicate l.toArray.size false):=
  ⟨by simp,fun j oj _ hl=>(by rw [getD_replicate_false] at hl;cases hl),fun t _ ht=>getD_in (by simpa using ht) (getD_replicate_false _ _)⟩
 have H:=headQ_lex (C:=C) (md:=.any) (g:=l.toArray.size-n) hsel hs hc hn (l.take n) 0 _ a (fun j hj=>by
  have hj':j<n:=by rw [htl] at hj;exact hj
  simp [hj']) (by simpa using htl) inv0 (by rw [htl];exact hlex) h
 refine wp_region_any hm ?_
 have:=any_of_headQ (C:=C) (Q':=Q) (g:=l.toArray.size-n) (fun listed a' w' hw' hL=>by
  have:=wpAny_of_seq (md:=.any) (Q':=Q) (l.drop n) n listed a' w' (fun j=>by simp [List.getElem?_drop]) (by rw [hdl];exact hL.1) (hL.2 w' hw');rwa [hdl] at this) _ _ _ _ hC H
 rw [htl,show n+(l.toArray.size-n)=l.toArray.size by omega] at this;exact this
end
theorem wp_region_draw_tail {P:Program} {id:Nat} {Q:Exit->Act->World->Prop} {a:Act} {w:World} {l:List Oper} (n:Nat) (hm:P.follows .mixedOrders=true) (hB:Region.lexTailB .any l.toArray n=true)
 (h:wpQuiet P l.toArray (fun w'=>∃ n,w'=w.drewN n) (fun a'=>∀ q,wpList P l.toArray Q (l.drop n) a' (w.drewN q)) (l.take n) a):(Code.region id l.toArray true).wp P Q a w:=by
 refine wp_region_class_tail (C:=fun w'=>∃ n,w'=w.drewN n) n hm hB ⟨1,rfl⟩ ?_
 have e:(fun a'=>∀ w',(∃ n,w'=w.drewN n)->wpList P l.toArray Q (l.drop n) a' w')=(fun a'=>∀ q,wpList P l.toArray Q (l.drop n) a' (w.drewN q)):=by
  funext a'
  apply propext
  constructor
  · intro hh q;exact hh _ ⟨q,rfl⟩
  rintro hh w' ⟨g,rfl⟩;exact hh _
 rw [e];exact h
section
variable {P:Program} {ops:Array Oper} {md:Region.Mode} {S:World->Prop} {Q:Exit->Act->World->Prop}
def headH (P:Program) (md:Region.Mode) (ops:Array Oper) (Q:Exit->Act->World->Prop) (S:World->Prop) (n:Nat) (L:Array Bool->Act->World->Prop):Nat->Array Bool->Act->World->Prop
 | 0,listed,a,w=>L listed a w
 | f+1,listed,a,w=>Region.ready md ops listed≠[]/\∀ i∈Region.ready md ops listed,i<n/\wpOp P ops Q i (fun a' w'=>S w'/\headH P md ops Q S n L f (listed.setIfInBounds i true) a' w') a w
theorem any_of_headH {n g:Nat} {L:Array Bool->Act->World->Prop} (hL:∀ listed a w,L listed a w->wpAny P md ops Q g listed a w):
 ∀ (f:Nat) (listed:Array Bool) (a:Act) (w:World),headH P md ops Q S n L f listed a w->wpAny P md ops Q (f+g) listed a w
 | 0,listed,a,w,h=>by rw [zE];exact hL _ _ _ h
 | f+1,listed,a,w,h=>by
  rw [show f+1+g=(f+g)+1 by omega];exact ⟨fun h0=>absurd h0 h.1,fun i hi=>wpOp_mono (fun a' w' h'=>any_of_headH hL f _ a' w' h'.2) (h.2 i hi).2⟩
theorem headH_first {n i:Nat} {oi:Oper} {v:Value} {L:Array Bool->Act->World->Prop} (hi:ops[i]? =some oi) (hsel:∀ (j:Nat) (o:Oper) cs b,ops[j]? =some o->o.op≠ .select cs b)
 (hQ:∀ c a d v w,Q (.panic c) (a.put d v) w->Q (.panic c) a w)
 (hs:Region.sinkB md ops n=true) (hc:Region.chainB md ops n=true) (hn:n<ops.size) (hin:i<n)
 (hdone:∀ listed a w,L listed a w->∀ j∈Region.ready md ops listed,n<=j):
 ∀ (f:Nat) (listed:Array Bool) (a:Act) (w:World),HeadInv md ops n listed->
  (∀ j oj,ops[j]? =some oj->j≠i->listed.getD j true=false->(∀ e∈oj.after,Region.binds md e=true->e.on≠i)->oi.apart ops oj=true)->
  i∈Region.ready md ops listed->YieldsIf P ops S oi v a->S w->
  headH P md ops Q S n L f (listed.setIfInBounds i true) (a.put oi.dst v) w->headH P md ops Q S n L (f+1) listed a w:=by
 have early:∀ (listed:Array Bool),HeadInv md ops n listed->i∈Region.ready md ops listed->∀ j∈Region.ready md ops listed,j<n:=by
  intro listed inv hr j hj;rcases Nat.lt_or_ge j n with h | h
  · exact h
  exact absurd hj (tail_waits hs hc hn inv _ i rfl hin (mem_ready.1 hr).1 j h)
 intro f;induction f with
 | zero=>
  intro listed a w inv _ hr hy hS H;refine ⟨fun h=>(by rw [h] at hr;cases hr),fun j hj=>⟨early listed inv hr j hj,?_⟩⟩;by_cases hji:j=i
  · subst hji;exact hy.wpOp hi hS ⟨hS,H⟩
  have h1:=hdone _ _ _ H j (ready_mono hj hji);have h2:=early listed inv hr j hj;omega
 | succ f ih=>
  intro listed a w inv hfree hr hy hS H;have hun:=(mem_ready.1 hr).1;refine ⟨fun h=>(by rw [h] at hr;cases hr),fun j hj=>⟨early listed inv hr j hj,?_⟩⟩;by_cases hji:j=i
  · subst hji;exact hy.wpOp hi hS ⟨hS,H⟩
  have hjn:=early listed inv hr j hj;have h1:=(H.2 j (ready_mono hj hji)).2;obtain ⟨hjun,oj,hoj,hall⟩:=mem_ready.1 hj
  have hnot:∀ e∈oj.after,Region.binds md e=true->e.on≠i:=fun e he hb heq=>by
   have h1:=hall e he hb;rw [heq,getD_both hun] at h1;cases h1
  have h2:=wpOp_putIf hoj (hfree j oj hoj hji hjun hnot) (fun cs b=>hsel i oi cs b hi) (fun cs b=>hsel j oj cs b hoj) (fun c a w h=>hQ c a _ _ w h) hy h1
  have hfree':∀ k ok,ops[k]? =some ok->k≠i->(listed.setIfInBounds j true).getD k true=false->
   (∀ e∈ok.after,Region.binds md e=true->e.on≠i)->oi.apart ops ok=true:=fun k ok hk hki hun hno=>by
   refine hfree k ok hk hki ?_ hno;by_cases hjk:j=k
   · subst hjk;exact hjun
   rw [getD_set_ne true hjk] at hun;exact hun
  refine wpOp_mono (fun a' w' h3=>⟨h3.2.1,ih (listed.setIfInBounds j true) a' w' (inv.set hj hjn) hfree' (ready_mono hr (Ne.symm hji)) h3.1 h3.2.1 ?_⟩) h2;rw [Array.setIfInBounds_comm _ _ hji];exact h3.2.2
def wpHeld (P:Program) (ops:Array Oper) (Q:Exit->Act->World->Prop) (S:World->Prop) (T:Act->World->Prop):List (Bool×Oper)->Act->World->Prop
 | (true,o)::fs,a,w=>∃ v,YieldsIf P ops S o v a/\wpHeld P ops Q S T fs (a.put o.dst v) w
 | (false,o)::fs,a,w=>if Region.wanted o (yielded ops a.tmps)=true then Oper.wp P o a w (fun a' w'=>S w'/\wpHeld P ops Q S T fs a' w') Q else S w/\wpHeld P ops Q S T fs (a.put o.dst undef) w
 | [],a,w=>T a w
theorem wpHeld_take {T:Act->World->Prop} {fs:List (Bool×Oper)} {o:Oper} {a:Act} {w:World} {v:Value} (h1:YieldsIf P ops S o v a) (h2:wpHeld P ops Q S T fs (a.put o.dst v) w):wpHeld P ops Q S T ((true,o)::fs) a w:=⟨v,h1,h2⟩
theorem wpHeld_run {T:Act->World->Prop} {fs:List (Bool×Oper)} {o:Oper} {a:Act} {w:World}
 (h:∀ K:Act->World->Prop,Shut (∀ a w,S w->wpHeld P ops Q S T fs a w->K a w)->if Region.wanted o (yielded ops a.tmps)=true then Oper.wp P o a w K Q else K (a.put o.dst undef) w):wpHeld P ops Q S T ((false,o)::fs) a w:=
 h _ (fun _ _ h1 h2=>⟨h1,h2⟩)
theorem wpHeld_nil {T:Act->World->Prop} {a:Act} {w:World} (h:T a w):wpHeld P ops Q S T [] a w:=by
 unfold wpHeld;exact h
instance:Inhabited Oper:=⟨{ dst:=none,op:=.move (.tmp 0),type:=0,pos:="",after:= #[],guard:=none }⟩
def picked (l:List Oper) (fs:List (Nat×Bool)):List (Bool×Oper):=fs.map (fun p=>(p.2,l.getD p.1 default))
def heldB (md:Region.Mode) (ops:Array Oper) (n g:Nat):List (Nat×Bool)->Array Bool->Bool
 | [],listed=>Region.seqB md ops g n listed
 | (k,true)::fs,listed=>decide (k<n)&&(Region.ready md ops listed).contains k&&Region.free md ops listed k&&heldB md ops n g fs (listed.setIfInBounds k true)
 | (k,false)::fs,listed=>decide (k<n)&&decide (Region.ready md ops listed=[k])&&heldB md ops n g fs (listed.setIfInBounds k true)
def heldTailB (md:Region.Mode) (ops:Array Oper) (fs:List (Nat×Bool)):Bool:=
 Region.noSelect ops&&decide (fs.length<ops.size)&&Region.sinkB md ops fs.length&&Region.chainB md ops fs.length&&heldB md ops fs.length (ops.size-fs.length) fs (Array.replicate ops.size false)
theorem headH_of_held {n g:Nat} {l:List Oper} {T:Act->World->Prop} (hl:ops=l.toArray) (hsel:Region.noSelect ops=true) (hQ:∀ c a d v w,Q (.panic c) (a.put d v) w->Q (.panic c) a w) (hs:Region.sinkB md ops n=true) (hc:Region.chainB md ops n=true) (hn:n<ops.size):
 ∀ (fs:List (Nat×Bool)) (listed:Array Bool) (a:Act) (w:World),HeadInv md ops n listed->S w->
 heldB md ops n g fs listed=true->wpHeld P ops Q S T (picked l fs) a w->
 headH P md ops Q S n (fun listed' a' w'=>Region.seqB md ops g n listed'=true/\T a' w') fs.length listed a w
 | [],listed,a,w,_,_,hB,h=>⟨by simpa [heldB] using hB,by simpa [picked,wpHeld] using h⟩
 | (k,true)::fs,listed,a,w,inv,hS,hB,h=>by
  simp only [heldB,Bool.and_eq_true,decide_eq_true_eq] at hB;obtain ⟨⟨⟨hkn,hr⟩,hf⟩,hB'⟩:=hB;have hkl:k<l.length:=by rw [hl] at hn;simp at hn;omega
  have h0:ops[k]? =some (l.getD k default):=by rw [hl];simp [List.getD_eq_getElem?_getD,hkl]
  have hr':k∈Region.ready md ops listed:=by simpa using hr
  obtain ⟨v,hy,hK⟩:∃ v,YieldsIf P ops S (l.getD k default) v a/\wpHeld P ops Q S T (picked l fs) (a.put (l.getD k default).dst v) w:=h
  exact headH_first h0 (Region.noSelect_spec hsel) hQ hs hc hn hkn (fun listed' a' w' hL=>seqB_ready hL.1) fs.length listed a w inv (Region.free_spec h0 hf) hr' hy hS
   (headH_of_held hl hsel hQ hs hc hn fs _ _ w (inv.set hr' hkn) hS hB' hK)
 | (k,false)::fs,listed,a,w,inv,hS,hB,h=>by
  simp only [heldB,Bool.and_eq_true,decide_eq_true_eq] at hB;obtain ⟨⟨hkn,hr⟩,hB'⟩:=hB;have hkl:k<l.length:=by rw [hl] at hn;simp at hn;omega
  have h0:ops[k]? =some (l.getD k default):=by rw [hl];simp [List.getD_eq_getElem?_getD,hkl]
  have hr':k∈Region.ready md ops listed:=by rw [hr];simp
  refine ⟨fun h1=>(by rw [hr] at h1;cases h1),fun i hi=>?_⟩;rw [hr] at hi;have hik:i=k:=by simpa using hi
  subst hik;refine ⟨hkn,?_⟩
  have hw:wpOp P ops Q i (fun a' w'=>S w'/\wpHeld P ops Q S T (picked l fs) a' w') a w:=by
   unfold wpOp;simp only [h0];have h2:if Region.wanted (l.getD i default) (yielded ops a.tmps)=true then Oper.wp P (l.getD i default) a w (fun a' w'=>S w'/\wpHeld P ops Q S T (picked l fs) a' w') Q else S w/\wpHeld P ops Q S T (picked l fs) (a.put (l.getD i default).dst undef) w:=h
   by_cases hwt:Region.wanted (l.getD i default) (yielded ops a.tmps)=true
   · rw [if_pos hwt] at h2 |-; exact .inl h2
   rw [if_neg hwt] at h2 |-; exact h2
  exact wpOp_mono (fun a' w' h'=>⟨h'.1,headH_of_held hl hsel hQ hs hc hn fs _ a' w' (inv.set hr' hkn) h'.1 hB' h'.2⟩) hw
theorem wp_region_held_tail {id:Nat} {a:Act} {w:World} {l:List Oper} (fs:List (Nat×Bool)) (S:World->Prop) (hm:P.follows .mixedOrders=true) (hQ:∀ c a d v w,Q (.panic c) (a.put d v) w->Q (.panic c) a w) (hB:heldTailB .any l.toArray fs=true) (hS:S w.drew)
 (h:wpHeld P l.toArray Q S (fun a' w'=>wpList P l.toArray Q (l.drop fs.length) a' w') (picked l fs) a w.drew):(Code.region id l.toArray true).wp P Q a w:=by
 simp only [heldTailB,Bool.and_eq_true,decide_eq_true_eq] at hB;obtain ⟨⟨⟨⟨hsel,hn⟩,hs⟩,hc⟩,hlex⟩:=hB;have hdl:(l.drop fs.length).length=l.toArray.size-fs.length:=by simp
 have inv0:HeadInv .any l.toArray fs.length (Array.replicate l.toArray.size false):=
  ⟨by simp,fun j oj _ hl=>(by rw [getD_replicate_false] at hl;cases hl),fun t _ ht=>getD_in (by simpa using ht) (getD_replicate_false _ _)⟩
 have H:=headH_of_held (md:=.any) (g:=l.toArray.size-fs.length) (l:=l) rfl hsel hQ hs hc hn fs _ a w.drew inv0 hS hlex h;refine wp_region_any hm ?_
 have:=any_of_headH (Q:=Q) (S:=S) (g:=l.toArray.size-fs.length) (fun listed a' w' hL=>by
  have:=wpAny_of_seq (md:=.any) (Q':=Q) (l.drop fs.length) fs.length listed a' w' (fun j=>by simp [List.getElem?_drop]) (by rw [hdl];exact hL.1) hL.2;rwa [hdl] at this) _ _ _ _ H
 rw [show fs.length+(l.toArray.size-fs.length)=l.toArray.size by omega] at this;exact this
end
theorem pk_:(∀ (l:List Oper) (fs:List (Nat×Bool)),picked l fs=fs.map (fun p=>(p.2,l.getD p.1 default)))∧(∀ (f:Nat×Bool→Bool×Oper) a l,(a::l).map f=f a::l.map f)∧(∀ f:Nat×Bool→Bool×Oper,[].map f=[])∧(∀ (a:Oper) l n d,(a::l).getD (n+1) d=l.getD n d)∧∀ (a:Oper) l d,(a::l).getD 0 d=a:=⟨fun _ _=>rfl,fun _ _ _=>rfl,fun _=>rfl,fun _ _ _ _=>rfl,fun _ _ _=>rfl⟩
theorem dz_:(∀ {α:Type} (a:α) l,(a::l).length=l.length+1)∧(∀ {α:Type},([]:List α).length=0)∧(∀ {α:Type} (a:α) l n,(a::l).drop (n+1)=l.drop n)∧∀ {α:Type} (l:List α),l.drop 0=l:=⟨fun _ _=>rfl,rfl,fun _ _ _=>rfl,fun _=>rfl⟩
theorem only_of_below {a w:World} (h:Below a.heap.size a w) (row:Option Nat):a.grownBy w row:=⟨h.os,h.tape,h.output,h.size,fun i hi _=>h.block i hi⟩
theorem bdrewN {B:Nat} {a w:World} (h:Below B a w) (n:Nat):Below B a (w.drewN n):=⟨h.os,h.tape,h.output,h.size,h.block⟩
theorem g_refl (w:World) (row:Option Nat):w.grownBy w row:=⟨rfl,rfl,rfl,Nat.le_refl _,fun _ _ _=>rfl⟩
theorem g_trans {a b c:World} {row:Option Nat} (h:a.grownBy b row) (k:b.grownBy c row):a.grownBy c row:=
 ⟨k.os.trans h.os,k.tape.trans h.tape,k.output.trans h.output,zD h.size k.size,fun i hi hne=>(k.block i (zC hi h.size) hne).trans (h.block i hi hne)⟩
theorem g_alloc {a w:World} {row:Option Nat} (h:a.grownBy w row) (o:Obj):a.grownBy (w.alloc o) row:=g_trans h (World.grownBy_alloc w o row)
theorem g_drewN {a w:World} {row:Option Nat} (h:a.grownBy w row) (n:Nat):a.grownBy (w.drewN n) row:=⟨h.os,h.tape,h.output,h.size,h.block⟩
theorem g_below {a w w':World} {row:Option Nat} (h:a.grownBy w row) (hb:Below w.heap.size w w'):a.grownBy w' row:=g_trans h (only_of_below hb row)
theorem g_set {a w:World} {g:Nat} (h:a.grownBy w (some g)) {p:Addr} (hp:p.block=g∨a.heap.size<=p.block) (u:Value):a.grownBy (w.setCell p u) (some g):=
 ⟨h.os,h.tape,h.output,by simpa [World.setCell] using h.size,fun i hi hne=>(Below.heap_setCell w p u i (by
  rintro rfl;rcases hp with hp | hp
  · exact hne (by rw [hp])
  omega)).trans (h.block i hi hne)⟩
theorem g_cell {w w':World} {x b o:Nat} (h:w.grownBy w' (some x)) (hb:b<w.heap.size) (hx:b≠x):w'.cell? ⟨b,o,none⟩=w.cell? ⟨b,o,none⟩:=
 World.cell?_of_block (h.block b hb (fun e=>hx (by injection e)))
def IsB (w:World) (g:Nat) (t:TypeId) (cs:Array Value):Prop:=w.heap[g]? =some (.cells cs t (0,0))
theorem IsB.lt {w:World} {g:Nat} {t:TypeId} {cs:Array Value} (h:IsB w g t cs):g<w.heap.size:=by
 unfold IsB at h;exact (Array.getElem?_eq_some_iff.1 h).1
theorem IsB.cell {w:World} {g:Nat} {t:TypeId} {cs:Array Value} (h:IsB w g t cs) (i:Nat):w.cell? ⟨g,i,none⟩=cs[i]? :=cell_of_row w g i cs t (0,0) h
theorem IsB.frozen {w:World} {g:Nat} {t:TypeId} {cs:Array Value} (h:IsB w g t cs) (i:Nat):w.frozen? ⟨g,i,none⟩=false:=by
 unfold IsB at h;simp [World.frozen?, h]
theorem IsB.new (w:World) (t:TypeId) (cs:Array Value):IsB (w.alloc (.cells cs t)) w.heap.size t cs:=heap_alloc_new w _
theorem IsB.alloc {w:World} {g:Nat} {t:TypeId} {cs:Array Value} (h:IsB w g t cs) (o:Obj):IsB (w.alloc o) g t cs:=(Below.heap_alloc w o g h.lt).trans h
theorem IsB.drewN {w:World} {g:Nat} {t:TypeId} {cs:Array Value} (h:IsB w g t cs) (n:Nat):IsB (w.drewN n) g t cs:=h
theorem IsB.grown {w w':World} {g:Nat} {t:TypeId} {cs:Array Value} {row:Option Nat} (h:IsB w g t cs) (hb:w.grownBy w' row) (hg:some g≠row):IsB w' g t cs:=(hb.block g h.lt hg).trans h
theorem IsB.on {w w':World} {g:Nat} {t:TypeId} {cs:Array Value} (h:IsB w g t cs) (hb:Below w.heap.size w w'):IsB w' g t cs:=(hb.block g h.lt).trans h
theorem IsB.set_ {w:World} {g:Nat} {t:TypeId} {cs:Array Value} (h:IsB w g t cs) (i:Nat) (u:Value):IsB (w.setCell ⟨g,i,none⟩ u) g t (cs.setIfInBounds i u):=by
 unfold IsB at h |-; simp [World.setCell,Array.getElem?_modify,h]
theorem IsB.own_ne {w:World} {g:Nat} {t:TypeId} {cs:Array Value} {base:Nat} {e:TypeId} {size n:Nat} {v:Value} {xs:List Value} (hg:IsB w g t cs) (h:w.ownsRow base e size v n xs) (hne:e≠t):some g≠v.ownBlock:=by
 rcases h.2 with ⟨rfl,_⟩ | ⟨g',cap,cur,rfl,_,hh,_⟩
 · simp [Value.ownBlock]
 intro he;have:g=g':=by simpa [Value.ownBlock] using he
 subst this;unfold IsB at hg;rw [hg] at hh;injection hh with hh;injection hh with _ ht;exact hne ht.symm
theorem IsB.ne_ {w:World} {g g':Nat} {t t':TypeId} {cs cs':Array Value} (h:IsB w g t cs) (h':IsB w g' t' cs') (hne:t≠t'):g≠g':=by
 rintro rfl;unfold IsB at h h';rw [h] at h';injection h' with h';injection h' with _ ht;exact hne ht
theorem own_set {w:World} {base:Nat} {e:TypeId} {size n:Nat} {v:Value} {xs:List Value} {p:Addr} (h:w.ownsRow base e size v n xs) (hp:some p.block≠v.ownBlock) (u:Value):(w.setCell p u).ownsRow base e size v n xs:=
 h.kept (row:=some p.block) (g_set (g_refl _ _) (.inl rfl) u) (by
  cases hv:v.ownBlock with
  | none=>exact .inl rfl
  | some k=>exact .inr (fun e=>hp (by rw [hv, <- e])))
theorem new_cell (W:World) (t:TypeId) (cs:Array Value) (H:Nat) (hH:W.heap.size=H) (i:Nat):(W.alloc (.cells cs t)).cell? ⟨H,i,none⟩=cs[i]? :=by
 subst hH;exact (IsB.new W t cs).cell i
section
variable {α:Type}
def Rd (enc:α->List Value) (k:Nat) (d:α) (w:World) (x:Nat) (A:Option Addr) (xs:List α):Prop:=
 0<xs.length->∃ b o,A=some ⟨b,o,none⟩/\b<w.heap.size/\b≠x/\∀ j,j<xs.length->∀ i v,(enc (xs.getD j d))[i]? =some v->w.cell? ⟨b,o+j*k+i,none⟩=some v
variable {enc:α->List Value} {k:Nat} {d:α} {w w':World} {x:Nat} {A:Option Addr} {xs:List α}
theorem flat_len (hk:∀ y,(enc y).length=k) (l:List α):(l.flatMap enc).length=l.length*k:=by
 induction l with
 | nil=>simp
 | cons y l ih=>rw [List.flatMap_cons,List.length_append,ih,hk,zA,Nat.add_mul,Nat.one_mul,Nat.add_comm]
theorem flat_at (hk:∀ y,(enc y).length=k) (d:α) (l:List α) (j i:Nat) (hj:j<l.length) (hi:i<k):(l.flatMap enc)[j*k+i]? =(enc (l.getD j d))[i]? :=by
 induction l generalizing j with
 | nil=>simp at hj
 | cons y l ih=>
  rw [List.flatMap_cons];cases j with
  | zero=>rw [List.getElem?_append_left (by rw [hk];omega)];simp
  | succ j=>
   have h:=ih j (by simpa using hj);rw [List.getElem?_append_right (by rw [hk,Nat.add_mul];omega),hk,show (j+1)*k+i-k=j*k+i by rw [Nat.add_mul];omega,h];simp
theorem own_slice {base:Nat} {e:TypeId} {size n:Nat} {v:Value} {ys:List Value} (h:w.ownsRow base e size v n ys):∃ A c,v= .slice A n c:=by
 rcases h.2 with ⟨rfl,rfl⟩ | ⟨g,cap,cur,rfl,_⟩
 · exact ⟨none,0,rfl⟩
 exact ⟨_,cap,rfl⟩
end
theorem perm_erase {α:Type}:∀ (l:List α) (k:Nat) (o:α),l[k]? =some o->l.Perm (o::l.eraseIdx k)
 | [],_,_,h=>by simp at h
 | x::l,0,o,h=>by
  simp at h;subst h;simp
 | x::l,k+1,o,h=>by
  rw [List.getElem?_cons_succ] at h;rw [List.eraseIdx_cons_succ];exact ((perm_erase l k o h).cons x).trans (List.Perm.swap _ _ _)
theorem erase_set {α:Type}:∀ (l:List α) (k:Nat) (o:α),(l.set k o).eraseIdx k=l.eraseIdx k
 | [],_,_=>rfl
 | _::_,0,_=>rfl
 | x::l,k+1,o=>by rw [List.set_cons_succ,List.eraseIdx_cons_succ,List.eraseIdx_cons_succ,erase_set l k o]
structure Ob where
 own:Nat->Prop
 rd:Nat->Prop
 holds:World->Prop
 stable:∀ w w':World,holds w->(w'.os=w.os/\w'.tape=w.tape/\w'.output=w.output/\w.heap.size<=w'.heap.size)->(∀ i,own i∨rd i->w'.heap[i]? =w.heap[i]?)->holds w'
def Apart (x y:Ob):Prop:=(∀ i,x.own i->¬ y.own i/\¬ y.rd i)/\∀ i,y.own i->¬ x.rd i
theorem Apart.symm {x y:Ob} (h:Apart x y):Apart y x:=⟨fun i hi=>⟨fun hx=>(h.1 i hx).1 hi,h.2 i hi⟩,fun i hi=>(h.1 i hi).2⟩
structure Fr (w w':World) (S S':Nat->Prop):Prop where
 os:w'.os=w.os
 tape:w'.tape=w.tape
 output:w'.output=w.output
 size:w.heap.size<=w'.heap.size
 block:∀ i,i<w.heap.size->¬ S i->w'.heap[i]? =w.heap[i]?
 own:∀ i,S' i->S i∨w.heap.size<=i
theorem Fr.of_below {w w':World} (h:Below w.heap.size w w') (S:Nat->Prop):Fr w w' S S:=⟨h.os,h.tape,h.output,h.size,fun i hi _=>h.block i hi,fun _ h=> .inl h⟩
theorem Fr.new {w w':World} (h:Below w.heap.size w w') {S S':Nat->Prop} (hs:∀ i,S' i->S i∨w.heap.size<=i):Fr w w' S S':=⟨h.os,h.tape,h.output,h.size,fun i hi _=>h.block i hi,hs⟩
theorem Fr.trans {w w1 w2:World} {S S1 S2:Nat->Prop} (h:Fr w w1 S S1) (k:Fr w1 w2 S1 S2):Fr w w2 S S2:=
 ⟨k.os.trans h.os,k.tape.trans h.tape,k.output.trans h.output,zD h.size k.size,fun i hi hn=>(k.block i (zC hi h.size) (fun h1=>by
  rcases h.own i h1 with h2 | h2
  · exact hn h2
  · omega)).trans (h.block i hi hn),fun i hi=>by
  rcases k.own i hi with h1 | h1
  · exact h.own i h1
  exact .inr (zD h.size h1)⟩
theorem Fr.grown {w w':World} {g:Nat} (h:w.grownBy w' (some g)) {S S':Nat->Prop} (hg:S g) (hs:∀ i,S' i->S i∨w.heap.size<=i):Fr w w' S S':=
 ⟨h.os,h.tape,h.output,h.size,fun i hi hn=>h.block i hi (fun e=>hn (by injection e with e;rw [e];exact hg)),hs⟩
theorem Fr.below {w w':World} {S S':Nat->Prop} {b:Nat} (h:Fr w w' S S') (hb:∀ i,S i->b<=i) (h0:b<=w.heap.size):Below b w w':=
 ⟨h.os,h.tape,h.output,h.size,fun i hi=>h.block i (by omega) (fun hs=>by have:=hb i hs;omega)⟩
structure Sep (b:Nat) (w:World) (l:List Ob):Prop where
 base:b<=w.heap.size
 holds:∀ o∈l,o.holds w
 own:∀ o∈l,∀ i,o.own i->b<=i/\i<w.heap.size
 rd:∀ o∈l,∀ i,o.rd i->i<w.heap.size
 apart:l.Pairwise Apart
section
variable {b:Nat} {w w':World} {o o' x y:Ob} {l l':List Ob}
theorem Sep.perm (h:Sep b w l) (hp:l'.Perm l):Sep b w l':=
 ⟨h.base,fun o ho=>h.holds o (hp.mem_iff.1 ho),fun o ho=>h.own o (hp.mem_iff.1 ho),fun o ho=>h.rd o (hp.mem_iff.1 ho),(hp.pairwise_iff (fun h=>h.symm)).2 h.apart⟩
theorem Sep.sub (h:Sep b w l) (hs:l'.Sublist l):Sep b w l':=
 ⟨h.base,fun o ho=>h.holds o (hs.subset ho),fun o ho=>h.own o (hs.subset ho),fun o ho=>h.rd o (hs.subset ho),h.apart.sublist hs⟩
theorem Sep.tail (h:Sep b w (o::l)):Sep b w l:=h.sub (List.sublist_cons_self _ _)
theorem Sep.swap (h:Sep b w (x::y::l)):Sep b w (y::x::l):=h.perm (List.Perm.swap _ _ _)
theorem Sep.head (h:Sep b w (o::l)):o.holds w:=h.holds o (by simp)
theorem Sep.nil (w:World) (h:b<=w.heap.size):Sep b w []:=⟨h,by simp,by simp,by simp,List.Pairwise.nil⟩
theorem Sep.step (h:Sep b w (o::l)) (hf:Fr w w' o.own o'.own) (hr:∀ i,o'.rd i->o.own i∨o.rd i∨w.heap.size<=i) (hh:o'.holds w') (hlt:∀ i,o'.own i∨o'.rd i->i<w'.heap.size):Sep b w' (o'::l)/\Below b w w':=by
 have hown:=h.own o (by simp);obtain ⟨ha,hp⟩:=List.pairwise_cons.1 h.apart;have hb:Below b w w':=hf.below (fun i hi=>(hown i hi).1) h.base;refine ⟨⟨zD h.base hf.size,fun y hy=>?_,fun y hy i hi=>?_,fun y hy i hi=>?_,List.pairwise_cons.2 ⟨fun y hy=>?_,hp⟩⟩,hb⟩
 · rcases List.mem_cons.1 hy with rfl | hy
   · exact hh
   refine y.stable w w' (h.holds y (by simp [hy])) ⟨hf.os,hf.tape,hf.output,hf.size⟩ (fun i hi=>?_);refine hf.block i ?_ (fun ho=>?_)
   · rcases hi with hi | hi
     · exact (h.own y (by simp [hy]) i hi).2
     exact h.rd y (by simp [hy]) i hi
   have:=(ha y hy).1 i ho;rcases hi with hi | hi
   · exact this.1 hi
   exact this.2 hi
 · rcases List.mem_cons.1 hy with rfl | hy
   · refine ⟨?_,hlt i (.inl hi)⟩;rcases hf.own i hi with h1 | h1
     · exact (hown i h1).1
     have:=h.base;omega
   have:=h.own y (by simp [hy]) i hi;exact ⟨this.1,zC this.2 hf.size⟩
 · rcases List.mem_cons.1 hy with rfl | hy
   · exact hlt i (.inr hi)
   exact zC (h.rd y (by simp [hy]) i hi) hf.size
 have hyo:=h.own y (by simp [hy]);have hyr:=h.rd y (by simp [hy]);refine ⟨fun i hi=>?_,fun i hi hi'=>?_⟩
 · rcases hf.own i hi with h1 | h1
   · exact (ha y hy).1 i h1
   exact ⟨fun h2=>by have:=(hyo i h2).2;omega,fun h2=>by have:=hyr i h2;omega⟩
 rcases hr i hi' with h1 | h1 | h1
 · exact ((ha y hy).1 i h1).1 hi
 · exact (ha y hy).2 i hi h1
 have:=(hyo i hi).2;omega
theorem Sep.add (h:Sep b w l) (hb:Below w.heap.size w w') (hh:o'.holds w') (ho:∀ i,o'.own i->w.heap.size<=i/\i<w'.heap.size) (hr:∀ i,o'.rd i->i<w'.heap.size) (hn:∀ i,o'.rd i->i<w.heap.size->∀ y∈l,¬ y.own i):Sep b w' (o'::l)/\Below b w w':=by
 refine ⟨⟨zD h.base hb.size,fun y hy=>?_,fun y hy i hi=>?_,fun y hy i hi=>?_,List.pairwise_cons.2 ⟨fun y hy=>⟨fun i hi=>⟨fun h2=>?_,fun h2=>?_⟩,fun i hi hi'=>?_⟩,h.apart⟩⟩,hb.mono h.base⟩
 · rcases List.mem_cons.1 hy with rfl | hy
   · exact hh
   refine y.stable w w' (h.holds y hy) ⟨hb.os,hb.tape,hb.output,hb.size⟩ (fun i hi=>hb.block i ?_);rcases hi with hi | hi
   · exact (h.own y hy i hi).2
   exact h.rd y hy i hi
 · rcases List.mem_cons.1 hy with rfl | hy
   · have:=ho i hi;have:=h.base;omega
   have:=h.own y hy i hi;have:=hb.size;omega
 · rcases List.mem_cons.1 hy with rfl | hy
   · exact hr i hi
   have:=h.rd y hy i hi;have:=hb.size;omega
 · have:=(ho i hi).1;have:=(h.own y hy i h2).2;omega
 · have:=(ho i hi).1;have:=h.rd y hy i h2;omega
 by_cases hlt:i<w.heap.size
 · exact hn i hi' hlt y hy hi
 have:=(h.own y hy i hi).2;omega
theorem Sep.on (h:Sep b w l) (hb:Below w.heap.size w w'):Sep b w' l:=
 ⟨zD h.base hb.size,fun y hy=>y.stable w w' (h.holds y hy) ⟨hb.os,hb.tape,hb.output,hb.size⟩ (fun i hi=>hb.block i (by
  rcases hi with hi | hi
  · exact (h.own y hy i hi).2
  exact h.rd y hy i hi)),fun y hy i hi=>⟨(h.own y hy i hi).1,zC (h.own y hy i hi).2 hb.size⟩,fun y hy i hi=>zC (h.rd y hy i hi) hb.size,h.apart⟩
theorem Sep.view (h:Sep b w (o::l)) (hh:o'.holds w) (ho:∀ i,¬ o'.own i) (hr:∀ i,o'.rd i->o.rd i) (hx:∀ i,o.own i->¬ o.rd i):Sep b w (o'::o::l):=
 ⟨h.base,fun y hy=>by
  rcases List.mem_cons.1 hy with rfl | hy
  · exact hh
  · exact h.holds y hy,fun y hy i hi=>by
  rcases List.mem_cons.1 hy with rfl | hy
  · exact absurd hi (ho i)
  · exact h.own y hy i hi,fun y hy i hi=>by
  rcases List.mem_cons.1 hy with rfl | hy
  · exact h.rd o (by simp) i (hr i hi)
  exact h.rd y hy i hi,List.pairwise_cons.2 ⟨fun y hy=>⟨fun i hi=>absurd hi (ho i),fun i hi hi'=>by
  rcases List.mem_cons.1 hy with rfl | hy
  · exact hx i hi (hr i hi')
  exact ((List.pairwise_cons.1 h.apart).1 y hy).2 i hi (hr i hi')⟩,h.apart⟩⟩
theorem Sep.pull (h:Sep b w l) {k:Nat} (hk:l[k]? =some o):Sep b w (o::l.eraseIdx k):=h.perm (perm_erase l k o hk).symm
theorem Sep.stepAt (h:Sep b w l) (k:Nat) (hk:l[k]? =some o) (hf:Fr w w' o.own o'.own) (hr:∀ i,o'.rd i->o.own i∨o.rd i∨w.heap.size<=i) (hh:o'.holds w') (hlt:∀ i,o'.own i∨o'.rd i->i<w'.heap.size):Sep b w' (l.set k o')/\Below b w w':=by
 obtain ⟨h1,h2⟩:=(h.pull hk).step hf hr hh hlt;refine ⟨h1.perm ?_,h2⟩;have hl:=(List.getElem?_eq_some_iff.1 hk).1;have h3:=perm_erase (l.set k o') k o' (by rw [List.getElem?_set_self hl]);rw [erase_set] at h3;exact h3
theorem Sep.get (h:Sep b w l) {k:Nat} (hk:l[k]? =some o):o.holds w:=h.holds o (zB hk)
theorem Sep.own_ge (h:Sep b w l) {k:Nat} (hk:l[k]? =some o) {i:Nat} (hi:o.own i):b<=i/\i<w.heap.size:=h.own o (zB hk) i hi
end
def cellOb (g:Nat) (t:TypeId) (cs:Array Value):Ob where
 own:=fun i=>i=g
 rd:=fun _=>False
 holds:=fun w=>IsB w g t cs
 stable:=fun w w' h _ hk=>(hk g (.inl rfl)).trans h
theorem Sep.cell {b:Nat} {w:World} {l:List Ob} (h:Sep b w l) {k g:Nat} {t:TypeId} {cs:Array Value} (hk:l[k]? =some (cellOb g t cs)):IsB w g t cs:=h.get hk
theorem Sep.setAt {b:Nat} {w:World} {l:List Ob} (h:Sep b w l) (k:Nat) {g:Nat} {t:TypeId} {cs:Array Value} (hk:l[k]? =some (cellOb g t cs)) (j:Nat) (u:Value):Sep b (w.setCell ⟨g,j,none⟩ u) (l.set k (cellOb g t (cs.setIfInBounds j u)))/\Below b w (w.setCell ⟨g,j,none⟩ u):=by
 have hc:=h.cell hk;have hg:w.grownBy (w.setCell ⟨g,j,none⟩ u) (some g):=g_set (p:=⟨g,j,none⟩) (g_refl _ _) (.inl rfl) _;refine h.stepAt k hk (Fr.grown hg rfl (fun i hi=> .inl hi)) (fun i hi=>hi.elim) (hc.set_ j u) (fun i hi=>?_);rcases hi with hi | hi
 · have:=hc.lt;have e:i=g:=hi;rw [e];simpa [World.setCell] using this
 exact hi.elim
theorem Sep.newCell {b:Nat} {w:World} {l:List Ob} (h:Sep b w l) (t:TypeId) (cs:Array Value):Sep b (w.alloc (.cells cs t)) (cellOb w.heap.size t cs::l)/\Below b w (w.alloc (.cells cs t)):=
 h.add ((Below.refl _ _).alloc (Nat.le_refl _) _) (IsB.new w t cs) (fun i hi=>by have e:i=w.heap.size:=hi;simp [e]) (fun i hi=>hi.elim) (fun i hi=>hi.elim)
section
variable {P:Program}
end
section
variable {P:Program}
theorem append_block (w:World) (t ty e:TypeId) (i:TypeInfo) (z:Value) (ht:P.underlying t=some (.slice e)) (hi:P.info? e=some i) (hz:i.zero=some z)
 (v:Value) (n:Nat) (xs:List Value) (hown:w.ownsRow 0 e i.size v n xs) (a:Addr) (m c:Nat) (news:List Value) (hl:news.length=m*i.size) (hnews:∀ j u,news[j]? =some u->w.cell? (a.add j)=some u)
 (h1:∀ u∈news,u.oneCell'=true) (hm:0<m) (h63:n+m<=maxLen) (hbytes:(n+m)*i.bytes<=140737488355328) {v':Value} {w':World}
 (hr:(Builtin.append_ #[t,t] ty #[v,.slice (some a) m c]).run P w= .ok v' w'):v'.ownBlock=v.ownBlock∨v'.ownBlock=some w.heap.size:=by
 unfold maxLen at h63;rcases hown.2 with ⟨rfl,rfl⟩ | ⟨g,cap,cur,rfl,_,hg,hnc,_,hcs,htk⟩
 · rw [run_append_nil w t ty e i z ht hi hz a m c news hl hnews hm (by omega) (by rw [zE] at hbytes;omega)] at hr;injection hr with hv _;subst hv;exact .inr rfl
 by_cases hroom:n+m<=cap
 · have hsz:(n+m)*i.size<=cap*i.size:=Nat.mul_le_mul_right _ hroom;rw [Nat.add_mul] at hsz
   rw [run_append_room_cells w t ty e i ht hi g 0 n cap a m c news hl hnews h1 hroom (fun j hj=>by
    rw [cell_of_row w g _ cur e (0,0) hg,Array.getElem?_eq_getElem (by omega)];rfl) (fun j hj=>by simp [World.frozen?, hg])] at hr
   injection hr with hv _;subst hv;exact .inl rfl
 rw [run_append_grow w t ty e i z ht hi hz ⟨g,0,none⟩ n cap xs hown.1 (fun j u hu=>by
  have hj:j<n*i.size:=by
   have:=(List.getElem?_eq_some_iff.1 hu).1;rw [hown.1] at this;exact this
  rw [show (⟨g,0,none⟩:Addr).add j=⟨g,j,none⟩ by unfold Addr.add;split<;>simp_all,cell_of_row w g _ cur e (0,0) hg, <- Array.getElem?_toList, <- hu, <- htk,List.getElem?_take_of_lt hj]) a m c news hl hnews (by omega) (by omega) (growslice_fits (by omega) hbytes)] at hr
 injection hr with hv _;subst hv;exact .inr rfl
theorem step_append_row {w:World} {ops:Array Oper} {o:Oper} {a:Act} {K:Act->World->Prop} {Q:Exit->Act->World->Prop} {E:Prop} (hgd:o.guard=none) (s x:Operand) (t:TypeId)
 (ho:o.op= .call { callee:=.builtin .append,args:= #[s,x],argTypes:= #[t,t] })
 (e:TypeId) (i:TypeInfo) (z:Value) (size bytes:Nat) (ht:P.underlying t=some (.slice e)) (hi:P.info? e=some i) (hz:i.zero=some z)
 (hsize:i.size=size) (hby:i.bytes=bytes) (hzs:z.cells.size=size) (hsz:0<size)
 (v:Value) (n:Nat) (xs:List Value) (hs:a.eval s=v) (hown:w.ownsRow 0 e size v n xs)
 (ad:Addr) (m c:Nat) (news:List Value) (hx:a.eval x= .slice (some ad) m c) (hl:news.length=m*size) (hnews:∀ j u,news[j]? =some u->w.cell? (ad.add j)=some u) (h1:∀ u∈news,u.oneCell'=true)
 (hm:0<m) (h63:n+m<=maxLen) (hbytes:(n+m)*bytes<=140737488355328)
 (h:∀ v' w',w'.ownsRow 0 e size v' (n+m) (xs++news)->w.grownBy w' v.ownBlock->v'.ownBlock=v.ownBlock∨v'.ownBlock=some w.heap.size->K (a.put o.dst v') w'):
 if Region.wanted o (yielded ops a.tmps)=true then Oper.wp P o a w K Q else E:=by
 have hw:Region.wanted o (yielded ops a.tmps)=true:=by simp [Region.wanted,hgd]
 rw [if_pos hw];subst hsize hby;obtain ⟨v',w',hr,h2,h3,_⟩:=run_append_own (P:=P) w 0 t o.type e i z i.size i.bytes ht hi hz rfl rfl hzs hsz v n xs hown ad m c news hl hnews h1 h63 hbytes (Nat.zero_le _);have h4:=append_block w t o.type e i z ht hi hz v n xs hown ad m c news hl hnews h1 hm h63 hbytes hr;unfold Oper.wp execOp;simp only [ho,resolve,invoke,builtin,Sem.run_bind,Sem.run_pure,Result.andThen_ok,List.map_toArray,List.map_cons,List.map_nil,hs,hx,hr];exact h v' w' h2 h3 h4
end
theorem tmod_lt' (v n:Int) (h:0<n):v.tmod n<n:=Int.tmod_lt_of_pos v h
theorem tmod_gt' (v n:Int) (h:0<n): -n<v.tmod n:=by
 have:=Int.tmod_lt_of_pos (-v) h;rw [Int.neg_tmod] at this;omega
def RdT (w:World) (x:Nat) (A:Option Addr) (L:List Int):Prop:=
 0<L.length->∃ b o,A=some ⟨b,o,none⟩/\b<x/\∀ j,j<L.length->w.cell? ⟨b,o+j,none⟩=some (.int .i64 (L.getD j 0))
end
end Go.Proofs.YteabgcollokgjaaGreatDoor
