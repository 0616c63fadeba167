/- Contracts of the walk, part 1. -/
import Derived.WalkKit
import Derived.Deep.QuietTactic
import Derived.BigQuiet
import Derived.Lib.Hide
import Derived.StillTail
import Derived.Deep.AppendLies
import Derived.Laws.OwnMore
import Derived.Maps.AppendAt
import Derived.Test.YtmiknfneeipkeaaGreatProg
import Derived.WalkSpells
import Derived.WalkLawsBesides
import Derived.Maps.RangeWalk
import Derived.WideKeyEntry
namespace Go.Proofs.YtmiknfneeipkeaaGreat
open Go.RowKit
structure Ext (w:World) where
 to:World
 below:Below w.heap.size w to
instance extNonempty (w:World):Nonempty (Ext w):=⟨⟨w,Below.refl _ _⟩⟩
def wext (w:World) (g:Ext w):World:=g.to
theorem wext_below {w:World} (g:Ext w):Below w.heap.size w (wext w g):=g.below
theorem wext_of {w w':World} (h:Below w.heap.size w w'):∃ g:Ext w,w'=wext w g:=⟨⟨w',h⟩,rfl⟩
theorem wext_cell (w:World) (g:Ext w) (b o:Nat) (s:Option Nat) (h:b<w.heap.size):(wext w g).cell? ⟨b,o,s⟩=w.cell? ⟨b,o,s⟩:=g.below.cell (p:=⟨b,o,s⟩) h
theorem wp_region_ext {P:Program} {id:Nat} {Q:Exit->Act->World->Prop} {a:Act} {w:World} {l:List Oper} (hm:P.follows .mixedOrders=true) (hB:Region.lexB .any l.toArray=true)
 (h:wpQuiet P l.toArray (fun w'=>∃ g:Ext w,w'=wext w g) (fun a'=>∀ w',Below w.heap.size w w'->Q .normal a' w') l a):(Code.region id l.toArray true).wp P Q a w:=by
 refine wp_region_quiet (C:=fun w'=>∃ g:Ext w,w'=wext w g) hm hB (wext_of (Below.refl _ _).drew) ?_
 have e:(fun a'=>∀ w',(∃ g:Ext w,w'=wext w g)->Q .normal a' w')=(fun a'=>∀ w',Below w.heap.size w w'->Q .normal a' w'):=by
  funext a'
  apply propext
  constructor
  · intro hh w' hb;exact hh w' (wext_of hb)
  rintro hh w' ⟨g,rfl⟩;exact hh _ (wext_below g)
 rw [e];exact h
theorem ext_call {P:Program} {f:FuncId} {args:Array Value} {w:World} {g:Ext w} {v:Value}
 (h:Calls P f args (wext w g) fun e w'=>e= .returned v/\Below (wext w g).heap.size (wext w g) w'):
 Calls P f args (wext w g) fun e w''=>e= .returned v/\∃ g',w''=wext w g':=
 h.mono fun _ _ ⟨he,hb⟩=>⟨he,wext_of ((wext_below g).trans (hb.mono (wext_below g).size))⟩
section
variable {P:Program} {ops:Array Oper} {md:Region.Mode} {C:World->Prop}
def headQ (P:Program) (md:Region.Mode) (ops:Array Oper) (C:World->Prop) (n:Nat) (L:Array Bool->Act->Prop):Nat->Array Bool->Act->Prop
 | 0,listed,a=>L listed a
 | f+1,listed,a=>Region.ready md ops listed≠[]/\∀ i∈Region.ready md ops listed,i<n/\qOp P ops C i (headQ P md ops C n L f (listed.setIfInBounds i true)) a
theorem any_of_headQ {n g:Nat} {L:Array Bool->Act->Prop} {Q':Exit->Act->World->Prop} (hL:∀ listed a w,C w->L listed a->wpAny P md ops Q' g listed a w):
 ∀ (f:Nat) (listed:Array Bool) (a:Act) (w:World),C w->headQ P md ops C n L f listed a->wpAny P md ops Q' (f+g) listed a w
 | 0,listed,a,w,hw,h=>by rw [Nat.zero_add];exact hL _ _ _ hw h
 | f+1,listed,a,w,hw,h=>by
  rw [show f+1+g=(f+g)+1 by omega];exact ⟨fun h0=>absurd h0 h.1,fun i hi=>wpOp_of_qOp hw (fun a' w' hw' h'=>any_of_headQ hL f _ a' w' hw' h') (h.2 i hi).2⟩
theorem headQ_first {n i:Nat} {oi:Oper} {v:Value} {L:Array Bool->Act->Prop} (hi:ops[i]? =some oi) (hsel:∀ (j:Nat) (o:Oper) cs b,ops[j]? =some o->o.op≠ .select cs b)
 (hs:Region.sinkB md ops n=true) (hc:Region.chainB md ops n=true) (hn:n<ops.size) (hin:i<n)
 (hdone:∀ listed a,L listed a->∀ j∈Region.ready md ops listed,n<=j):
 ∀ (f:Nat) (listed:Array Bool) (a:Act),HeadInv md ops n listed->
  (∀ j oj,ops[j]? =some oj->j≠i->listed.getD j true=false->(∀ e∈oj.after,Region.binds md e=true->e.on≠i)->oi.apart ops oj=true)->
  i∈Region.ready md ops listed->YieldsIn P ops C oi v a->
  headQ P md ops C n L f (listed.setIfInBounds i true) (a.put oi.dst v)->headQ P md ops C n L (f+1) listed a:=by
 have early:∀ (listed:Array Bool),HeadInv md ops n listed->i∈Region.ready md ops listed->∀ j∈Region.ready md ops listed,j<n:=by
  intro listed inv hr j hj;rcases Nat.lt_or_ge j n with h | h
  · exact h
  exact absurd hj (tail_waits hs hc hn inv _ i rfl hin (mem_ready.1 hr).1 j h)
 intro f;induction f with
 | zero=>
  intro listed a inv _ hr hy H;refine ⟨fun h=>(by rw [h] at hr;cases hr),fun j hj=>⟨early listed inv hr j hj,?_⟩⟩;by_cases hji:j=i
  · subst hji;exact hy.qOp hi H
  have h1:=hdone _ _ H j (ready_mono hj hji);have h2:=early listed inv hr j hj;omega
 | succ f ih=>
  intro listed a inv hfree hr hy H;have hun:=(mem_ready.1 hr).1;refine ⟨fun h=>(by rw [h] at hr;cases hr),fun j hj=>⟨early listed inv hr j hj,?_⟩⟩;by_cases hji:j=i
  · subst hji;exact hy.qOp hi H
  have hjn:=early listed inv hr j hj;have h1:=(H.2 j (ready_mono hj hji)).2;obtain ⟨hjun,oj,hoj,hall⟩:=mem_ready.1 hj
  have hnot:∀ e∈oj.after,Region.binds md e=true->e.on≠i:=fun e he hb heq=>by
   have h1:=hall e he hb;rw [heq,getD_both hun] at h1;cases h1
  have h2:=qOp_put hoj (hfree j oj hoj hji hjun hnot) (fun cs b=>hsel i oi cs b hi) (fun cs b=>hsel j oj cs b hoj) hy h1
  have hfree':∀ k ok,ops[k]? =some ok->k≠i->(listed.setIfInBounds j true).getD k true=false->
   (∀ e∈ok.after,Region.binds md e=true->e.on≠i)->oi.apart ops ok=true:=fun k ok hk hki hun hno=>by
   refine hfree k ok hk hki ?_ hno;by_cases hjk:j=k
   · subst hjk;exact hjun
   rw [getD_set_ne true hjk] at hun;exact hun
  refine qOp_mono (fun a' h3=>ih (listed.setIfInBounds j true) a' (inv.set hj hjn) hfree' (ready_mono hr (Ne.symm hji)) h3.1 ?_) h2;rw [Array.setIfInBounds_comm _ _ hji];exact h3.2
theorem headQ_lex {n g:Nat} {Lq:Act->Prop} (hsel:Region.noSelect ops=true) (hs:Region.sinkB md ops n=true) (hc:Region.chainB md ops n=true) (hn:n<ops.size):
 ∀ (l:List Oper) (k:Nat) (listed:Array Bool) (a:Act),(∀ j,j<l.length->l[j]? =ops[k+j]?)->k+l.length=n->HeadInv md ops n listed->
 Region.lexHead md ops g l.length k listed=true->wpQuiet P ops C Lq l a->
 headQ P md ops C n (fun listed' a'=>Region.seqB md ops g n listed'=true/\Lq a') l.length listed a
 | [],k,listed,a,_,hk,_,hB,h=>by
  have:k=n:=by simpa using hk
  subst this;exact ⟨by simpa [Region.lexHead] using hB,h⟩
 | o::l,k,listed,a,hl,hk,inv,hB,h=>by
  have h0:ops[k]? =some o:=by simpa using (hl 0 (by simp)).symm
  simp only [List.length_cons,Region.lexHead,Bool.and_eq_true] at hB;obtain ⟨⟨hr,hf⟩,hB'⟩:=hB;have hkn:k<n:=by simp only [List.length_cons] at hk;omega
  have hr':k∈Region.ready md ops listed:=by simpa using hr
  have hst:qOp P ops C k (wpQuiet P ops C Lq l) a:=by unfold qOp;simp only [h0];exact h
  obtain ⟨v,hy,hK⟩:=yieldsIn_of_qOp h0 hst
  exact headQ_first h0 (Region.noSelect_spec hsel) hs hc hn hkn (fun listed' a' hL=>seqB_ready hL.1) l.length listed a inv (Region.free_spec h0 hf) hr' hy
   (headQ_lex hsel hs hc hn l (k+1) _ _ (fun j hj=>by have:=hl (j+1) (by simp;omega);simpa [Nat.add_assoc,Nat.add_comm 1 j] using this) (by simp only [List.length_cons] at hk;omega) (inv.set hr' hkn) hB' hK)
theorem wp_region_class_tail {id:Nat} {Q:Exit->Act->World->Prop} {a:Act} {w:World} {l:List Oper} (n:Nat) (hm:P.follows .mixedOrders=true) (hB:Region.lexTailB .any l.toArray n=true) (hC:C { w with drawn:=w.drawn+1 })
 (h:wpQuiet P l.toArray C (fun a'=>∀ w',C w'->wpList P l.toArray Q (l.drop n) a' w') (l.take n) a):(Code.region id l.toArray true).wp P Q a w:=by
 simp only [Region.lexTailB,Bool.and_eq_true,decide_eq_true_eq] at hB;obtain ⟨⟨⟨⟨hsel,hn⟩,hs⟩,hc⟩,hlex⟩:=hB;have hn':n<l.length:=by simpa using hn
 have htl:(l.take n).length=n:=by simp;omega
 have hdl:(l.drop n).length=l.toArray.size-n:=by simp
 have inv0:HeadInv .any l.toArray n (Array.replicate l.toArray.size false):=
  ⟨by simp,fun j oj _ hl=>(by rw [getD_replicate_false] at hl;cases hl),fun t _ ht=>getD_in (by simpa using ht) (getD_replicate_false _ _)⟩
 have H:=headQ_lex (C:=C) (md:=.any) (g:=l.toArray.size-n) hsel hs hc hn (l.take n) 0 _ a (fun j hj=>by
  have hj':j<n:=by rw [htl] at hj;exact hj
  simp [hj']) (by simpa using htl) inv0 (by rw [htl];exact hlex) h
 refine wp_region_any hm ?_
 have:=any_of_headQ (C:=C) (Q':=Q) (g:=l.toArray.size-n) (fun listed a' w' hw' hL=>by
  have:=wpAny_of_seq (md:=.any) (Q':=Q) (l.drop n) n listed a' w' (fun j=>by simp [List.getElem?_drop]) (by rw [hdl];exact hL.1) (hL.2 w' hw');rwa [hdl] at this) _ _ _ _ hC H
 rw [htl,show n+(l.toArray.size-n)=l.toArray.size by omega] at this;exact this
end
theorem wp_region_ext_tail {P:Program} {id:Nat} {Q:Exit->Act->World->Prop} {a:Act} {w:World} {l:List Oper} (n:Nat) (hm:P.follows .mixedOrders=true) (hB:Region.lexTailB .any l.toArray n=true)
 (h:wpQuiet P l.toArray (fun w'=>∃ g:Ext w,w'=wext w g) (fun a'=>∀ w',Below w.heap.size w w'->wpList P l.toArray Q (l.drop n) a' w') (l.take n) a):(Code.region id l.toArray true).wp P Q a w:=by
 refine wp_region_class_tail (C:=fun w'=>∃ g:Ext w,w'=wext w g) n hm hB (wext_of (Below.refl _ _).drew) ?_
 have e:(fun a'=>∀ w',(∃ g:Ext w,w'=wext w g)->wpList P l.toArray Q (l.drop n) a' w')=(fun a'=>∀ w',Below w.heap.size w w'->wpList P l.toArray Q (l.drop n) a' w'):=by
  funext a'
  apply propext
  constructor
  · intro hh w' hb;exact hh w' (wext_of hb)
  rintro hh w' ⟨g,rfl⟩;exact hh _ (wext_below g)
 rw [e];exact h
theorem wp_region_draw_tail {P:Program} {id:Nat} {Q:Exit->Act->World->Prop} {a:Act} {w:World} {l:List Oper} (n:Nat) (hm:P.follows .mixedOrders=true) (hB:Region.lexTailB .any l.toArray n=true)
 (h:wpQuiet P l.toArray (fun w'=>∃ n,w'=w.drewN n) (fun a'=>∀ q,wpList P l.toArray Q (l.drop n) a' (w.drewN q)) (l.take n) a):(Code.region id l.toArray true).wp P Q a w:=by
 refine wp_region_class_tail (C:=fun w'=>∃ n,w'=w.drewN n) n hm hB ⟨1,rfl⟩ ?_
 have e:(fun a'=>∀ w',(∃ n,w'=w.drewN n)->wpList P l.toArray Q (l.drop n) a' w')=(fun a'=>∀ q,wpList P l.toArray Q (l.drop n) a' (w.drewN q)):=by
  funext a'
  apply propext
  constructor
  · intro hh q;exact hh _ ⟨q,rfl⟩
  rintro hh w' ⟨g,rfl⟩;exact hh _
 rw [e];exact h
end Go.Proofs.YtmiknfneeipkeaaGreat
namespace Go.Proofs.YtmiknfneeipkeaaGreat
open Go.RowKit
theorem only_of_below {a w:World} (h:Below a.heap.size a w) (row:Option Nat):a.grownBy w row:=⟨h.os,h.tape,h.output,h.size,fun i hi _=>h.block i hi⟩
theorem bdrewN {B:Nat} {a w:World} (h:Below B a w) (n:Nat):Below B a (w.drewN n):=⟨h.os,h.tape,h.output,h.size,h.block⟩
theorem g_refl (w:World) (row:Option Nat):w.grownBy w row:=⟨rfl,rfl,rfl,Nat.le_refl _,fun _ _ _=>rfl⟩
theorem g_trans {a b c:World} {row:Option Nat} (h:a.grownBy b row) (k:b.grownBy c row):a.grownBy c row:=
 ⟨k.os.trans h.os,k.tape.trans h.tape,k.output.trans h.output,Nat.le_trans h.size k.size,fun i hi hne=>(k.block i (Nat.lt_of_lt_of_le hi h.size) hne).trans (h.block i hi hne)⟩
theorem g_drewN {a w:World} {row:Option Nat} (h:a.grownBy w row) (n:Nat):a.grownBy (w.drewN n) row:=⟨h.os,h.tape,h.output,h.size,h.block⟩
theorem g_below {a w w':World} {row:Option Nat} (h:a.grownBy w row) (hb:Below w.heap.size w w'):a.grownBy w' row:=g_trans h (only_of_below hb row)
theorem g_set {a w:World} {g:Nat} (h:a.grownBy w (some g)) {p:Addr} (hp:p.block=g∨a.heap.size<=p.block) (u:Value):a.grownBy (w.setCell p u) (some g):=
 ⟨h.os,h.tape,h.output,by simpa [World.setCell] using h.size,fun i hi hne=>(Below.heap_setCell w p u i (by
  rintro rfl;rcases hp with hp | hp
  · exact hne (by rw [hp])
  omega)).trans (h.block i hi hne)⟩
theorem g_cell {w w':World} {x b o:Nat} (h:w.grownBy w' (some x)) (hb:b<w.heap.size) (hx:b≠x):w'.cell? ⟨b,o,none⟩=w.cell? ⟨b,o,none⟩:=
 World.cell?_of_block (h.block b hb (fun e=>hx (by injection e)))
def IsB (w:World) (g:Nat) (t:TypeId) (cs:Array Value):Prop:=w.heap[g]? =some (.cells cs t (0,0))
theorem IsB.lt {w:World} {g:Nat} {t:TypeId} {cs:Array Value} (h:IsB w g t cs):g<w.heap.size:=by
 unfold IsB at h;exact (Array.getElem?_eq_some_iff.1 h).1
theorem IsB.cell {w:World} {g:Nat} {t:TypeId} {cs:Array Value} (h:IsB w g t cs) (i:Nat):w.cell? ⟨g,i,none⟩=cs[i]? :=cell_of_row w g i cs t (0,0) h
theorem IsB.frozen {w:World} {g:Nat} {t:TypeId} {cs:Array Value} (h:IsB w g t cs) (i:Nat):w.frozen? ⟨g,i,none⟩=false:=by
 unfold IsB at h;simp [World.frozen?, h]
theorem IsB.new (w:World) (t:TypeId) (cs:Array Value):IsB (w.alloc (.cells cs t)) w.heap.size t cs:=heap_alloc_new w _
theorem IsB.alloc {w:World} {g:Nat} {t:TypeId} {cs:Array Value} (h:IsB w g t cs) (o:Obj):IsB (w.alloc o) g t cs:=(Below.heap_alloc w o g h.lt).trans h
theorem IsB.drewN {w:World} {g:Nat} {t:TypeId} {cs:Array Value} (h:IsB w g t cs) (n:Nat):IsB (w.drewN n) g t cs:=h
theorem IsB.grown {w w':World} {g:Nat} {t:TypeId} {cs:Array Value} {row:Option Nat} (h:IsB w g t cs) (hb:w.grownBy w' row) (hg:some g≠row):IsB w' g t cs:=(hb.block g h.lt hg).trans h
theorem IsB.on {w w':World} {g:Nat} {t:TypeId} {cs:Array Value} (h:IsB w g t cs) (hb:Below w.heap.size w w'):IsB w' g t cs:=(hb.block g h.lt).trans h
theorem IsB.set_ {w:World} {g:Nat} {t:TypeId} {cs:Array Value} (h:IsB w g t cs) (i:Nat) (u:Value):IsB (w.setCell ⟨g,i,none⟩ u) g t (cs.setIfInBounds i u):=by
 unfold IsB at h |-; simp [World.setCell,Array.getElem?_modify,h]
theorem IsB.own_ne {w:World} {g:Nat} {t:TypeId} {cs:Array Value} {base:Nat} {e:TypeId} {size n:Nat} {v:Value} {xs:List Value} (hg:IsB w g t cs) (h:w.ownsRow base e size v n xs) (hne:e≠t):some g≠v.ownBlock:=by
 rcases h.2 with ⟨rfl,_⟩ | ⟨g',cap,cur,rfl,_,hh,_⟩
 · simp [Value.ownBlock]
 intro he;have:g=g':=by simpa [Value.ownBlock] using he
 subst this;unfold IsB at hg;rw [hg] at hh;injection hh with hh;injection hh with _ ht;exact hne ht.symm
theorem new_cell (W:World) (t:TypeId) (cs:Array Value) (H:Nat) (hH:W.heap.size=H) (i:Nat):(W.alloc (.cells cs t)).cell? ⟨H,i,none⟩=cs[i]? :=by
 subst hH;exact (IsB.new W t cs).cell i
section
variable {α:Type}
def Rd (enc:α->List Value) (k:Nat) (d:α) (w:World) (x:Nat) (A:Option Addr) (xs:List α):Prop:=
 0<xs.length->∃ b o,A=some ⟨b,o,none⟩/\b<w.heap.size/\b≠x/\∀ j,j<xs.length->∀ i v,(enc (xs.getD j d))[i]? =some v->w.cell? ⟨b,o+j*k+i,none⟩=some v
variable {enc:α->List Value} {k:Nat} {d:α} {w w':World} {x:Nat} {A:Option Addr} {xs:List α}
theorem Rd.keep (h:Rd enc k d w x A xs) (hs:w.heap.size<=w'.heap.size) (hk:∀ b o,b<w.heap.size->b≠x->w'.cell? ⟨b,o,none⟩=w.cell? ⟨b,o,none⟩):Rd enc k d w' x A xs:=by
 intro hp;obtain ⟨b,o,e,hb,hx,hc⟩:=h hp;exact ⟨b,o,e,by omega,hx,fun j hj i v hv=>by rw [hk _ _ hb hx];exact hc j hj i v hv⟩
theorem Rd.on (h:Rd enc k d w x A xs) (hb:Below w.heap.size w w'):Rd enc k d w' x A xs:=h.keep hb.size fun b o hb' _=>hb.cell (p:=⟨b,o,none⟩) hb'
theorem Rd.gr (h:Rd enc k d w x A xs) (hg:w.grownBy w' (some x)):Rd enc k d w' x A xs:=h.keep hg.size fun _ _ hb' hx=>g_cell hg hb' hx
theorem Rd.alloc (h:Rd enc k d w x A xs) (o:Obj):Rd enc k d (w.alloc o) x A xs:=h.on ((Below.refl _ _).alloc (Nat.le_refl _) o)
theorem Rd.drewN (h:Rd enc k d w x A xs) (n:Nat):Rd enc k d (w.drewN n) x A xs:=h
theorem Rd.own (h:Rd enc k d w x A xs) {row:Option Nat} (hg:w.grownBy w' row) (hsep:∀ b o,A=some ⟨b,o,none⟩->some b≠row):Rd enc k d w' x A xs:=by
 intro hp;obtain ⟨b,o,e,hb,hx,hc⟩:=h hp;exact ⟨b,o,e,Nat.lt_of_lt_of_le hb hg.size,hx,fun j hj i v hv=>(World.cell?_of_block (hg.block b hb (hsep b o e))).trans (hc j hj i v hv)⟩
theorem Rd.nil:Rd enc k d w x A []:=fun hp=>absurd hp (by simp)
theorem flat_len (hk:∀ y,(enc y).length=k) (l:List α):(l.flatMap enc).length=l.length*k:=by
 induction l with
 | nil=>simp
 | cons y l ih=>rw [List.flatMap_cons,List.length_append,ih,hk,List.length_cons,Nat.add_mul,Nat.one_mul,Nat.add_comm]
theorem flat_at (hk:∀ y,(enc y).length=k) (d:α) (l:List α) (j i:Nat) (hj:j<l.length) (hi:i<k):(l.flatMap enc)[j*k+i]? =(enc (l.getD j d))[i]? :=by
 induction l generalizing j with
 | nil=>simp at hj
 | cons y l ih=>
  rw [List.flatMap_cons];cases j with
  | zero=>rw [List.getElem?_append_left (by rw [hk];omega)];simp
  | succ j=>
   have h:=ih j (by simpa using hj);rw [List.getElem?_append_right (by rw [hk,Nat.add_mul];omega),hk,show (j+1)*k+i-k=j*k+i by rw [Nat.add_mul];omega,h];simp
theorem Rd.of_own {base:Nat} {e:TypeId} {n c:Nat} (hk:∀ y,(enc y).length=k) (hk0:0<k) (h:w.ownsRow base e k (.slice A n c) n (xs.flatMap enc)) (hx:x<base):n=xs.length/\Rd enc k d w x A xs:=by
 have hl:=h.1;rw [flat_len hk] at hl;have hn:n=xs.length:=(Nat.eq_of_mul_eq_mul_right hk0 hl).symm;refine ⟨hn,fun hp=>?_⟩;obtain ⟨g,cap,hv,hb,hlt⟩:=h.form (by omega);injection hv with h1 h2 h3;subst h1;refine ⟨g,0,rfl,hlt,by omega,fun j hj i v hi=>?_⟩
 have hik:i<k:=by
  have:=(List.getElem?_eq_some_iff.1 hi).1;rwa [hk] at this
 have hjk:j*k+i<n*k:=by
  have:(j+1)*k<=n*k:=Nat.mul_le_mul_right k (by omega);rw [Nat.add_mul] at this;omega
 subst h3;rw [Nat.zero_add,h.cellAt _ hjk,flat_at hk d xs j i hj hik];exact hi
theorem own_slice {base:Nat} {e:TypeId} {size n:Nat} {v:Value} {ys:List Value} (h:w.ownsRow base e size v n ys):∃ A c,v= .slice A n c:=by
 rcases h.2 with ⟨rfl,rfl⟩ | ⟨g,cap,cur,rfl,_⟩
 · exact ⟨none,0,rfl⟩
 exact ⟨_,cap,rfl⟩
theorem own_cap {base:Nat} {e:TypeId} {size n c:Nat} {ys:List Value} (h:w.ownsRow base e size (.slice A n c) n ys):n<=c:=by
 rcases h.2 with ⟨hv,h0⟩ | ⟨g,cap,cur,hv,_,_,hc,_⟩
 · omega
 injection hv with h1 h2 h3;omega
theorem Rd.opt (hk:∀ y,(enc y).length=k) (hk0:0<k) (h:Rd enc k d w x A xs):(A=none->xs.length=0)/\∀ ad,A=some ad->∀ j u,(xs.flatMap enc)[j]? =some u->w.cell? (ad.add j)=some u:=by
 refine ⟨fun e=>?_,fun ad e j u hu=>?_⟩
 · rcases Nat.eq_zero_or_pos xs.length with h0 | h0
   · exact h0
   obtain ⟨b,o,e',_⟩:=h h0;rw [e] at e';cases e'
 have hj:j<xs.length*k:=by
  have:=(List.getElem?_eq_some_iff.1 hu).1;rwa [flat_len hk] at this
 have hq:j / k<xs.length:=by rw [Nat.div_lt_iff_lt_mul hk0];exact hj
 obtain ⟨b,o,e',hb,_,hc⟩:=h (Nat.lt_of_le_of_lt (Nat.zero_le _) hq);rw [e] at e';injection e' with e';subst e';have hm:j % k<k:=Nat.mod_lt _ hk0;have hadd:(⟨b,o,none⟩:Addr).add j=⟨b,o+j,none⟩:=by unfold Addr.add;split<;>simp_all
 have hdm:j / k*k+j % k=j:=by rw [Nat.mul_comm];exact Nat.div_add_mod j k
 have h1:=flat_at hk d xs (j / k) (j % k) hq hm;rw [hdm,hu] at h1;have h2:=hc (j / k) hq (j % k) u h1.symm;rw [Nat.add_assoc,hdm] at h2;rw [hadd];exact h2
end
end Go.Proofs.YtmiknfneeipkeaaGreat
namespace Go.Proofs.YtmiknfneeipkeaaGreat
open Go.RowKit
theorem tmod_lt' (v n:Int) (h:0<n):v.tmod n<n:=Int.tmod_lt_of_pos v h
theorem tmod_gt' (v n:Int) (h:0<n): -n<v.tmod n:=by
 have:=Int.tmod_lt_of_pos (-v) h;rw [Int.neg_tmod] at this;omega
def RdT (w:World) (x:Nat) (A:Option Addr) (L:List Int):Prop:=
 0<L.length->∃ b o,A=some ⟨b,o,none⟩/\b<x/\∀ j,j<L.length->w.cell? ⟨b,o+j,none⟩=some (.int .i64 (L.getD j 0))
def Tp (w:World) (x N:Nat):Prop:=
 ∃ (A:Option Addr) (c at':Nat) (L:List Int),IsB w x 26 #[.slice A L.length c,.int .i64 at']/\at'<=N/\L.length<=9223372036854775807/\RdT w x A L
theorem Tp.lt {w:World} {x N:Nat} (h:Tp w x N):x<w.heap.size:=by
 obtain ⟨A,c,a,L,hb,_⟩:=h;exact hb.lt
theorem RdT.keep {w w':World} {x:Nat} {A:Option Addr} {L:List Int} (h:RdT w x A L) (hk:∀ b o,b<x->w'.cell? ⟨b,o,none⟩=w.cell? ⟨b,o,none⟩):RdT w' x A L:=by
 intro hp;obtain ⟨b,o,e,hb,hc⟩:=h hp;exact ⟨b,o,e,hb,fun j hj=>by rw [hk _ _ hb];exact hc j hj⟩
theorem Tp.kept {w w':World} {x N:Nat} {row:Option Nat} (h:Tp w x N) (hg:w.grownBy w' row) (hr:∀ k,row=some k->x<k):Tp w' x N:=by
 obtain ⟨A,c,a,L,h1,h2,h3,h4⟩:=h;have hlt:=h1.lt;refine ⟨A,c,a,L,h1.grown hg (fun e=>by have:=hr x e.symm;omega),h2,h3,h4.keep fun b o hb=>World.cell?_of_block (hg.block b (by omega) (fun e=>by have:=hr b e.symm;omega))⟩
theorem Tp.on {w w':World} {x N:Nat} (h:Tp w x N) (hb:Below w.heap.size w w'):Tp w' x N:=h.kept (only_of_below hb none) (by simp)
theorem Tp.alloc {w:World} {x N:Nat} (h:Tp w x N) (o:Obj):Tp (w.alloc o) x N:=h.on ((Below.refl _ _).alloc (Nat.le_refl _) o)
theorem Tp.drewN {w:World} {x N:Nat} (h:Tp w x N) (n:Nat):Tp (w.drewN n) x N:=h
theorem Tp.set_ {w:World} {x N:Nat} (h:Tp w x N) {p:Addr} (hp:x<p.block) (u:Value):Tp (w.setCell p u) x N:=
 h.kept (row:=some p.block) (g_set (g_refl _ _) (.inl rfl) _) (fun k hk=>by injection hk with hk;omega)
theorem Tp.next {w:World} {x:Nat} {A:Option Addr} {c at' N n:Nat} {L:List Int} (h1:IsB w x 26 #[.slice A L.length c,.int .i64 at']) (h2:at'<=N) (h3:L.length<=9223372036854775807) (h4:RdT w x A L):
 Tp ((w.setCell ⟨x,1,none⟩ (.int .i64 ((at':Int)+1))).drewN n) x (N+1)/\w.grownBy ((w.setCell ⟨x,1,none⟩ (.int .i64 ((at':Int)+1))).drewN n) (some x):=by
 have hg:w.grownBy ((w.setCell ⟨x,1,none⟩ (.int .i64 ((at':Int)+1))).drewN n) (some x):=g_drewN (g_set (g_refl _ _) (.inl rfl) _) n;refine ⟨⟨A,c,at'+1,L,?_,by omega,h3,h4.keep fun b o hb=>g_cell hg (by have:=h1.lt;omega) (by omega)⟩,hg⟩;have:=(h1.set_ 1 (.int .i64 ((at':Int)+1))).drewN n;simpa using this
end Go.Proofs.YtmiknfneeipkeaaGreat
namespace Go.Proofs.YtmiknfneeipkeaaGreat
open Go.RowKit Go.MapKept Go.ChangeMaps
open Go.Maps (Keyed)
section
variable {α β:Type} [DecidableEq α]
def asc:List (α×β)->α->Option β
 | [],_=>none
 | c::L,a=>if c.1=a then some c.2 else asc L a
def setL:List (α×β)->α->β->List (α×β)
 | [],a,v=>[(a,v)]
 | c::L,a,v=>if c.1=a then (a,v)::L else c::setL L a v
theorem asc_none {L:List (α×β)} {a:α} (h:∀ c∈L,c.1≠a):asc L a=none:=by
 induction L with
 | nil=>rfl
 | cons c L ih=>rw [asc,if_neg (h c (by simp)),ih (fun c hc=>h c (by simp [hc]))]
theorem asc_at {L:List (α×β)} (hn:(L.map (·.1)).Nodup) {j:Nat} {c:α×β} (h:L[j]? =some c):asc L c.1=some c.2:=by
 induction L generalizing j with
 | nil=>simp at h
 | cons d L ih=>
  simp only [List.map_cons,List.nodup_cons] at hn;cases j with
  | zero=>simp at h;subst h;simp [asc]
  | succ j=>
   simp only [List.getElem?_cons_succ] at h;have:d.1≠c.1:=fun e=>hn.1 (by rw [e];exact List.mem_map.2 ⟨c,List.mem_of_getElem? h,rfl⟩);rw [asc,if_neg this,ih hn.2 h]
theorem mem_of_asc {L:List (α×β)} {a:α} {v:β} (h:asc L a=some v):(a,v)∈L:=by
 induction L with
 | nil=>cases h
 | cons c L ih=>
  rw [asc] at h;split at h
  · rename_i e
    injection h with h;subst e h;simp
  exact List.mem_cons_of_mem _ (ih h)
theorem setL_none {L:List (α×β)} {a:α} (h:∀ c∈L,c.1≠a) (v:β):setL L a v=L++[(a,v)]:=by
 induction L with
 | nil=>rfl
 | cons c L ih=>rw [setL,if_neg (h c (by simp)),ih (fun c hc=>h c (by simp [hc]))];rfl
theorem setL_at {L:List (α×β)} (hn:(L.map (·.1)).Nodup) {j:Nat} {c:α×β} (h:L[j]? =some c) (v:β):setL L c.1 v=L.set j (c.1,v):=by
 induction L generalizing j with
 | nil=>simp at h
 | cons d L ih=>
  simp only [List.map_cons,List.nodup_cons] at hn;cases j with
  | zero=>simp at h;subst h;simp [setL]
  | succ j=>
   simp only [List.getElem?_cons_succ] at h;have:d.1≠c.1:=fun e=>hn.1 (by rw [e];exact List.mem_map.2 ⟨c,List.mem_of_getElem? h,rfl⟩);rw [setL,if_neg this,ih hn.2 h];rfl
theorem asc_setL (L:List (α×β)) (a a':α) (v:β):asc (setL L a v) a'=if a=a' then some v else asc L a':=by
 induction L with
 | nil=>simp [setL,asc]
 | cons c L ih=>
  rw [setL];split
  · rename_i e
    subst e;simp only [asc];split<;>rfl
  rename_i e
  simp only [asc,ih];split
  · rename_i e2
    rw [if_neg (fun e3=>e (e2.trans e3.symm))]
  rfl
theorem setL_keys (L:List (α×β)) (a:α) (v:β) (a':α):a'∈(setL L a v).map (·.1)↔a'=a∨a'∈L.map (·.1):=by
 induction L with
 | nil=>simp [setL]
 | cons c L ih=>
  rw [setL];split
  · rename_i e;subst e;simp
  rw [List.map_cons,List.mem_cons,ih,List.map_cons,List.mem_cons];constructor<;>rintro (h | h | h)<;>simp [h]
end
section
variable {α β:Type}
variable (P:Program) (k:TypeId) (ok:α->Prop) (kv:α->Value) (vv:β->Value)
structure MK:Prop where
 K:Keyed P k
 key:∀ a,ok a->∃ l,keyOf P k (kv a)=some l
 inj:∀ a b,kv a=kv b->a=b
def MapIs (w:World) (b:Nat) (L:List (α×β)):Prop:=
 ∃ es clock,w.heap[b]? =some (.map es clock)/\Stamped es clock/\es.toList.map (fun e=>(e.key,e.val))=L.map (fun c=>(kv c.1,vv c.2))/\∀ c∈L,ok c.1
variable {P k ok kv vv}
theorem MapIs.lt {w:World} {b:Nat} {L:List (α×β)} (h:MapIs ok kv vv w b L):b<w.heap.size:=by
 obtain ⟨es,clock,hb,_⟩:=h;exact (Array.getElem?_eq_some_iff.1 hb).1
theorem MapIs.made (w:World):MapIs ok kv vv (w.alloc (.map #[] 0)) w.heap.size ([]:List (α×β)):=
 ⟨#[],0,(MapKept.heap_alloc w _).1,stamped_empty 0,rfl,by simp⟩
theorem MapIs.same {w w':World} {b:Nat} {L:List (α×β)} (h:MapIs ok kv vv w b L) (hb:w'.heap[b]? =w.heap[b]?):MapIs ok kv vv w' b L:=by
 obtain ⟨es,clock,h1,h2⟩:=h;exact ⟨es,clock,hb.trans h1,h2⟩
theorem MapIs.kept {w w':World} {b:Nat} {L:List (α×β)} {row:Option Nat} (h:MapIs ok kv vv w b L) (hg:w.grownBy w' row) (hne:some b≠row):MapIs ok kv vv w' b L:=h.same (hg.block b h.lt hne)
theorem MapIs.on {w w':World} {b:Nat} {L:List (α×β)} (h:MapIs ok kv vv w b L) (hb:Below w.heap.size w w'):MapIs ok kv vv w' b L:=h.same (hb.block b h.lt)
theorem MapIs.alloc {w:World} {b:Nat} {L:List (α×β)} (h:MapIs ok kv vv w b L) (o:Obj):MapIs ok kv vv (w.alloc o) b L:=h.on ((Below.refl _ _).alloc (Nat.le_refl _) o)
theorem keys_nodup {es:Array MapEntry} {clock:Nat} (hs:Stamped es clock) {L:List (α×β)} (he:es.toList.map (fun e=>(e.key,e.val))=L.map (fun c=>(kv c.1,vv c.2))):(L.map (·.1)).Nodup:=by
 have h1:(L.map (fun c=>kv c.1)).Nodup:=by
  have:es.toList.map (·.key)=L.map (fun c=>kv c.1):=by
   have:=congrArg (List.map Prod.fst) he;simpa [Function.comp_def] using this
  rw [<- this];exact hs.2.2
 have h2:L.map (fun c=>kv c.1)=(L.map (·.1)).map kv:=by simp
 rw [h2] at h1;exact List.Pairwise.of_map kv (fun a b (hne:kv a≠kv b) e=>hne (by rw [e])) h1
theorem at_list {es:Array MapEntry} {L:List (α×β)} (he:es.toList.map (fun e=>(e.key,e.val))=L.map (fun c=>(kv c.1,vv c.2))) {j:Nat} {e:MapEntry} (hj:es.toList[j]? =some e):∃ c,L[j]? =some c/\e.key=kv c.1/\e.val=vv c.2:=by
 have:=congrArg (fun l=>l[j]?) he;simp only [List.getElem?_map,hj,Option.map_some] at this;cases hc:L[j]? with
 | none=>rw [hc] at this;cases this
 | some c=>rw [hc] at this;simp at this;exact ⟨c,rfl,this.1,this.2⟩
theorem in_list {es:Array MapEntry} {L:List (α×β)} (he:es.toList.map (fun e=>(e.key,e.val))=L.map (fun c=>(kv c.1,vv c.2))) {c:α×β} (hc:c∈L):∃ e∈es.toList,e.key=kv c.1/\e.val=vv c.2:=by
 have:(kv c.1,vv c.2)∈L.map (fun c=>(kv c.1,vv c.2)):=List.mem_map.2 ⟨c,hc,rfl⟩;rw [<- he] at this;obtain ⟨e,he,h⟩:=List.mem_map.1 this;injection h with h1 h2;exact ⟨e,he,h1,h2⟩
theorem keys_ok (M:MK P k ok kv) {es:Array MapEntry} {L:List (α×β)} (he:es.toList.map (fun e=>(e.key,e.val))=L.map (fun c=>(kv c.1,vv c.2))) (hok:∀ c∈L,ok c.1):∀ e∈es.toList,∃ l,keyOf P k e.key=some l:=by
 intro e hm;obtain ⟨j,hj⟩:=List.mem_iff_getElem?.1 hm;obtain ⟨c,hc,h1,_⟩:=at_list he hj;rw [h1];exact M.key _ (hok c (List.mem_of_getElem? hc))
theorem MapIs.find (M:MK P k ok kv) {w:World} {es:Array MapEntry} {clock:Nat} (_hs:Stamped es clock) {L:List (α×β)} (he:es.toList.map (fun e=>(e.key,e.val))=L.map (fun c=>(kv c.1,vv c.2))) (hok:∀ c∈L,ok c.1) {a:α} (ha:ok a):
 ((Instr.findKey k (kv a) es.toList).run P w= .ok none w/\(∀ e∈es.toList,e.key≠kv a)/\∀ c∈L,c.1≠a)∨
 ∃ j e v,(Instr.findKey k (kv a) es.toList).run P w= .ok (some (j,e.val)) w/\es.toList[j]? =some e/\e.key=kv a/\L[j]? =some (a,v)/\e.val=vv v:=by
 obtain ⟨l,hl⟩:=M.key a ha;rcases M.K.find w hl es.toList (keys_ok M he hok) with ⟨h1,h2⟩ | ⟨j,e,h1,h2,h3⟩
 · refine Or.inl ⟨h1,h2,fun c hc e=>?_⟩;obtain ⟨x,hx,hk,_⟩:=in_list he hc;exact h2 x hx (by rw [hk,e])
 obtain ⟨c,hc,hk,hv⟩:=at_list he h2;have:c.1=a:=M.inj _ _ (by rw [<- hk,h3]);subst this;exact Or.inr ⟨j,e,c.2,h1,h2,h3,hc,hv⟩
theorem MapIs.len {t e:TypeId} (ht:P.underlying t=some (.map k e)) {w:World} {b:Nat} {L:List (α×β)} (h:MapIs ok kv vv w b L) (ty:TypeId):(Builtin.len_ #[t] ty #[.map (some b)]).run P w= .ok (.int .i64 L.length) w:=by
 obtain ⟨es,clock,hb,hs,he,hok⟩:=h
 have hl:es.size=L.length:=by
  have:=congrArg List.length he;simpa using this
 simp [Builtin.len_,run_underlying ht,MapKept.run_getObj_map hb,Result.andThen,hl,goInt]
variable [DecidableEq α]
theorem MapIs.look (M:MK P k ok kv) {t e:TypeId} (ht:P.underlying t=some (.map k e)) {w:World} {z:Value} (hz:(zeroValue e).run P w= .ok z w) {b:Nat} {L:List (α×β)} (h:MapIs ok kv vv w b L) {a:α} (ha:ok a) (c:Bool):
 (Instr.lookup t (.map (some b)) (kv a) c).run P w= .ok (match asc L a with | none=>if c then .tuple #[z,.bool false] else z | some v=>if c then .tuple #[vv v,.bool true] else vv v) w:=by
 obtain ⟨es,clock,hb,hs,he,hok⟩:=h;obtain ⟨l,hl⟩:=M.key a ha;rcases MapIs.find (w:=w) M hs he hok ha with ⟨h1,_,h2⟩ | ⟨j,x,v,h1,h2,h3,h4,h5⟩
 · rw [asc_none h2];simp [Instr.lookup,run_underlying ht,MapKept.run_getObj_map hb,M.K.check w _ hl,h1,hz,Result.andThen]
 have ea:asc L a=some v:=asc_at (keys_nodup hs he) h4;simp only [ea];simp [Instr.lookup,run_underlying ht,MapKept.run_getObj_map hb,M.K.check w _ hl,h1,h5,Result.andThen]
theorem setL_enc {es:Array MapEntry} {clock:Nat} (hs:Stamped es clock) {L:List (α×β)} (he:es.toList.map (fun e=>(e.key,e.val))=L.map (fun c=>(kv c.1,vv c.2))) {j:Nat} {a:α} {v0:β} (h4:L[j]? =some (a,v0)) (v:β):
 (es.modify j (fun e'=>{ e' with key:=kv a,val:=vv v })).toList.map (fun e=>(e.key,e.val))=(setL L a v).map (fun c=>(kv c.1,vv c.2)):=by
 rw [show setL L a v=L.set j (a,v) from setL_at (keys_nodup hs he) h4 v,Array.toList_modify];have hj:j<L.length:=(List.getElem?_eq_some_iff.1 h4).1;rw [List.map_set, <- he];apply List.ext_getElem?
 intro i;rw [List.getElem?_map,List.getElem?_modify,List.getElem?_set];have hl:(es.toList.map (fun e=>(e.key,e.val))).length=L.length:=by rw [he];simp
 by_cases hij:j=i
 · subst hij;rw [if_pos rfl,if_pos (by rw [hl];exact hj)];have hj':j<es.toList.length:=by rw [List.length_map] at hl;rw [hl];exact hj
   rw [List.getElem?_eq_getElem hj'];simp
 rw [if_neg hij,List.getElem?_map];cases es.toList[i]? <;>simp [hij]
theorem MapIs.entry (M:MK P k ok kv) {t e:TypeId} (ht:P.underlying t=some (.map k e)) {z:β} (hz:∀ u:World,(zeroValue e).run P u= .ok (vv z) u) {w:World} {b:Nat} {L:List (α×β)} (h:MapIs ok kv vv w b L) {a:α} (ha:ok a):
 ∃ (v0:Value) (st:Nat) (w1:World),(Instr.mapEntry t (.map (some b)) (kv a)).run P w= .ok (.tuple #[v0,.int .i64 st]) w1/\w.grownBy w1 (some b)/\w1.heap.size=w.heap.size/\MapIs ok kv vv w1 b (setL L a ((asc L a).getD z))/\
  ∀ (w2:World) (v:β),w2.heap[b]? =w1.heap[b]? ->∃ w3,(Instr.entryStore t (.map (some b)) (.int .i64 st) (vv v)).run P w2= .ok () w3/\MapIs ok kv vv w3 b (setL L a v)/\w2.grownBy w3 (some b)/\w3.heap.size=w2.heap.size:=by
 obtain ⟨es,clock,hb,hs,he,hok⟩:=h;obtain ⟨l,hl⟩:=M.key a ha
 have gset:∀ (W:World) (o o':Obj),W.heap[b]? =some o->W.grownBy (setBlock W b o') (some b)/\(setBlock W b o').heap.size=W.heap.size/\(setBlock W b o').heap[b]? =some o':=by
  intro W o o' ho;have hlt:b<W.heap.size:=(Array.getElem?_eq_some_iff.1 ho).1;refine ⟨⟨rfl,rfl,rfl,by simp [setBlock],fun i hi hne=>?_⟩,by simp [setBlock],by simp [setBlock,hlt]⟩;have:b≠i:=fun e=>hne (by rw [e]);simp [setBlock,this]
 rcases MapIs.find (w:=w) M hs he hok ha with ⟨h1,h0,h2⟩ | ⟨j,x,v0,h1,h2,h3,h4,h5⟩
 · refine ⟨vv z,clock,setBlock w b (.map (es.push ⟨kv a,vv z,clock⟩) (clock+1)),?_,(gset w _ _ hb).1,(gset w _ _ hb).2.1,⟨_,_,(gset w _ _ hb).2.2,stamped_push hs h0,?_,?_⟩,fun w2 v hw2=>?_⟩
   · simp [goInt,Instr.mapEntry,run_underlying ht,MapKept.run_getObj_map hb,M.K.check w false hl,h1,hz,MapKept.run_setObj_map _ hb,Result.andThen,setBlock]
   · rw [setL_none h2,asc_none h2];simp [he]
   · intro c hc;rw [setL_none h2] at hc;rcases List.mem_append.1 hc with hc | hc
     · exact hok c hc
     simp at hc;subst hc;exact ha
   rw [(gset w _ _ hb).2.2] at hw2
   have hidx:(es.push ⟨kv a,vv z,clock⟩).findIdx? (fun e=>((e.born:Nat):Int)==((clock:Nat):Int))=some es.size:=by
    rw [WideElems.findIdx_arr];exact WideElems.findIdx_born (l:=(es.push ⟨kv a,vv z,clock⟩).toList) (j:=es.size) (e0:=⟨kv a,vv z,clock⟩) (stamped_push hs h0).2.1 (by simp)
   have hmod:(es.push ⟨kv a,vv z,clock⟩).modify es.size (fun e=>{ e with val:=vv v })=es.push ⟨kv a,vv v,clock⟩:=by
    apply Array.ext'
    rw [Array.toList_modify,Array.toList_push,Array.toList_push, <- Array.length_toList,WideElems.modify_last]
   refine ⟨setBlock w2 b (.map (es.push ⟨kv a,vv v,clock⟩) (clock+1)),?_,⟨_,_,(gset w2 _ _ hw2).2.2,stamped_push hs h0,?_,?_⟩,(gset w2 _ _ hw2).1,(gset w2 _ _ hw2).2.1⟩
   · simp [Instr.entryStore,MapKept.run_getObj_map hw2,asInt,asIntOf,hidx,hmod,MapKept.run_setObj_map _ hw2,Result.andThen,setBlock]
   · rw [setL_none h2];simp [he]
   intro c hc;rw [setL_none h2] at hc;rcases List.mem_append.1 hc with hc | hc
   · exact hok c hc
   simp at hc;subst hc;exact ha
 have hj:es[j]? =some x:=by simpa using h2
 have hsame:es.modify j (fun e=>{ e with key:=kv a })=es:=by
  apply Array.ext'
  rw [Array.toList_modify,modify_eq_set _ _ _ _ h2];have:({ x with key:=kv a }:MapEntry)=x:=by rw [<- h3]
  rw [this];exact WideElems.set_self _ _ _ h2
 have ea:asc L a=some v0:=asc_at (keys_nodup hs he) h4
 have eL:setL L a ((asc L a).getD z)=L:=by
  rw [ea,show setL L a ((some v0).getD z)=L.set j (a,v0) from setL_at (keys_nodup hs he) h4 v0];exact WideElems.set_self _ _ _ h4
 refine ⟨x.val,x.born,setBlock w b (.map es clock),?_,(gset w _ _ hb).1,(gset w _ _ hb).2.1,by rw [eL];exact ⟨es,clock,(gset w _ _ hb).2.2,hs,he,hok⟩,fun w2 v hw2=>?_⟩
 · simp [goInt,Instr.mapEntry,run_underlying ht,MapKept.run_getObj_map hb,M.K.check w false hl,h1,hj,h3,M.K.stays w hl,hsame,MapKept.run_setObj_map _ hb,Result.andThen,setBlock]
 rw [(gset w _ _ hb).2.2] at hw2
 have hidx:es.findIdx? (fun e=>((e.born:Nat):Int)==((x.born:Nat):Int))=some j:=by
  rw [WideElems.findIdx_arr];exact WideElems.findIdx_born hs.2.1 h2
 have hmod:es.modify j (fun e=>{ e with val:=vv v })=es.modify j (fun e'=>{ e' with key:=kv a,val:=vv v }):=by
  apply Array.ext'
  rw [Array.toList_modify,Array.toList_modify,modify_eq_set _ _ _ _ h2,modify_eq_set _ _ _ _ h2, <- h3]
 refine ⟨setBlock w2 b (.map (es.modify j (fun e'=>{ e' with key:=kv a,val:=vv v })) clock),?_,⟨_,_,(gset w2 _ _ hw2).2.2,?_,setL_enc hs he h4 v,?_⟩,(gset w2 _ _ hw2).1,(gset w2 _ _ hw2).2.1⟩
 · simp [Instr.entryStore,MapKept.run_getObj_map hw2,asInt,asIntOf,hidx,hmod,MapKept.run_setObj_map _ hw2,Result.andThen,setBlock]
 · refine stamped_modify hs _ _ (fun _ _=>rfl) (fun e' _ he'=>?_);rw [hj] at he';cases he'
   exact h3.symm
 intro c hc;have:c.1∈(setL L a v).map (·.1):=List.mem_map.2 ⟨c,hc,rfl⟩;rcases (setL_keys L a v c.1).1 this with h | h
 · rw [h];exact ha
 obtain ⟨d,hd,e⟩:=List.mem_map.1 h;rw [<- e];exact hok d hd
end
end Go.Proofs.YtmiknfneeipkeaaGreat
