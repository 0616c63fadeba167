/- Q -/
import Derived.WalkKit
import Derived.Deep.QuietTactic
import Derived.BigQuiet
import Derived.Lib.Hide
import Derived.StillTail
import Derived.Deep.AppendLies
import Derived.Laws.OwnMore
import Derived.Maps.AppendAt
import Derived.Test.YteabgcollokgjaaGreatDoorProg
import Derived.WalkSpells
import Derived.WalkLawsBesides
import Derived.Maps.RangeWalk
import Derived.WideKeyEntry
import Derived.Laws.AppendOwn
import Derived.OwnWalk
set_option linter.unusedSimpArgs false
set_option linter.unusedVariables false
set_option maxRecDepth 100000
set_option maxHeartbeats 32000000
open List renaming length_cons → zA,map_append → zB,mem_of_getElem? → zC,getElem?_eq_getElem → zD,getElem?_map → zE,getElem?_cons_succ → zF
namespace Go.Proofs.YteabgcollokgjaaGreatDoor
section
def pP:Nat:=2305843009213693951
def pB:Nat:=747382712868975713
def fpStep (s:Nat) (x:UInt8):Nat:=(s*pB+(x.toNat+1)) % pP
def fpSum (bs:List UInt8):Nat:=bs.foldl fpStep 0
theorem fpSum_snoc (bs:List UInt8) (x:UInt8):fpSum (bs++[x])=fpStep (fpSum bs) x:=by
 unfold fpSum;rw [List.foldl_append,List.foldl_cons,List.foldl_nil]
theorem fpSum_nil:fpSum []=0:=by
 unfold fpSum;rw [List.foldl_nil]
theorem pP_pos:0<pP:=by unfold pP;omega
theorem fpStep_lt (s:Nat) (x:UInt8):fpStep s x<pP:=by
 unfold fpStep;exact Nat.mod_lt _ pP_pos
theorem fpSum_lt (bs:List UInt8):fpSum bs<pP:=by
 have h:∀ (l:List UInt8) (s:Nat),s<pP->l.foldl fpStep s<pP:=by
  intro l;induction l with
  | nil=>intro s h;rw [List.foldl_nil];exact h
  | cons x l ih=>intro s _;rw [List.foldl_cons];exact ih _ (fpStep_lt s x)
 unfold fpSum;exact h bs 0 pP_pos
theorem mul_words (m:Nat) (h:m<pP*pP):(m % 18446744073709551616 % 2305843009213693952+(m / 18446744073709551616*8+m % 18446744073709551616 / 2305843009213693952)) % pP=m % pP:=by
 have e:m=(m / 18446744073709551616*8+m % 18446744073709551616 / 2305843009213693952)*2305843009213693952+m % 18446744073709551616 % 2305843009213693952:=by omega
 generalize ha:m / 18446744073709551616*8+m % 18446744073709551616 / 2305843009213693952=a at *; generalize hb:m % 18446744073709551616 % 2305843009213693952=b at *; have e2:m=a*pP+(b+a):=by rw [e];unfold pP;omega
 rw [e2,Nat.mul_comm,Nat.mul_add_mod]
theorem mul_high (m:Nat) (h:m<pP*pP):m / 18446744073709551616<288230376151711744:=by
 have:pP*pP<288230376151711744*18446744073709551616:=by unfold pP;omega
 exact Nat.div_lt_of_lt_mul (by rw [Nat.mul_comm];omega)
abbrev ID:=Int×Int
def fpOf (bs:List UInt8):ID:=((fpSum bs:Nat),(bs.length:Nat))
def le8 (v:Nat):List UInt8:=(List.range 8).map (fun i=>UInt8.ofNat (v / 2^(8*i)))
theorem le8_len (v:Nat):(le8 v).length=8:=by simp [le8]
def u64 (z:Int):Nat:=(z % 18446744073709551616).toNat
def putU (v:Nat):List UInt8:=if h:v<128 then [UInt8.ofNat v] else UInt8.ofNat (v % 128+128)::putU (v / 128)
termination_by v
decreasing_by omega
theorem putU_len {v k:Nat} (h:v<128^(k+1)):(putU v).length<=k+1:=by
 induction k generalizing v with
 | zero=>
  rw [putU,dif_pos (by simpa using h)];simp
 | succ k ih=>
  rw [putU];split
  · simp
  simp only [zA]
  have:v / 128<128^(k+1):=by
   rw [Nat.div_lt_iff_lt_mul (by omega)];rw [Nat.pow_succ] at h;exact h
  have:=ih this;omega
def markB:List UInt8:=[83,89,67,83]
def headA (id:ID):List UInt8:=markB++le8 (u64 id.2)++le8 (u64 id.1)
def headB (id:ID) (file off:Nat):List UInt8:=headA id++le8 (fpSum (headA id++putU (2*file)++putU (2*off)))
theorem headA_len (id:ID):(headA id).length=20:=by simp [headA,markB,le8_len]
theorem headB_len (id:ID) (file off:Nat):(headB id file off).length=28:=by simp [headB,headA_len,le8_len]
def cutB (bs:List UInt8) (id:ID) (off:Nat):List UInt8:=(bs.drop (off+28)).take id.2.toNat
def cutOk (bs:List UInt8) (id:ID) (off:Nat):Bool:=decide (id.2<=(bs.length:Int)-(off+28))&&decide (fpOf (cutB bs id off)=id)
def leN:List UInt8->Nat
 | []=>0
 | b::l=>b.toNat+256*leN l
theorem leN_lt (l:List UInt8):leN l<2^(8*l.length):=by
 induction l with
 | nil=>simp [leN]
 | cons b l ih=>
  have hb:=b.toNat_lt
  have e:2^(8*(b::l).length)=256*2^(8*l.length):=by
   rw [zA,Nat.mul_add,Nat.pow_add,Nat.mul_comm]
  rw [e,leN];omega
theorem leN_snoc (l:List UInt8) (b:UInt8):leN (l++[b])=leN l+2^(8*l.length)*b.toNat:=by
 induction l with
 | nil=>simp [leN]
 | cons c l ih=>
  have e:2^(8*(c::l).length)=256*2^(8*l.length):=by
   rw [zA,Nat.mul_add,Nat.pow_add,Nat.mul_comm]
  rw [List.cons_append,leN,leN,ih,e,Nat.mul_add,Nat.mul_assoc];omega
theorem or_add (a b k:Nat) (h:a<2^k):a ||| (2^k*b)=a+2^k*b:=by
 have:=Nat.two_pow_add_eq_or_of_lt h b;rw [Nat.or_comm, <- this];omega
theorem leN_step (bs:List UInt8) (p j:Nat) (hj:p+j<bs.length):leN ((bs.drop p).take (j+1))=leN ((bs.drop p).take j) ||| (2^(8*j)*(bs.getD (p+j) 0).toNat):=by
 have hl:((bs.drop p).take j).length=j:=by
  rw [List.length_take,List.length_drop];omega
 have hs:(bs.drop p).take (j+1)=(bs.drop p).take j++[bs.getD (p+j) 0]:=by
  rw [List.take_succ_eq_append_getElem (by rw [List.length_drop];omega),List.getElem_drop,List.getD_eq_getElem?_getD,zD hj,Option.getD_some]
 have hlt:=leN_lt ((bs.drop p).take j);rw [hl] at hlt;rw [hs,leN_snoc,hl,or_add _ _ _ hlt]
def s64 (n:Nat):Int:=if n<9223372036854775808 then (n:Int) else (n:Int)-18446744073709551616
def rdID (bs:List UInt8) (off:Nat):ID:=((leN ((bs.drop (off+12)).take 8):Nat),s64 (leN ((bs.drop (off+4)).take 8)))
def rdHead (bs:List UInt8) (off:Nat):Option ID:=if off+28<=bs.length/\(bs.drop off).take 28=headB (rdID bs off) 1 off then some (rdID bs off) else none
theorem leN8 (l:List UInt8):leN (l.take 8)<18446744073709551616:=by
 have h:=leN_lt (l.take 8);have h8:(l.take 8).length<=8:=by rw [List.length_take];omega
 have:=Nat.pow_le_pow_right (n:=2) (by omega) (Nat.mul_le_mul_left 8 h8);omega
theorem rdHead_short (bs:List UInt8) (off:Nat) (h:bs.length<off+28):rdHead bs off=none:=by
 unfold rdHead;rw [if_neg];rintro ⟨h1, -⟩;omega
theorem rdHead_mark (bs:List UInt8) (off:Nat) (h:(bs.drop off).take 4≠markB):rdHead bs off=none:=by
 unfold rdHead;rw [if_neg];rintro ⟨h1,h2⟩;apply h
 have:=congrArg (List.take 4) h2;rw [List.take_take] at this;rw [show (4:Nat)=min 4 28 from rfl,this];simp [headB,headA,markB]
theorem leN_le8 (v:Nat) (h:v<18446744073709551616):leN (le8 v)=v:=by
 simp [le8,List.range,List.range.loop,leN,UInt8.toNat_ofNat];omega
theorem s64_u64 (z:Int) (h0: -9223372036854775808<=z) (h1:z<=9223372036854775807):s64 (u64 z)=z:=by
 unfold s64 u64;split<;>omega
end
section
open Go.RowKit
structure Ext (w:World) where
 to:World
 below:Below w.heap.size w to
instance extNonempty (w:World):Nonempty (Ext w):=⟨⟨w,Below.refl _ _⟩⟩
def wext (w:World) (g:Ext w):World:=g.to
theorem wext_below {w:World} (g:Ext w):Below w.heap.size w (wext w g):=g.below
theorem wext_of {w w':World} (h:Below w.heap.size w w'):∃ g:Ext w,w'=wext w g:=⟨⟨w',h⟩,rfl⟩
theorem wext_cell (w:World) (g:Ext w) (b o:Nat) (s:Option Nat) (h:b<w.heap.size):(wext w g).cell? ⟨b,o,s⟩=w.cell? ⟨b,o,s⟩:=g.below.cell (p:=⟨b,o,s⟩) h
theorem wp_region_ext {P:Program} {id:Nat} {Q:Exit->Act->World->Prop} {a:Act} {w:World} {l:List Oper} (hm:P.follows .mixedOrders=true) (hB:Region.lexB .any l.toArray=true)
 (h:wpQuiet P l.toArray (fun w'=>∃ g:Ext w,w'=wext w g) (fun a'=>∀ w',Below w.heap.size w w'->Q .normal a' w') l a):(Code.region id l.toArray true).wp P Q a w:=by
 refine wp_region_quiet (C:=fun w'=>∃ g:Ext w,w'=wext w g) hm hB (wext_of (Below.refl _ _).drew) ?_
 have e:(fun a'=>∀ w',(∃ g:Ext w,w'=wext w g)->Q .normal a' w')=(fun a'=>∀ w',Below w.heap.size w w'->Q .normal a' w'):=by
  funext a'
  apply propext
  constructor
  · intro hh w' hb;exact hh w' (wext_of hb)
  rintro hh w' ⟨g,rfl⟩;exact hh _ (wext_below g)
 rw [e];exact h
theorem ext_call {P:Program} {f:FuncId} {args:Array Value} {w:World} {g:Ext w} {v:Value}
 (h:Calls P f args (wext w g) fun e w'=>e= .returned v/\Below (wext w g).heap.size (wext w g) w'):
 Calls P f args (wext w g) fun e w''=>e= .returned v/\∃ g',w''=wext w g':=
 h.mono fun _ _ ⟨he,hb⟩=>⟨he,wext_of ((wext_below g).trans (hb.mono (wext_below g).size))⟩
section
variable {P:Program} {ops:Array Oper} {md:Region.Mode} {C:World->Prop}
def headQ (P:Program) (md:Region.Mode) (ops:Array Oper) (C:World->Prop) (n:Nat) (L:Array Bool->Act->Prop):Nat->Array Bool->Act->Prop
 | 0,listed,a=>L listed a
 | f+1,listed,a=>Region.ready md ops listed≠[]/\∀ i∈Region.ready md ops listed,i<n/\qOp P ops C i (headQ P md ops C n L f (listed.setIfInBounds i true)) a
theorem any_of_headQ {n g:Nat} {L:Array Bool->Act->Prop} {Q':Exit->Act->World->Prop} (hL:∀ listed a w,C w->L listed a->wpAny P md ops Q' g listed a w):
 ∀ (f:Nat) (listed:Array Bool) (a:Act) (w:World),C w->headQ P md ops C n L f listed a->wpAny P md ops Q' (f+g) listed a w
 | 0,listed,a,w,hw,h=>by rw [Nat.zero_add];exact hL _ _ _ hw h
 | f+1,listed,a,w,hw,h=>by
  rw [show f+1+g=(f+g)+1 by omega];exact ⟨fun h0=>absurd h0 h.1,fun i hi=>wpOp_of_qOp hw (fun a' w' hw' h'=>any_of_headQ hL f _ a' w' hw' h') (h.2 i hi).2⟩
theorem headQ_first {n i:Nat} {oi:Oper} {v:Value} {L:Array Bool->Act->Prop} (hi:ops[i]? =some oi) (hsel:∀ (j:Nat) (o:Oper) cs b,ops[j]? =some o->o.op≠ .select cs b)
 (hs:Region.sinkB md ops n=true) (hc:Region.chainB md ops n=true) (hn:n<ops.size) (hin:i<n)
 (hdone:∀ listed a,L listed a->∀ j∈Region.ready md ops listed,n<=j):
 ∀ (f:Nat) (listed:Array Bool) (a:Act),HeadInv md ops n listed->
  (∀ j oj,ops[j]? =some oj->j≠i->listed.getD j true=false->(∀ e∈oj.after,Region.binds md e=true->e.on≠i)->oi.apart ops oj=true)->
  i∈Region.ready md ops listed->YieldsIn P ops C oi v a->
  headQ P md ops C n L f (listed.setIfInBounds i true) (a.put oi.dst v)->headQ P md ops C n L (f+1) listed a:=by
 have early:∀ (listed:Array Bool),HeadInv md ops n listed->i∈Region.ready md ops listed->∀ j∈Region.ready md ops listed,j<n:=by
  intro listed inv hr j hj;rcases Nat.lt_or_ge j n with h | h
  · exact h
  exact absurd hj (tail_waits hs hc hn inv _ i rfl hin (mem_ready.1 hr).1 j h)
 intro f;induction f with
 | zero=>
  intro listed a inv _ hr hy H;refine ⟨fun h=>(by rw [h] at hr;cases hr),fun j hj=>⟨early listed inv hr j hj,?_⟩⟩;by_cases hji:j=i
  · subst hji;exact hy.qOp hi H
  have h1:=hdone _ _ H j (ready_mono hj hji);have h2:=early listed inv hr j hj;omega
 | succ f ih=>
  intro listed a inv hfree hr hy H;have hun:=(mem_ready.1 hr).1;refine ⟨fun h=>(by rw [h] at hr;cases hr),fun j hj=>⟨early listed inv hr j hj,?_⟩⟩;by_cases hji:j=i
  · subst hji;exact hy.qOp hi H
  have hjn:=early listed inv hr j hj;have h1:=(H.2 j (ready_mono hj hji)).2;obtain ⟨hjun,oj,hoj,hall⟩:=mem_ready.1 hj
  have hnot:∀ e∈oj.after,Region.binds md e=true->e.on≠i:=fun e he hb heq=>by
   have h1:=hall e he hb;rw [heq,getD_both hun] at h1;cases h1
  have h2:=qOp_put hoj (hfree j oj hoj hji hjun hnot) (fun cs b=>hsel i oi cs b hi) (fun cs b=>hsel j oj cs b hoj) hy h1
  have hfree':∀ k ok,ops[k]? =some ok->k≠i->(listed.setIfInBounds j true).getD k true=false->
   (∀ e∈ok.after,Region.binds md e=true->e.on≠i)->oi.apart ops ok=true:=fun k ok hk hki hun hno=>by
   refine hfree k ok hk hki ?_ hno;by_cases hjk:j=k
   · subst hjk;exact hjun
   rw [getD_set_ne true hjk] at hun;exact hun
  refine qOp_mono (fun a' h3=>ih (listed.setIfInBounds j true) a' (inv.set hj hjn) hfree' (ready_mono hr (Ne.symm hji)) h3.1 ?_) h2;rw [Array.setIfInBounds_comm _ _ hji];exact h3.2
theorem headQ_lex {n g:Nat} {Lq:Act->Prop} (hsel:Region.noSelect ops=true) (hs:Region.sinkB md ops n=true) (hc:Region.chainB md ops n=true) (hn:n<ops.size):
 ∀ (l:List Oper) (k:Nat) (listed:Array Bool) (a:Act),(∀ j,j<l.length->l[j]? =ops[k+j]?)->k+l.length=n->HeadInv md ops n listed->
 Region.lexHead md ops g l.length k listed=true->wpQuiet P ops C Lq l a->
 headQ P md ops C n (fun listed' a'=>Region.seqB md ops g n listed'=true/\Lq a') l.length listed a
 | [],k,listed,a,_,hk,_,hB,h=>by
  have:k=n:=by simpa using hk
  subst this;exact ⟨by simpa [Region.lexHead] using hB,h⟩
 | o::l,k,listed,a,hl,hk,inv,hB,h=>by
  have h0:ops[k]? =some o:=by simpa using (hl 0 (by simp)).symm
  simp only [zA,Region.lexHead,Bool.and_eq_true] at hB;obtain ⟨⟨hr,hf⟩,hB'⟩:=hB;have hkn:k<n:=by simp only [zA] at hk;omega
  have hr':k∈Region.ready md ops listed:=by simpa using hr
  have hst:qOp P ops C k (wpQuiet P ops C Lq l) a:=by unfold qOp;simp only [h0];exact h
  obtain ⟨v,hy,hK⟩:=yieldsIn_of_qOp h0 hst
  exact headQ_first h0 (Region.noSelect_spec hsel) hs hc hn hkn (fun listed' a' hL=>seqB_ready hL.1) l.length listed a inv (Region.free_spec h0 hf) hr' hy
   (headQ_lex hsel hs hc hn l (k+1) _ _ (fun j hj=>by have:=hl (j+1) (by simp;omega);simpa [Nat.add_assoc,Nat.add_comm 1 j] using this) (by simp only [zA] at hk;omega) (inv.set hr' hkn) hB' hK)
theorem wp_region_class_tail {id:Nat} {Q:Exit->Act->World->Prop} {a:Act} {w:World} {l:List Oper} (n:Nat) (hm:P.follows .mixedOrders=true) (hB:Region.lexTailB .any l.toArray n=true) (hC:C { w with drawn:=w.drawn+1 })
 (h:wpQuiet P l.toArray C (fun a'=>∀ w',C w'->wpList P l.toArray Q (l.drop n) a' w') (l.take n) a):(Code.region id l.toArray true).wp P Q a w:=by
 simp only [Region.lexTailB,Bool.and_eq_true,decide_eq_true_eq] at hB;obtain ⟨⟨⟨⟨hsel,hn⟩,hs⟩,hc⟩,hlex⟩:=hB;have hn':n<l.length:=by simpa using hn
 have htl:(l.take n).length=n:=by simp;omega
 have hdl:(l.drop n).length=l.toArray.size-n:=by simp
 have inv0:HeadInv .any l.toArray n (Array.replicate l.toArray.size false):=
  ⟨by simp,fun j oj _ hl=>(by rw [getD_replicate_false] at hl;cases hl),fun t _ ht=>getD_in (by simpa using ht) (getD_replicate_false _ _)⟩
 have H:=headQ_lex (C:=C) (md:=.any) (g:=l.toArray.size-n) hsel hs hc hn (l.take n) 0 _ a (fun j hj=>by
  have hj':j<n:=by rw [htl] at hj;exact hj
  simp [hj']) (by simpa using htl) inv0 (by rw [htl];exact hlex) h
 refine wp_region_any hm ?_
 have:=any_of_headQ (C:=C) (Q':=Q) (g:=l.toArray.size-n) (fun listed a' w' hw' hL=>by
  have:=wpAny_of_seq (md:=.any) (Q':=Q) (l.drop n) n listed a' w' (fun j=>by simp [List.getElem?_drop]) (by rw [hdl];exact hL.1) (hL.2 w' hw');rwa [hdl] at this) _ _ _ _ hC H
 rw [htl,show n+(l.toArray.size-n)=l.toArray.size by omega] at this;exact this
end
theorem wp_region_draw_tail {P:Program} {id:Nat} {Q:Exit->Act->World->Prop} {a:Act} {w:World} {l:List Oper} (n:Nat) (hm:P.follows .mixedOrders=true) (hB:Region.lexTailB .any l.toArray n=true)
 (h:wpQuiet P l.toArray (fun w'=>∃ n,w'=w.drewN n) (fun a'=>∀ q,wpList P l.toArray Q (l.drop n) a' (w.drewN q)) (l.take n) a):(Code.region id l.toArray true).wp P Q a w:=by
 refine wp_region_class_tail (C:=fun w'=>∃ n,w'=w.drewN n) n hm hB ⟨1,rfl⟩ ?_
 have e:(fun a'=>∀ w',(∃ n,w'=w.drewN n)->wpList P l.toArray Q (l.drop n) a' w')=(fun a'=>∀ q,wpList P l.toArray Q (l.drop n) a' (w.drewN q)):=by
  funext a'
  apply propext
  constructor
  · intro hh q;exact hh _ ⟨q,rfl⟩
  rintro hh w' ⟨g,rfl⟩;exact hh _
 rw [e];exact h
theorem only_of_below {a w:World} (h:Below a.heap.size a w) (row:Option Nat):a.grownBy w row:=⟨h.os,h.tape,h.output,h.size,fun i hi _=>h.block i hi⟩
theorem bdrewN {B:Nat} {a w:World} (h:Below B a w) (n:Nat):Below B a (w.drewN n):=⟨h.os,h.tape,h.output,h.size,h.block⟩
theorem g_refl (w:World) (row:Option Nat):w.grownBy w row:=⟨rfl,rfl,rfl,Nat.le_refl _,fun _ _ _=>rfl⟩
theorem g_trans {a b c:World} {row:Option Nat} (h:a.grownBy b row) (k:b.grownBy c row):a.grownBy c row:=
 ⟨k.os.trans h.os,k.tape.trans h.tape,k.output.trans h.output,Nat.le_trans h.size k.size,fun i hi hne=>(k.block i (Nat.lt_of_lt_of_le hi h.size) hne).trans (h.block i hi hne)⟩
theorem g_alloc {a w:World} {row:Option Nat} (h:a.grownBy w row) (o:Obj):a.grownBy (w.alloc o) row:=g_trans h (World.grownBy_alloc w o row)
theorem g_drewN {a w:World} {row:Option Nat} (h:a.grownBy w row) (n:Nat):a.grownBy (w.drewN n) row:=⟨h.os,h.tape,h.output,h.size,h.block⟩
theorem g_below {a w w':World} {row:Option Nat} (h:a.grownBy w row) (hb:Below w.heap.size w w'):a.grownBy w' row:=g_trans h (only_of_below hb row)
theorem g_set {a w:World} {g:Nat} (h:a.grownBy w (some g)) {p:Addr} (hp:p.block=g∨a.heap.size<=p.block) (u:Value):a.grownBy (w.setCell p u) (some g):=
 ⟨h.os,h.tape,h.output,by simpa [World.setCell] using h.size,fun i hi hne=>(Below.heap_setCell w p u i (by
  rintro rfl;rcases hp with hp | hp
  · exact hne (by rw [hp])
  omega)).trans (h.block i hi hne)⟩
theorem g_cell {w w':World} {x b o:Nat} (h:w.grownBy w' (some x)) (hb:b<w.heap.size) (hx:b≠x):w'.cell? ⟨b,o,none⟩=w.cell? ⟨b,o,none⟩:=
 World.cell?_of_block (h.block b hb (fun e=>hx (by injection e)))
def IsB (w:World) (g:Nat) (t:TypeId) (cs:Array Value):Prop:=w.heap[g]? =some (.cells cs t (0,0))
theorem IsB.lt {w:World} {g:Nat} {t:TypeId} {cs:Array Value} (h:IsB w g t cs):g<w.heap.size:=by
 unfold IsB at h;exact (Array.getElem?_eq_some_iff.1 h).1
theorem IsB.cell {w:World} {g:Nat} {t:TypeId} {cs:Array Value} (h:IsB w g t cs) (i:Nat):w.cell? ⟨g,i,none⟩=cs[i]? :=cell_of_row w g i cs t (0,0) h
theorem IsB.frozen {w:World} {g:Nat} {t:TypeId} {cs:Array Value} (h:IsB w g t cs) (i:Nat):w.frozen? ⟨g,i,none⟩=false:=by
 unfold IsB at h;simp [World.frozen?, h]
theorem IsB.new (w:World) (t:TypeId) (cs:Array Value):IsB (w.alloc (.cells cs t)) w.heap.size t cs:=heap_alloc_new w _
theorem IsB.alloc {w:World} {g:Nat} {t:TypeId} {cs:Array Value} (h:IsB w g t cs) (o:Obj):IsB (w.alloc o) g t cs:=(Below.heap_alloc w o g h.lt).trans h
theorem IsB.grown {w w':World} {g:Nat} {t:TypeId} {cs:Array Value} {row:Option Nat} (h:IsB w g t cs) (hb:w.grownBy w' row) (hg:some g≠row):IsB w' g t cs:=(hb.block g h.lt hg).trans h
theorem IsB.on {w w':World} {g:Nat} {t:TypeId} {cs:Array Value} (h:IsB w g t cs) (hb:Below w.heap.size w w'):IsB w' g t cs:=(hb.block g h.lt).trans h
theorem IsB.set_ {w:World} {g:Nat} {t:TypeId} {cs:Array Value} (h:IsB w g t cs) (i:Nat) (u:Value):IsB (w.setCell ⟨g,i,none⟩ u) g t (cs.setIfInBounds i u):=by
 unfold IsB at h |-; simp [World.setCell,Array.getElem?_modify,h]
theorem IsB.own_ne {w:World} {g:Nat} {t:TypeId} {cs:Array Value} {base:Nat} {e:TypeId} {size n:Nat} {v:Value} {xs:List Value} (hg:IsB w g t cs) (h:w.ownsRow base e size v n xs) (hne:e≠t):some g≠v.ownBlock:=by
 rcases h.2 with ⟨rfl,_⟩ | ⟨g',cap,cur,rfl,_,hh,_⟩
 · simp [Value.ownBlock]
 intro he;have:g=g':=by simpa [Value.ownBlock] using he
 subst this;unfold IsB at hg;rw [hg] at hh;injection hh with hh;injection hh with _ ht;exact hne ht.symm
theorem IsB.ne_ {w:World} {g g':Nat} {t t':TypeId} {cs cs':Array Value} (h:IsB w g t cs) (h':IsB w g' t' cs') (hne:t≠t'):g≠g':=by
 rintro rfl;unfold IsB at h h';rw [h] at h';injection h' with h';injection h' with _ ht;exact hne ht
theorem own_set {w:World} {base:Nat} {e:TypeId} {size n:Nat} {v:Value} {xs:List Value} {p:Addr} (h:w.ownsRow base e size v n xs) (hp:some p.block≠v.ownBlock) (u:Value):(w.setCell p u).ownsRow base e size v n xs:=
 h.kept (row:=some p.block) (g_set (g_refl _ _) (.inl rfl) u) (by
  cases hv:v.ownBlock with
  | none=>exact .inl rfl
  | some k=>exact .inr (fun e=>hp (by rw [hv, <- e])))
theorem new_cell (W:World) (t:TypeId) (cs:Array Value) (H:Nat) (hH:W.heap.size=H) (i:Nat):(W.alloc (.cells cs t)).cell? ⟨H,i,none⟩=cs[i]? :=by
 subst hH;exact (IsB.new W t cs).cell i
section
variable {α:Type}
variable {enc:α->List Value} {k:Nat} {d:α} {w w':World} {x:Nat} {A:Option Addr} {xs:List α}
theorem flat_len (hk:∀ y,(enc y).length=k) (l:List α):(l.flatMap enc).length=l.length*k:=by
 induction l with
 | nil=>simp
 | cons y l ih=>rw [List.flatMap_cons,List.length_append,ih,hk,zA,Nat.add_mul,Nat.one_mul,Nat.add_comm]
theorem flat_at (hk:∀ y,(enc y).length=k) (d:α) (l:List α) (j i:Nat) (hj:j<l.length) (hi:i<k):(l.flatMap enc)[j*k+i]? =(enc (l.getD j d))[i]? :=by
 induction l generalizing j with
 | nil=>simp at hj
 | cons y l ih=>
  rw [List.flatMap_cons];cases j with
  | zero=>rw [List.getElem?_append_left (by rw [hk];omega)];simp
  | succ j=>
   have h:=ih j (by simpa using hj);rw [List.getElem?_append_right (by rw [hk,Nat.add_mul];omega),hk,show (j+1)*k+i-k=j*k+i by rw [Nat.add_mul];omega,h];simp
theorem own_slice {base:Nat} {e:TypeId} {size n:Nat} {v:Value} {ys:List Value} (h:w.ownsRow base e size v n ys):∃ A c,v= .slice A n c:=by
 rcases h.2 with ⟨rfl,rfl⟩ | ⟨g,cap,cur,rfl,_⟩
 · exact ⟨none,0,rfl⟩
 exact ⟨_,cap,rfl⟩
end
theorem tmod_lt' (v n:Int) (h:0<n):v.tmod n<n:=Int.tmod_lt_of_pos v h
theorem tmod_gt' (v n:Int) (h:0<n): -n<v.tmod n:=by
 have:=Int.tmod_lt_of_pos (-v) h;rw [Int.neg_tmod] at this;omega
def RdT (w:World) (x:Nat) (A:Option Addr) (L:List Int):Prop:=
 0<L.length->∃ b o,A=some ⟨b,o,none⟩/\b<x/\∀ j,j<L.length->w.cell? ⟨b,o+j,none⟩=some (.int .i64 (L.getD j 0))
end
section
open Go.RowKit Go.MapKept Go.ChangeMaps
open Go.Maps (Keyed)
section
variable {α β:Type} [DecidableEq α]
def asc:List (α×β)->α->Option β
 | [],_=>none
 | c::L,a=>if c.1=a then some c.2 else asc L a
def setL:List (α×β)->α->β->List (α×β)
 | [],a,v=>[(a,v)]
 | c::L,a,v=>if c.1=a then (a,v)::L else c::setL L a v
theorem asc_none {L:List (α×β)} {a:α} (h:∀ c∈L,c.1≠a):asc L a=none:=by
 induction L with
 | nil=>rfl
 | cons c L ih=>rw [asc,if_neg (h c (by simp)),ih (fun c hc=>h c (by simp [hc]))]
theorem asc_at {L:List (α×β)} (hn:(L.map (·.1)).Nodup) {j:Nat} {c:α×β} (h:L[j]? =some c):asc L c.1=some c.2:=by
 induction L generalizing j with
 | nil=>simp at h
 | cons d L ih=>
  simp only [List.map_cons,List.nodup_cons] at hn;cases j with
  | zero=>simp at h;subst h;simp [asc]
  | succ j=>
   simp only [zF] at h;have:d.1≠c.1:=fun e=>hn.1 (by rw [e];exact List.mem_map.2 ⟨c,zC h,rfl⟩);rw [asc,if_neg this,ih hn.2 h]
theorem asc_mem {L:List (α×β)} (hn:(L.map (·.1)).Nodup) {c:α×β} (h:c∈L):asc L c.1=some c.2:=by
 obtain ⟨j,hj⟩:=List.mem_iff_getElem?.1 h;exact asc_at hn hj
theorem mem_of_asc {L:List (α×β)} {a:α} {v:β} (h:asc L a=some v):(a,v)∈L:=by
 induction L with
 | nil=>cases h
 | cons c L ih=>
  rw [asc] at h;split at h
  · rename_i e
    injection h with h;subst e h;simp
  exact List.mem_cons_of_mem _ (ih h)
theorem setL_none {L:List (α×β)} {a:α} (h:∀ c∈L,c.1≠a) (v:β):setL L a v=L++[(a,v)]:=by
 induction L with
 | nil=>rfl
 | cons c L ih=>rw [setL,if_neg (h c (by simp)),ih (fun c hc=>h c (by simp [hc]))];rfl
theorem setL_at {L:List (α×β)} (hn:(L.map (·.1)).Nodup) {j:Nat} {c:α×β} (h:L[j]? =some c) (v:β):setL L c.1 v=L.set j (c.1,v):=by
 induction L generalizing j with
 | nil=>simp at h
 | cons d L ih=>
  simp only [List.map_cons,List.nodup_cons] at hn;cases j with
  | zero=>simp at h;subst h;simp [setL]
  | succ j=>
   simp only [zF] at h;have:d.1≠c.1:=fun e=>hn.1 (by rw [e];exact List.mem_map.2 ⟨c,zC h,rfl⟩);rw [setL,if_neg this,ih hn.2 h];rfl
theorem asc_setL (L:List (α×β)) (a a':α) (v:β):asc (setL L a v) a'=if a=a' then some v else asc L a':=by
 induction L with
 | nil=>simp [setL,asc]
 | cons c L ih=>
  rw [setL];split
  · rename_i e
    subst e;simp only [asc];split<;>rfl
  rename_i e
  simp only [asc,ih];split
  · rename_i e2
    rw [if_neg (fun e3=>e (e2.trans e3.symm))]
  rfl
theorem setL_keys (L:List (α×β)) (a:α) (v:β) (a':α):a'∈(setL L a v).map (·.1)↔a'=a∨a'∈L.map (·.1):=by
 induction L with
 | nil=>simp [setL]
 | cons c L ih=>
  rw [setL];split
  · rename_i e;subst e;simp
  rw [List.map_cons,List.mem_cons,ih,List.map_cons,List.mem_cons];constructor<;>rintro (h | h | h)<;>simp [h]
theorem setL_length (L:List (α×β)) (a:α) (v:β):(setL L a v).length<=L.length+1:=by
 induction L with
 | nil=>simp [setL]
 | cons c L ih=>rw [setL];split<;>simp<;>omega
end
section
variable {α β:Type}
variable (P:Program) (k:TypeId) (ok:α->Prop) (kv:α->Value) (vv:β->Value)
structure MK:Prop where
 K:Keyed P k
 key:∀ a,ok a->∃ l,keyOf P k (kv a)=some l
 inj:∀ a b,kv a=kv b->a=b
def MapIs (w:World) (b:Nat) (L:List (α×β)):Prop:=
 ∃ es clock,w.heap[b]? =some (.map es clock)/\Stamped es clock/\es.toList.map (fun e=>(e.key,e.val))=L.map (fun c=>(kv c.1,vv c.2))/\∀ c∈L,ok c.1
variable {P k ok kv vv}
theorem MapIs.lt {w:World} {b:Nat} {L:List (α×β)} (h:MapIs ok kv vv w b L):b<w.heap.size:=by
 obtain ⟨es,clock,hb,_⟩:=h;exact (Array.getElem?_eq_some_iff.1 hb).1
theorem MapIs.made (w:World):MapIs ok kv vv (w.alloc (.map #[] 0)) w.heap.size ([]:List (α×β)):=
 ⟨#[],0,(MapKept.heap_alloc w _).1,stamped_empty 0,rfl,by simp⟩
theorem MapIs.same {w w':World} {b:Nat} {L:List (α×β)} (h:MapIs ok kv vv w b L) (hb:w'.heap[b]? =w.heap[b]?):MapIs ok kv vv w' b L:=by
 obtain ⟨es,clock,h1,h2⟩:=h;exact ⟨es,clock,hb.trans h1,h2⟩
theorem MapIs.kept {w w':World} {b:Nat} {L:List (α×β)} {row:Option Nat} (h:MapIs ok kv vv w b L) (hg:w.grownBy w' row) (hne:some b≠row):MapIs ok kv vv w' b L:=h.same (hg.block b h.lt hne)
theorem MapIs.on {w w':World} {b:Nat} {L:List (α×β)} (h:MapIs ok kv vv w b L) (hb:Below w.heap.size w w'):MapIs ok kv vv w' b L:=h.same (hb.block b h.lt)
theorem MapIs.alloc {w:World} {b:Nat} {L:List (α×β)} (h:MapIs ok kv vv w b L) (o:Obj):MapIs ok kv vv (w.alloc o) b L:=h.on ((Below.refl _ _).alloc (Nat.le_refl _) o)
theorem keys_nodup {es:Array MapEntry} {clock:Nat} (hs:Stamped es clock) {L:List (α×β)} (he:es.toList.map (fun e=>(e.key,e.val))=L.map (fun c=>(kv c.1,vv c.2))):(L.map (·.1)).Nodup:=by
 have h1:(L.map (fun c=>kv c.1)).Nodup:=by
  have:es.toList.map (·.key)=L.map (fun c=>kv c.1):=by
   have:=congrArg (List.map Prod.fst) he;simpa [Function.comp_def] using this
  rw [<- this];exact hs.2.2
 have h2:L.map (fun c=>kv c.1)=(L.map (·.1)).map kv:=by simp
 rw [h2] at h1;exact List.Pairwise.of_map kv (fun a b (hne:kv a≠kv b) e=>hne (by rw [e])) h1
theorem MapIs.nodup {w:World} {b:Nat} {L:List (α×β)} (h:MapIs ok kv vv w b L):(L.map (·.1)).Nodup:=by
 obtain ⟨es,clock,h1,h2,h3,_⟩:=h;exact keys_nodup h2 h3
theorem MapIs.oks {w:World} {b:Nat} {L:List (α×β)} (h:MapIs ok kv vv w b L):∀ c∈L,ok c.1:=by
 obtain ⟨es,clock,_,_,_,h4⟩:=h;exact h4
theorem at_list {es:Array MapEntry} {L:List (α×β)} (he:es.toList.map (fun e=>(e.key,e.val))=L.map (fun c=>(kv c.1,vv c.2))) {j:Nat} {e:MapEntry} (hj:es.toList[j]? =some e):∃ c,L[j]? =some c/\e.key=kv c.1/\e.val=vv c.2:=by
 have:=congrArg (fun l=>l[j]?) he;simp only [zE,hj,Option.map_some] at this;cases hc:L[j]? with
 | none=>rw [hc] at this;cases this
 | some c=>rw [hc] at this;simp at this;exact ⟨c,rfl,this.1,this.2⟩
theorem in_list {es:Array MapEntry} {L:List (α×β)} (he:es.toList.map (fun e=>(e.key,e.val))=L.map (fun c=>(kv c.1,vv c.2))) {c:α×β} (hc:c∈L):∃ e∈es.toList,e.key=kv c.1/\e.val=vv c.2:=by
 have:(kv c.1,vv c.2)∈L.map (fun c=>(kv c.1,vv c.2)):=List.mem_map.2 ⟨c,hc,rfl⟩;rw [<- he] at this;obtain ⟨e,he,h⟩:=List.mem_map.1 this;injection h with h1 h2;exact ⟨e,he,h1,h2⟩
theorem keys_ok (M:MK P k ok kv) {es:Array MapEntry} {L:List (α×β)} (he:es.toList.map (fun e=>(e.key,e.val))=L.map (fun c=>(kv c.1,vv c.2))) (hok:∀ c∈L,ok c.1):∀ e∈es.toList,∃ l,keyOf P k e.key=some l:=by
 intro e hm;obtain ⟨j,hj⟩:=List.mem_iff_getElem?.1 hm;obtain ⟨c,hc,h1,_⟩:=at_list he hj;rw [h1];exact M.key _ (hok c (zC hc))
theorem MapIs.find (M:MK P k ok kv) {w:World} {es:Array MapEntry} {clock:Nat} (_hs:Stamped es clock) {L:List (α×β)} (he:es.toList.map (fun e=>(e.key,e.val))=L.map (fun c=>(kv c.1,vv c.2))) (hok:∀ c∈L,ok c.1) {a:α} (ha:ok a):
 ((Instr.findKey k (kv a) es.toList).run P w= .ok none w/\(∀ e∈es.toList,e.key≠kv a)/\∀ c∈L,c.1≠a)∨
 ∃ j e v,(Instr.findKey k (kv a) es.toList).run P w= .ok (some (j,e.val)) w/\es.toList[j]? =some e/\e.key=kv a/\L[j]? =some (a,v)/\e.val=vv v:=by
 obtain ⟨l,hl⟩:=M.key a ha;rcases M.K.find w hl es.toList (keys_ok M he hok) with ⟨h1,h2⟩ | ⟨j,e,h1,h2,h3⟩
 · refine Or.inl ⟨h1,h2,fun c hc e=>?_⟩;obtain ⟨x,hx,hk,_⟩:=in_list he hc;exact h2 x hx (by rw [hk,e])
 obtain ⟨c,hc,hk,hv⟩:=at_list he h2;have:c.1=a:=M.inj _ _ (by rw [<- hk,h3]);subst this;exact Or.inr ⟨j,e,c.2,h1,h2,h3,hc,hv⟩
theorem MapIs.len {t e:TypeId} (ht:P.underlying t=some (.map k e)) {w:World} {b:Nat} {L:List (α×β)} (h:MapIs ok kv vv w b L) (ty:TypeId):(Builtin.len_ #[t] ty #[.map (some b)]).run P w= .ok (.int .i64 L.length) w:=by
 obtain ⟨es,clock,hb,hs,he,hok⟩:=h
 have hl:es.size=L.length:=by
  have:=congrArg List.length he;simpa using this
 simp [Builtin.len_,run_underlying ht,MapKept.run_getObj_map hb,Result.andThen,hl,goInt]
variable [DecidableEq α]
theorem MapIs.look (M:MK P k ok kv) {t e:TypeId} (ht:P.underlying t=some (.map k e)) {w:World} {z:Value} (hz:(zeroValue e).run P w= .ok z w) {b:Nat} {L:List (α×β)} (h:MapIs ok kv vv w b L) {a:α} (ha:ok a) (c:Bool):
 (Instr.lookup t (.map (some b)) (kv a) c).run P w= .ok (match asc L a with | none=>if c then .tuple #[z,.bool false] else z | some v=>if c then .tuple #[vv v,.bool true] else vv v) w:=by
 obtain ⟨es,clock,hb,hs,he,hok⟩:=h;obtain ⟨l,hl⟩:=M.key a ha;rcases MapIs.find (w:=w) M hs he hok ha with ⟨h1,_,h2⟩ | ⟨j,x,v,h1,h2,h3,h4,h5⟩
 · rw [asc_none h2];simp [Instr.lookup,run_underlying ht,MapKept.run_getObj_map hb,M.K.check w _ hl,h1,hz,Result.andThen]
 have ea:asc L a=some v:=asc_at (keys_nodup hs he) h4;simp only [ea];simp [Instr.lookup,run_underlying ht,MapKept.run_getObj_map hb,M.K.check w _ hl,h1,h5,Result.andThen]
theorem setL_enc {es:Array MapEntry} {clock:Nat} (hs:Stamped es clock) {L:List (α×β)} (he:es.toList.map (fun e=>(e.key,e.val))=L.map (fun c=>(kv c.1,vv c.2))) {j:Nat} {a:α} {v0:β} (h4:L[j]? =some (a,v0)) (v:β):
 (es.modify j (fun e'=>{ e' with key:=kv a,val:=vv v })).toList.map (fun e=>(e.key,e.val))=(setL L a v).map (fun c=>(kv c.1,vv c.2)):=by
 rw [show setL L a v=L.set j (a,v) from setL_at (keys_nodup hs he) h4 v,Array.toList_modify];have hj:j<L.length:=(List.getElem?_eq_some_iff.1 h4).1;rw [List.map_set, <- he];apply List.ext_getElem?
 intro i;rw [zE,List.getElem?_modify,List.getElem?_set];have hl:(es.toList.map (fun e=>(e.key,e.val))).length=L.length:=by rw [he];simp
 by_cases hij:j=i
 · subst hij;rw [if_pos rfl,if_pos (by rw [hl];exact hj)];have hj':j<es.toList.length:=by rw [List.length_map] at hl;rw [hl];exact hj
   rw [zD hj'];simp
 rw [if_neg hij,zE];cases es.toList[i]? <;>simp [hij]
end
theorem nodup_idx {γ:Type} {l:List γ} (hn:l.Nodup) {i j:Nat} (hi:i<l.length) (hj:j<l.length) (h:l[i]? =l[j]?):i=j:=by
 rw [zD hi,zD hj] at h;injection h with h;rcases Nat.lt_trichotomy i j with h1 | h1 | h1
 · exact absurd h (List.pairwise_iff_getElem.1 hn i j hi hj h1)
 · exact h1
 exact absurd h.symm (List.pairwise_iff_getElem.1 hn j i hj hi h1)
section
variable {α β:Type}
variable {P:Program} {k:TypeId} {ok:α->Prop} {kv:α->Value} {vv:β->Value}
def RIs (ok:α->Prop) (kv:α->Value) (vv:β->Value) (w:World) (b r:Nat) (L done:List (α×β)) (cnt:Nat):Prop:=
 ∃ (es:Array MapEntry) (clock since:Nat) (seen:Array Nat) (c0:Nat) (is:List Nat),w.heap[b]? =some (.map es clock)/\Stamped es clock/\es.toList.map (fun e=>(e.key,e.val))=L.map (fun c=>(kv c.1,vv c.2))/\(∀ c∈L,ok c.1)/\
  w.heap[r]? =some (.mapIter (some b) since seen c0)/\(∀ x∈es.toList,x.born<since)/\since<=c0/\since<=clock/\(leftOf es seen).size=cnt/\
  is.Nodup/\is.map (fun i=>es.toList[i]?.map (·.born))=seen.toList.map some/\is.map (fun i=>L[i]?)=done.map some
theorem RIs.map {w:World} {b r:Nat} {L done:List (α×β)} {cnt:Nat} (h:RIs ok kv vv w b r L done cnt):MapIs ok kv vv w b L:=by
 obtain ⟨es,clock,since,seen,c0,is,h1,h2,h3,h4,_⟩:=h;exact ⟨es,clock,h1,h2,h3,h4⟩
theorem RIs.lt {w:World} {b r:Nat} {L done:List (α×β)} {cnt:Nat} (h:RIs ok kv vv w b r L done cnt):r<w.heap.size:=by
 obtain ⟨es,clock,since,seen,c0,is,_,_,_,_,h5,_⟩:=h;exact (Array.getElem?_eq_some_iff.1 h5).1
theorem RIs.ne {w:World} {b r:Nat} {L done:List (α×β)} {cnt:Nat} (h:RIs ok kv vv w b r L done cnt):r≠b:=by
 obtain ⟨es,clock,since,seen,c0,is,h1,_,_,_,h5,_⟩:=h;rintro rfl;rw [h1] at h5;cases h5
theorem RIs.left_eq {w:World} {b r:Nat} {L done:List (α×β)} {cnt:Nat} (h:RIs ok kv vv w b r L done cnt):w.rangeLeft b r=cnt:=by
 obtain ⟨es,clock,since,seen,c0,is,h1,_,_,_,h5,_,_,_,h9,_⟩:=h;simp only [World.rangeLeft,h1,h5];exact h9
theorem RIs.kept {w w':World} {b r:Nat} {L done:List (α×β)} {cnt:Nat} {row:Option Nat} (h:RIs ok kv vv w b r L done cnt) (hg:w.grownBy w' row) (hb:some b≠row) (hr:some r≠row):RIs ok kv vv w' b r L done cnt:=by
 have l1:=h.map.lt;have l2:=h.lt;obtain ⟨es,clock,since,seen,c0,is,h1,h2,h3,h4,h5,h6⟩:=h;exact ⟨es,clock,since,seen,c0,is,(hg.block b l1 hb).trans h1,h2,h3,h4,(hg.block r l2 hr).trans h5,h6⟩
theorem RIs.alloc {w:World} {b r:Nat} {L done:List (α×β)} {cnt:Nat} (h:RIs ok kv vv w b r L done cnt) (o:Obj):RIs ok kv vv (w.alloc o) b r L done cnt:=h.kept (World.grownBy_alloc w o none) (by simp) (by simp)
theorem RIs.on {w w':World} {b r:Nat} {L done:List (α×β)} {cnt:Nat} (h:RIs ok kv vv w b r L done cnt) (hb:Below w.heap.size w w'):RIs ok kv vv w' b r L done cnt:=h.kept (only_of_below hb none) (by simp) (by simp)
theorem MapIs.range {t e:TypeId} (ht:P.underlying t=some (.map k e)) {w:World} {b:Nat} {L:List (α×β)} (h:MapIs ok kv vv w b L):
 ∃ w',(Instr.range t (.map (some b))).run P w= .ok (.pointer (some ⟨w.heap.size,0,none⟩)) w'/\RIs ok kv vv w' b w.heap.size L [] L.length/\w.grownBy w' none/\w'.heap.size=w.heap.size+1:=by
 have hlt:=h.lt;obtain ⟨es,clock,hb,hs,he,hok⟩:=h
 have hl:es.size=L.length:=by
  have:=congrArg List.length he;simpa using this
 refine ⟨_,run_range_map w t k e b es clock ht hb,⟨es,clock,clock, #[],clock,[],((MapKept.heap_alloc w _).2 b hlt).trans hb,hs,he,hok,(MapKept.heap_alloc w _).1,hs.1,Nat.le_refl _,Nat.le_refl _,?_,by simp,rfl,rfl⟩,World.grownBy_alloc w _ none,by simp⟩;have:leftOf es #[]=es:=by unfold leftOf;rw [Array.filter_eq_self];intro x _;simp
 rw [this,hl]
theorem RIs.next {w:World} {b r:Nat} {L done:List (α×β)} {cnt:Nat} (h:RIs ok kv vv w b r L done cnt) (ty:TypeId):
 (done.Perm L/\(Instr.next (.pointer (some ⟨r,0,none⟩)) false ty).run P w= .ok (.tuple #[.bool false]) w)∨
 ∃ c w' cnt',c∈L/\(Instr.next (.pointer (some ⟨r,0,none⟩)) false ty).run P w= .ok (.tuple #[.bool true,kv c.1,vv c.2]) w'/\RIs ok kv vv w' b r L (done++[c]) cnt'/\cnt'<cnt/\w.grownBy w' (some r)/\w'.heap.size=w.heap.size/\
  (Instr.entry (.pointer (some ⟨r,0,none⟩))).run P w'= .ok (.tuple #[kv c.1,vv c.2]) w':=by
 have hne:=h.ne;obtain ⟨es,clock,since,seen,c0,is,hb,hs,he,hok,hr,hold,hsc,hsk,rfl,hnd,hseen,hdone⟩:=h
 have hl:es.toList.length=L.length:=by
  have:=congrArg List.length he;simpa using this
 rcases run_next_at (P:=P) w ty r b since c0 seen es clock hr hb hold hsc with ⟨h0,hrun⟩ | ⟨e,hin,w1,hal,hrun⟩
 · refine Or.inl ⟨?_,hrun⟩;have hall:=all_seen es seen h0
   have hmem:∀ i,i∈is↔i∈List.range L.length:=by
    intro i;rw [List.mem_range];constructor
    · intro hi;have:L[i]? ∈is.map (fun i=>L[i]?):=List.mem_map.2 ⟨i,hi,rfl⟩;rw [hdone] at this;obtain ⟨c,_,hc⟩:=List.mem_map.1 this;exact (List.getElem?_eq_some_iff.1 hc.symm).1
    intro hi;have hi':i<es.toList.length:=by omega
    have h1:=hall es.toList[i] (List.getElem_mem hi');have h2:some (es.toList[i]).born∈seen.toList.map some:=List.mem_map.2 ⟨_,by simpa using h1,rfl⟩;rw [<- hseen] at h2;obtain ⟨i',hi'',e2⟩:=List.mem_map.1 h2;obtain ⟨x,hx,hxb⟩:=Option.map_eq_some_iff.1 e2;have e3:=born_inj hs.2.1 (zC hx) (List.getElem_mem hi') hxb;have e4:es.toList[i']? =es.toList[i]? :=by rw [hx,e3,zD hi']
    have e5:i'=i:=by
     have hn:es.toList.Nodup:=List.Pairwise.of_map (fun x:MapEntry=>x.born) (fun a b (hne:a.born≠b.born) e=>hne (by rw [e])) hs.2.1;exact nodup_idx hn (List.getElem?_eq_some_iff.1 hx).1 hi' e4
    exact e5 ▸ hi''
   have hp:=((List.perm_ext_iff_of_nodup hnd List.nodup_range).2 hmem).map (fun i=>L[i]?)
   have e1:(List.range L.length).map (fun i=>L[i]?)=L.map some:=by
    apply List.ext_getElem?
    intro j;by_cases hj:j<L.length
    · simp [hj]
    simp [Nat.not_lt.1 hj]
   rw [hdone,e1] at hp;have:=hp.filterMap id;simpa using this
 right
 obtain ⟨hem,hes⟩:=mem_left hin;obtain ⟨i,hi⟩:=List.mem_iff_getElem?.1 hem;obtain ⟨c,hc,hk,hv⟩:=at_list he hi;have hr1:w1.heap[r]? =some (.mapIter (some b) since seen c0):=by rcases hal with rfl | rfl<;>exact hr
 have hb1:w1.heap[b]? =some (.map es clock):=by rcases hal with rfl | rfl<;>exact hb
 have hset:=heap_set (o':=.mapIter (some b) since (seen.push e.born) clock) hr1;have hb':(setBlock w1 r (.mapIter (some b) since (seen.push e.born) clock)).heap[b]? =some (.map es clock):=(hset.2 b (fun e1=>hne e1.symm)).trans hb1
 have hni:i ∉ is:=by
  intro hmem;have:es.toList[i]?.map (·.born)∈is.map (fun i=>es.toList[i]?.map (·.born)):=List.mem_map.2 ⟨i,hmem,rfl⟩;rw [hseen,hi] at this;obtain ⟨y,hy,e⟩:=List.mem_map.1 this;injection e with e;subst e;have:seen.contains _=true:=Array.contains_iff_mem.2 (Array.mem_toList_iff.1 hy);rw [hes] at this;cases this
 refine ⟨c,_,_,zC hc,by rw [hrun,hk,hv],⟨es,clock,since,seen.push e.born,clock,is++[i],hb',hs,he,hok,hset.1,hold,hsk,hsk,rfl,?_,?_,?_⟩,left_shrinks es seen e hin,?_,?_,?_⟩
 · refine List.nodup_append.2 ⟨hnd,by simp,fun a ha d hd e=>?_⟩;simp at hd;subst hd e;exact hni ha
 · rw [zB,hseen,Array.toList_push,zB,List.map_singleton,List.map_singleton,hi];rfl
 · rw [zB,hdone,zB];simp [hc]
 · rcases hal with rfl | rfl<;>exact ⟨rfl,rfl,rfl,by simp [setBlock],fun i _ hi=>hset.2 i (fun e1=>hi (by rw [e1]))⟩
 · rcases hal with rfl | rfl<;>simp [setBlock]
 rw [<- hk, <- hv];exact run_entry_at _ r b since seen es clock e hset.1 hb' hem hs.2.1
variable (w:World) {ops:Array Oper} {rest:List Oper} {o:Oper} {a:Act} {Q:Exit->Act->World->Prop}
theorem wpList_range_is (hg:o.guard=none) (m:Operand) (t:TypeId) (hop:o.op=Op.range t m) (k e:TypeId) (ht:P.underlying t=some (.map k e)) (b:Nat) (L:List (α×β))
 (hm:a.eval m= .map (some b)) (hown:MapIs ok kv vv w b L)
 (hK:∀ w',RIs ok kv vv w' b w.heap.size L [] L.length->w.grownBy w' none->w'.heap.size=w.heap.size+1->wpList P ops Q rest (a.put o.dst (.pointer (some ⟨w.heap.size,0,none⟩))) w'):
 wpList P ops Q (o::rest) a w:=by
 refine wpList_plain hg fun K' hK'=>?_;obtain ⟨w',hrun,r1,r2,r3⟩:=hown.range ht;unfold Oper.wp;simp [execOp,hop,hm,hrun,Result.andThen];exact hK' _ _ (hK w' r1 r2 r3)
theorem wpList_next_is (hg:o.guard=none) (it:Operand) (hop:o.op=Op.next it false) (b r:Nat) (L done:List (α×β)) (cnt:Nat)
 (hit:a.eval it= .pointer (some ⟨r,0,none⟩)) (h:RIs ok kv vv w b r L done cnt)
 (hDone:done.Perm L->wpList P ops Q rest (a.put o.dst (.tuple #[.bool false])) w)
 (hMore:∀ (c:α×β) (w':World) (cnt':Nat),c∈L->RIs ok kv vv w' b r L (done++[c]) cnt'->cnt'<cnt->w.grownBy w' (some r)->w'.heap.size=w.heap.size->
   (Instr.entry (.pointer (some ⟨r,0,none⟩))).run P w'= .ok (.tuple #[kv c.1,vv c.2]) w'->wpList P ops Q rest (a.put o.dst (.tuple #[.bool true,kv c.1,vv c.2])) w'):
 wpList P ops Q (o::rest) a w:=by
 refine wpList_plain hg fun K' hK'=>?_;unfold Oper.wp;rcases h.next (P:=P) o.type with ⟨hp,hrun⟩ | ⟨c,w',cnt',hc,hrun,h1,h2,h3,h4,h5⟩
 · simp [execOp,hop,hit,hrun,Result.andThen];exact hK' _ _ (hDone hp)
 simp [execOp,hop,hit,hrun,Result.andThen];exact hK' _ _ (hMore c w' cnt' hc h1 h2 h3 h4 h5)
end
end
section
open Go.RowKit
end
end Go.Proofs.YteabgcollokgjaaGreatDoor
