/- Q -/
import Derived.Test.YteabgcollokgjaaGreatDoorQP12
set_option linter.unusedSimpArgs false
set_option linter.unusedVariables false
set_option maxRecDepth 100000
set_option maxHeartbeats 32000000
open Go.Lib (hid)
open List renaming getD_eq_getElem?_getD → zA
open Nat renaming le_refl → zB
namespace Go.Proofs.YteabgcollokgjaaGreatDoor
section
open Go.RowKit Go.MapKept Go.ChangeMaps
structure WF (x:SR):Prop where
 live:x.dead=false
 up:x.s.dn=false
 name:x.nm.size<=1000
 few:x.C.length<=4096
 ids:∀ c∈x.C,1<=c.1.2/\c.1.2<=4194304
 offs:∀ i o,(i,Pl.at o)∈x.C->o<=4194304
 pends:∀ i d bs,(i,Pl.pend d bs)∈x.C->bs.length<=8192
theorem look_at {w:World} {cm:Nat} {C:Chs} (h:MapIs okID vID vPl w cm C) {i:ID} (hi:okID i) {pl:Pl} (ha:asc C i=some pl) (W:World) (hW:Below w.heap.size w W):(Instr.lookup 128 (.map (some cm)) (.agg #[.int .u64 i.1,.int .i64 i.2]) true).run Tryz.prog W= .ok (.tuple #[.agg #[.slice pl.A pl.len pl.cap,.int .i64 pl.f,.int .i64 pl.o],.bool true]) W:=by
 have:=MapIs.look mkI Tryz.underlying128 (zero138 W) (h.on hW) hi true;rw [ha] at this;exact this
theorem look_no {w:World} {cm:Nat} {C:Chs} (h:MapIs okID vID vPl w cm C) {i:ID} (hi:okID i) (ha:asc C i=none) (W:World) (hW:Below w.heap.size w W):(Instr.lookup 128 (.map (some cm)) (.agg #[.int .u64 i.1,.int .i64 i.2]) true).run Tryz.prog W= .ok (.tuple #[.agg #[.slice none 0 0,.int .i64 0,.int .i64 0],.bool false]) W:=by
 have:=MapIs.look mkI Tryz.underlying128 (zero138 W) (h.on hW) hi true;rw [ha] at this;exact this
def GetP (E:Int) (bs:List UInt8) (w:World) (e:Ending) (w':World):Prop:=
 ∃ d,e= .returned (.tuple #[.slice d.A d.len d.cap,.int .i64 E])/\RB w' d bs/\(∀ g,blk d=some g->w.heap.size<=g)/\Below w.heap.size w w'
theorem rb_nil (w:World):RB w ⟨none,0,0⟩ []:=⟨rfl,zB _,fun _=>rfl,fun ad e=>by cases e⟩
section
variable {b:Nat} {w:World} {x:SR} {l:List Ob}
theorem ready_live (h:Sto b w x l) (hl:x.dead=false) (hd:x.s.dn=false):Calls Tryz.prog 84 #[vPtr x.ps] w (fun e w'=>e= .returned (.int .i64 0)/\w=w'):=by
 have k0:w.cell? ⟨x.ps,0,none⟩=some (vPtr x.p):=h.scell.cell 0;have k6:w.cell? ⟨x.ps,6,none⟩=some (.bool false):=by rw [<- hl];exact h.scell.cell 6
 have H:=hid h.sdv;have Hd:=hid hd;clear h hl hd;go_enter Tryz.func84,Tryz.ntmps84;go_wp2_with (go_at_call 82;refine (Down_any x.p x.r x.s _ H.out).mono ?_;rw [Hd.out];rintro e w1 ⟨rfl,rfl⟩)
 go_ret;exact ⟨rfl,rfl⟩
theorem Get_no (h:Sto b w x l) (hf:WF x) (i:ID) (hi:okID i) (ha:asc x.C i=none):Calls Tryz.prog 30 #[vPtr x.ps,.agg #[.int .u64 i.1,.int .i64 i.2]] w (GetP 333 [] w):=by
 have B0:=hid (bel1q w (.cells #[.int .u64 i.1,.int .i64 i.2] 31));have H0:=hid (h.on B0.out);have hps:=h.scell.lt;have hcx:(w.alloc (.cells #[.int .u64 i.1,.int .i64 i.2] 31)).cell? ⟨x.ps,2,none⟩=some (.map (some x.cm)):=H0.out.scell.cell 2;have hl1:=look_no h.sch hi ha (w.alloc (.cells #[.int .u64 i.1,.int .i64 i.2] 31)).drew ((Below.refl _ w).alloc (zB _) _).drew;have hl2:=look_no h.sch hi ha ((w.alloc (.cells #[.int .u64 i.1,.int .i64 i.2] 31)).alloc (.cells #[.slice none 0 0,.int .i64 0,.int .i64 0] 138)).drew (((Below.refl _ w).alloc (zB _) _).alloc (by simp) _).drew;have HRD:=hid (ready_live H0.out hf.live hf.up);clear h hf ha;go_enter Tryz.func30,Tryz.ntmps30;go_wp2_with (go_at_call 84;refine HRD.out.mono ?_;rintro e w1 ⟨rfl,rfl⟩)
 go_region
 all_goals (
  go_wp2_with fail
  go_ret2;exact ⟨⟨none,0,0⟩,rfl,rb_nil _,(fun g hg=>by cases hg),((B0.out.alloc (by simp) _).drew)⟩)
def getE (r:Option (List UInt8)):Int:=if r.isSome then 0 else 334
theorem Get_at (h:Sto b w x l) (hf:WF x) (i:ID) (hi:okID i) (pl:Pl) (ha:asc x.C i=some pl):Calls Tryz.prog 30 #[vPtr x.ps,.agg #[.int .u64 i.1,.int .i64 i.2]] w (GetP (getE (readC x.s x.nm i pl)) ((readC x.s x.nm i pl).getD []) w):=by
 have hmem:=mem_of_asc ha;have B0:=hid (bel1q w (.cells #[.int .u64 i.1,.int .i64 i.2] 31));have H0:=hid (h.on B0.out);have hps:=h.scell.lt;have hcx:(w.alloc (.cells #[.int .u64 i.1,.int .i64 i.2] 31)).cell? ⟨x.ps,2,none⟩=some (.map (some x.cm)):=H0.out.scell.cell 2;have hl1:=look_at h.sch hi ha (w.alloc (.cells #[.int .u64 i.1,.int .i64 i.2] 31)).drew ((Below.refl _ w).alloc (zB _) _).drew;have hl2:=look_at h.sch hi ha ((w.alloc (.cells #[.int .u64 i.1,.int .i64 i.2] 31)).alloc (.cells #[.slice none 0 0,.int .i64 0,.int .i64 0] 138)).drew (((Below.refl _ w).alloc (zB _) _).alloc (by simp) _).drew;have HRD:=hid (ready_live H0.out hf.live hf.up);have B1:Hid (Below w.heap.size w ((w.alloc (.cells #[.int .u64 i.1,.int .i64 i.2] 31)).alloc (.cells #[.slice pl.A pl.len pl.cap,.int .i64 pl.f,.int .i64 pl.o] 138)).drew):=(B0.out.alloc (by simp) _).drew;have HRE:=hid (read_any (h.on B1.out) i pl hmem (hf.ids _ hmem).1 (by have:=(hf.ids _ hmem).2;simp only at this;omega) hf.name (fun o e=>hf.offs i o (e ▸ hmem)) (fun d bs e=>by have:=hf.pends i d bs (e ▸ hmem);omega));obtain ⟨r,HR⟩:∃ r,Hid (readC x.s x.nm i pl=r):=⟨_,rfl⟩;rw [HR.out] at HRE |-; clear h hf ha hmem;go_enter Tryz.func30,Tryz.ntmps30;go_wp2_with (go_at_call 84;refine HRD.out.mono ?_;rintro e w1 ⟨rfl,rfl⟩)
 go_region
 all_goals (
  go_wp2_with fail
  refine HRE.out.mono ?_;rintro e w2 ⟨A,c,cs,rfl,h1,h2,h3,h4⟩;have H1:=hid h1;have H2:=hid h2;have B2:Hid (Below w.heap.size w w2):=B1.out.trans (h4.mono B1.out.size);clear h1 h2 h4 hl1 hl2;cases r with
  | none=>
   simp only [Option.isSome_none];go_wp2_with fail
   go_ret2;exact ⟨⟨none,0,0⟩,rfl,rb_nil _,(fun g hg=>by cases hg),B2.out⟩
  | some bs=>
   simp only [Option.isSome_some];obtain rfl:cs=bs:=H1.out bs rfl;go_wp2_with fail
   refine (CloneB_any A c cs w2 H2.out.sb (by omega)).mono ?_;rintro e w3 ⟨d,rfl,r1,r2,r3⟩;have R1:=hid r1;have R2:=hid r2;have R3:=hid r3;clear r1 r2 r3;unfold vB;go_wp2_with fail
   go_ret2;exact ⟨d,rfl,R1.out,fun g hg=>Nat.le_trans B2.out.size (R2.out g hg),B2.out.trans (R3.out.mono B2.out.size)⟩)
end
def ints (bs:List UInt8):List Int:=bs.map (fun b=>((b.toNat:Nat):Int))
theorem ints_len (bs:List UInt8):(ints bs).length=bs.length:=by simp [ints]
theorem bytes_ints (bs:List UInt8):Lib.bytesOf (ints bs)=bs:=by
 unfold Lib.bytesOf ints;rw [List.map_map];conv=>rhs;rw [<- List.map_id bs]
 apply List.map_congr_left
 intro b _;simp
theorem RS.bytesIn {w:World} {A:Option Addr} {bs:List UInt8} (h:RS w A bs):Lib.BytesIn w A bs.length (ints bs):=by
 intro hp;cases A with
 | none=>have:=h.1 rfl;omega
 | some ad=>
  obtain ⟨g,o,rfl,hc⟩:=h.2 ad rfl;refine ⟨g,o,rfl,fun i hi=>?_⟩;rw [hc i hi];unfold encU ints;rw [zA,zA,List.getElem?_map,List.getElem?_eq_getElem hi];rfl
theorem equal_rs {w:World} {A B:Option Addr} {a b:List UInt8} (ha:RS w A a) (hb:RS w B b) (c d:Nat):Calls Tryz.prog 86 #[.slice A a.length c,.slice B b.length d] w (fun e w'=>e= .returned (.bool (decide (a=b)))/\w=w'):=
 (Tryz.bytes_Equal_all A B a.length c b.length d (ints a) (ints b) w (ints_len a) (ints_len b) ha.bytesIn hb.bytesIn).mono (by
   rintro e w' ⟨rfl,rfl⟩;refine ⟨?_,rfl⟩;rw [bytes_ints,bytes_ints];congr 2
   by_cases h:a=b
   · simp [h]
   simp [h])
def PutSame (i:ID) (E:Int) (w:World) (e:Ending) (w':World):Prop:=e= .returned (.tuple #[.agg #[.int .u64 i.1,.int .i64 i.2],.int .i64 E])/\Below w.heap.size w w'
section
variable {b:Nat} {w:World} {x:SR} {l:List Ob}
theorem Put_there (h:Sto b w x l) (hf:WF x) (A:Option Addr) (c:Nat) (bs:List UInt8) (hs:RS w A bs) (h1:1<=bs.length) (h2:bs.length<=8192) (pl:Pl) (ha:asc x.C (fpOf bs)=some pl) (old:List UInt8) (hr:readC x.s x.nm (fpOf bs) pl=some old):
 Calls Tryz.prog 23 #[vPtr x.ps,.slice A bs.length c] w (PutSame (if old=bs then fpOf bs else (0,0)) (if old=bs then 0 else 331) w):=by
 have hmem:=mem_of_asc ha;have hi:okID (fpOf bs):=okID_fp bs (by omega);have B0:=hid (bel1q w (.cells #[.int .u64 0,.int .i64 0] 31));have H0:=hid (h.on B0.out);have S0:=hid (hs.on B0.out);have HRD:=hid (ready_live H0.out hf.live hf.up);have HOF:=hid (Of_any A c bs _ S0.out (by omega));have I0:Hid (IsB (w.alloc (.cells #[.int .u64 0,.int .i64 0] 31)) w.heap.size 31 #[.int .u64 0,.int .i64 0]):=IsB.new _ _ _;obtain ⟨i,HI⟩:∃ i,Hid (fpOf bs=i):=⟨_,rfl⟩;rw [HI.out] at HOF hmem hi ha hr |-; obtain ⟨ri,Hri⟩:∃ r:ID,Hid ((if old=bs then i else (0,0))=r):=⟨_,rfl⟩;obtain ⟨re,Hre⟩:∃ r:Int,Hid ((if old=bs then (0:Int) else 331)=r):=⟨_,rfl⟩;rw [Hri.out,Hre.out];have HF:=hid hf;have HA:=hid ha;have HR:=hid hr;clear h hf ha hr;go_enter Tryz.func23,Tryz.ntmps23;go_wp2_with (go_at_call 84;refine HRD.out.mono ?_;rintro e w1 ⟨rfl,rfl⟩)
 refine HOF.out.mono ?_;rintro e w2 ⟨rfl,hb⟩;have B2:Hid (Below w.heap.size w w2):=B0.out.trans (hb.mono B0.out.size);have I2:=hid (I0.out.on hb);have H2:=hid (H0.out.on hb);have S2:=hid (S0.out.on hb);have lt2:w.heap.size<w2.heap.size:=I2.out.lt;clear hb;have hps:x.ps<w2.heap.size:=H2.out.scell.lt;have BA:=hid (bel1q w2 (.cells #[.int .u64 i.1,.int .i64 i.2] 31));have hcx:(w2.alloc (.cells #[.int .u64 i.1,.int .i64 i.2] 31)).cell? ⟨x.ps,2,none⟩=some (.map (some x.cm)):=(H2.out.on BA.out).scell.cell 2;have hl1:=look_at H2.out.sch hi HA.out (w2.alloc (.cells #[.int .u64 i.1,.int .i64 i.2] 31)).drew ((Below.refl _ w2).alloc (zB _) _).drew;have hl2:=look_at H2.out.sch hi HA.out ((w2.alloc (.cells #[.int .u64 i.1,.int .i64 i.2] 31)).alloc (.cells #[.slice none 0 0,.int .i64 0,.int .i64 0] 138)).drew (((Below.refl _ w2).alloc (zB _) _).alloc (by simp) _).drew;have B3:Hid (Below w2.heap.size w2 ((w2.alloc (.cells #[.int .u64 i.1,.int .i64 i.2] 31)).alloc (.cells #[.slice pl.A pl.len pl.cap,.int .i64 pl.f,.int .i64 pl.o] 138)).drew):=(BA.out.alloc (by simp) _).drew;have hf:=HF.out;have HRE:=hid (read_any (H2.out.on B3.out) i pl hmem (hf.ids _ hmem).1 (by have:=(hf.ids _ hmem).2;simp only at this;omega) hf.name (fun o e=>hf.offs i o (e ▸ hmem)) (fun d bs e=>by have:=hf.pends i d bs (e ▸ hmem);omega));rw [HR.out] at HRE
 have J3:Hid (IsB ((w2.alloc (.cells #[.int .u64 i.1,.int .i64 i.2] 31)).alloc (.cells #[.slice pl.A pl.len pl.cap,.int .i64 pl.f,.int .i64 pl.o] 138)).drew w2.heap.size 31 #[.int .u64 i.1,.int .i64 i.2]):=(IsB.new _ _ _).on ((bel1q _ _).drew);clear hf;go_wp2_with fail
 go_region
 all_goals (
  go_wp2_with fail
  refine HRE.out.mono ?_;rintro e w3 ⟨A',c',cs,rfl,h1',h2',h3',h4'⟩;have K4:=hid (I2.out.on (B3.out.trans (h4'.mono B3.out.size)));have K7:=hid (J3.out.on h4');have B5:Hid (Below w.heap.size w w3):=B2.out.trans ((B3.out.trans (h4'.mono B3.out.size)).mono B2.out.size);have lt3:w2.heap.size<w3.heap.size:=K7.out.lt;have S3:=hid ((S2.out.on (B3.out)).on h4');obtain rfl:cs=old:=h1' old rfl;have HE:=hid (equal_rs h2' S3.out c' c);clear h1' h2' h4' hl1 hl2;have k40:=K4.out.cell 0;have k41:=K4.out.cell 1;have f40:=K4.out.frozen 0;have f41:=K4.out.frozen 1;have k70:=K7.out.cell 0;have k71:=K7.out.cell 1;by_cases he:cs=bs
  · rw [if_pos he] at Hri Hre;cases Hri.out
    cases Hre.out
    have Hd:Hid (decide (cs=bs)=true):=decide_eq_true he;rw [Hd.out] at HE;clear he;simp only [Option.isSome_some];go_wp2_with (go_at_call 86;refine HE.out.mono ?_;rintro e w4 ⟨rfl,rfl⟩)
    have IW:IsB ((w3.setCell ⟨w.heap.size,0,none⟩ (.int .u64 i.1)).setCell ⟨w.heap.size,1,none⟩ (.int .i64 i.2)) w.heap.size 31 #[.int .u64 i.1,.int .i64 i.2]:=(K4.out.set_ 0 _).set_ 1 _;have BW:Below w.heap.size w ((w3.setCell ⟨w.heap.size,0,none⟩ (.int .u64 i.1)).setCell ⟨w.heap.size,1,none⟩ (.int .i64 i.2)):=(B5.out.setCell (zB _) _).setCell (zB _) _;have c0:=IW.cell 0;have c1:=IW.cell 1;generalize ((w3.setCell ⟨w.heap.size,0,none⟩ (.int .u64 i.1)).setCell ⟨w.heap.size,1,none⟩ (.int .i64 i.2))=W at IW BW c0 c1 |-; refine bodyPost_ret (v:=.tuple #[.agg #[.int .u64 i.1,.int .i64 i.2],.int .i64 0]) ?_ rfl ⟨rfl,BW⟩;simp [results,Tryz.results23,go_sem,c0,c1]
  rw [if_neg he] at Hri Hre;cases Hri.out
  cases Hre.out
  have Hd:Hid (decide (cs=bs)=false):=decide_eq_false he;rw [Hd.out] at HE;clear he;simp only [Option.isSome_some];go_wp2_with (go_at_call 86;refine HE.out.mono ?_;rintro e w4 ⟨rfl,rfl⟩)
  have IW:IsB ((w3.setCell ⟨w.heap.size,0,none⟩ (.int .u64 0)).setCell ⟨w.heap.size,1,none⟩ (.int .i64 0)) w.heap.size 31 #[.int .u64 0,.int .i64 0]:=(K4.out.set_ 0 _).set_ 1 _;have BW:Below w.heap.size w ((w3.setCell ⟨w.heap.size,0,none⟩ (.int .u64 0)).setCell ⟨w.heap.size,1,none⟩ (.int .i64 0)):=(B5.out.setCell (zB _) _).setCell (zB _) _;have c0:=IW.cell 0;have c1:=IW.cell 1;generalize ((w3.setCell ⟨w.heap.size,0,none⟩ (.int .u64 0)).setCell ⟨w.heap.size,1,none⟩ (.int .i64 0))=W at IW BW c0 c1 |-; refine bodyPost_ret (v:=.tuple #[.agg #[.int .u64 0,.int .i64 0],.int .i64 331]) ?_ rfl ⟨rfl,BW⟩;simp [results,Tryz.results23,go_sem,c0,c1])
end
end
section
open Go.RowKit
section
variable {P:Program} {ops:Array Oper} {md:Region.Mode} {S:World->Prop} {Q:Exit->Act->World->Prop}
def headH (P:Program) (md:Region.Mode) (ops:Array Oper) (Q:Exit->Act->World->Prop) (S:World->Prop) (n:Nat) (L:Array Bool->Act->World->Prop):Nat->Array Bool->Act->World->Prop
 | 0,listed,a,w=>L listed a w
 | f+1,listed,a,w=>Region.ready md ops listed≠[]/\∀ i∈Region.ready md ops listed,i<n/\wpOp P ops Q i (fun a' w'=>S w'/\headH P md ops Q S n L f (listed.setIfInBounds i true) a' w') a w
theorem any_of_headH {n g:Nat} {L:Array Bool->Act->World->Prop} (hL:∀ listed a w,L listed a w->wpAny P md ops Q g listed a w):
 ∀ (f:Nat) (listed:Array Bool) (a:Act) (w:World),headH P md ops Q S n L f listed a w->wpAny P md ops Q (f+g) listed a w
 | 0,listed,a,w,h=>by rw [Nat.zero_add];exact hL _ _ _ h
 | f+1,listed,a,w,h=>by
  rw [show f+1+g=(f+g)+1 by omega];exact ⟨fun h0=>absurd h0 h.1,fun i hi=>wpOp_mono (fun a' w' h'=>any_of_headH hL f _ a' w' h'.2) (h.2 i hi).2⟩
theorem headH_first {n i:Nat} {oi:Oper} {v:Value} {L:Array Bool->Act->World->Prop} (hi:ops[i]? =some oi) (hsel:∀ (j:Nat) (o:Oper) cs b,ops[j]? =some o->o.op≠ .select cs b)
 (hQ:∀ c a d v w,Q (.panic c) (a.put d v) w->Q (.panic c) a w)
 (hs:Region.sinkB md ops n=true) (hc:Region.chainB md ops n=true) (hn:n<ops.size) (hin:i<n)
 (hdone:∀ listed a w,L listed a w->∀ j∈Region.ready md ops listed,n<=j):
 ∀ (f:Nat) (listed:Array Bool) (a:Act) (w:World),HeadInv md ops n listed->
  (∀ j oj,ops[j]? =some oj->j≠i->listed.getD j true=false->(∀ e∈oj.after,Region.binds md e=true->e.on≠i)->oi.apart ops oj=true)->
  i∈Region.ready md ops listed->YieldsIf P ops S oi v a->S w->
  headH P md ops Q S n L f (listed.setIfInBounds i true) (a.put oi.dst v) w->headH P md ops Q S n L (f+1) listed a w:=by
 have early:∀ (listed:Array Bool),HeadInv md ops n listed->i∈Region.ready md ops listed->∀ j∈Region.ready md ops listed,j<n:=by
  intro listed inv hr j hj;rcases Nat.lt_or_ge j n with h | h
  · exact h
  exact absurd hj (tail_waits hs hc hn inv _ i rfl hin (mem_ready.1 hr).1 j h)
 intro f;induction f with
 | zero=>
  intro listed a w inv _ hr hy hS H;refine ⟨fun h=>(by rw [h] at hr;cases hr),fun j hj=>⟨early listed inv hr j hj,?_⟩⟩;by_cases hji:j=i
  · subst hji;exact hy.wpOp hi hS ⟨hS,H⟩
  have h1:=hdone _ _ _ H j (ready_mono hj hji);have h2:=early listed inv hr j hj;omega
 | succ f ih=>
  intro listed a w inv hfree hr hy hS H;have hun:=(mem_ready.1 hr).1;refine ⟨fun h=>(by rw [h] at hr;cases hr),fun j hj=>⟨early listed inv hr j hj,?_⟩⟩;by_cases hji:j=i
  · subst hji;exact hy.wpOp hi hS ⟨hS,H⟩
  have hjn:=early listed inv hr j hj;have h1:=(H.2 j (ready_mono hj hji)).2;obtain ⟨hjun,oj,hoj,hall⟩:=mem_ready.1 hj
  have hnot:∀ e∈oj.after,Region.binds md e=true->e.on≠i:=fun e he hb heq=>by
   have h1:=hall e he hb;rw [heq,getD_both hun] at h1;cases h1
  have h2:=wpOp_putIf hoj (hfree j oj hoj hji hjun hnot) (fun cs b=>hsel i oi cs b hi) (fun cs b=>hsel j oj cs b hoj) (fun c a w h=>hQ c a _ _ w h) hy h1
  have hfree':∀ k ok,ops[k]? =some ok->k≠i->(listed.setIfInBounds j true).getD k true=false->
   (∀ e∈ok.after,Region.binds md e=true->e.on≠i)->oi.apart ops ok=true:=fun k ok hk hki hun hno=>by
   refine hfree k ok hk hki ?_ hno;by_cases hjk:j=k
   · subst hjk;exact hjun
   rw [getD_set_ne true hjk] at hun;exact hun
  refine wpOp_mono (fun a' w' h3=>⟨h3.2.1,ih (listed.setIfInBounds j true) a' w' (inv.set hj hjn) hfree' (ready_mono hr (Ne.symm hji)) h3.1 h3.2.1 ?_⟩) h2;rw [Array.setIfInBounds_comm _ _ hji];exact h3.2.2
def wpHeld (P:Program) (ops:Array Oper) (Q:Exit->Act->World->Prop) (S:World->Prop) (T:Act->World->Prop):List (Bool×Oper)->Act->World->Prop
 | (true,o)::fs,a,w=>∃ v,YieldsIf P ops S o v a/\wpHeld P ops Q S T fs (a.put o.dst v) w
 | (false,o)::fs,a,w=>if Region.wanted o (yielded ops a.tmps)=true then Oper.wp P o a w (fun a' w'=>S w'/\wpHeld P ops Q S T fs a' w') Q else S w/\wpHeld P ops Q S T fs (a.put o.dst undef) w
 | [],a,w=>T a w
theorem wpHeld_take {T:Act->World->Prop} {fs:List (Bool×Oper)} {o:Oper} {a:Act} {w:World} {v:Value} (h1:YieldsIf P ops S o v a) (h2:wpHeld P ops Q S T fs (a.put o.dst v) w):wpHeld P ops Q S T ((true,o)::fs) a w:=⟨v,h1,h2⟩
theorem wpHeld_run {T:Act->World->Prop} {fs:List (Bool×Oper)} {o:Oper} {a:Act} {w:World}
 (h:∀ K:Act->World->Prop,Shut (∀ a w,S w->wpHeld P ops Q S T fs a w->K a w)->if Region.wanted o (yielded ops a.tmps)=true then Oper.wp P o a w K Q else K (a.put o.dst undef) w):wpHeld P ops Q S T ((false,o)::fs) a w:=
 h _ (fun _ _ h1 h2=>⟨h1,h2⟩)
theorem wpHeld_nil {T:Act->World->Prop} {a:Act} {w:World} (h:T a w):wpHeld P ops Q S T [] a w:=by
 unfold wpHeld;exact h
instance:Inhabited Oper:=⟨{ dst:=none,op:=.move (.tmp 0),type:=0,pos:="",after:= #[],guard:=none }⟩
def picked (l:List Oper) (fs:List (Nat×Bool)):List (Bool×Oper):=fs.map (fun p=>(p.2,l.getD p.1 default))
def heldB (md:Region.Mode) (ops:Array Oper) (n g:Nat):List (Nat×Bool)->Array Bool->Bool
 | [],listed=>Region.seqB md ops g n listed
 | (k,true)::fs,listed=>decide (k<n)&&(Region.ready md ops listed).contains k&&Region.free md ops listed k&&heldB md ops n g fs (listed.setIfInBounds k true)
 | (k,false)::fs,listed=>decide (k<n)&&decide (Region.ready md ops listed=[k])&&heldB md ops n g fs (listed.setIfInBounds k true)
def heldTailB (md:Region.Mode) (ops:Array Oper) (fs:List (Nat×Bool)):Bool:=
 Region.noSelect ops&&decide (fs.length<ops.size)&&Region.sinkB md ops fs.length&&Region.chainB md ops fs.length&&heldB md ops fs.length (ops.size-fs.length) fs (Array.replicate ops.size false)
theorem headH_of_held {n g:Nat} {l:List Oper} {T:Act->World->Prop} (hl:ops=l.toArray) (hsel:Region.noSelect ops=true) (hQ:∀ c a d v w,Q (.panic c) (a.put d v) w->Q (.panic c) a w) (hs:Region.sinkB md ops n=true) (hc:Region.chainB md ops n=true) (hn:n<ops.size):
 ∀ (fs:List (Nat×Bool)) (listed:Array Bool) (a:Act) (w:World),HeadInv md ops n listed->S w->
 heldB md ops n g fs listed=true->wpHeld P ops Q S T (picked l fs) a w->
 headH P md ops Q S n (fun listed' a' w'=>Region.seqB md ops g n listed'=true/\T a' w') fs.length listed a w
 | [],listed,a,w,_,_,hB,h=>⟨by simpa [heldB] using hB,by simpa [picked,wpHeld] using h⟩
 | (k,true)::fs,listed,a,w,inv,hS,hB,h=>by
  simp only [heldB,Bool.and_eq_true,decide_eq_true_eq] at hB;obtain ⟨⟨⟨hkn,hr⟩,hf⟩,hB'⟩:=hB;have hkl:k<l.length:=by rw [hl] at hn;simp at hn;omega
  have h0:ops[k]? =some (l.getD k default):=by rw [hl];simp [zA,hkl]
  have hr':k∈Region.ready md ops listed:=by simpa using hr
  obtain ⟨v,hy,hK⟩:∃ v,YieldsIf P ops S (l.getD k default) v a/\wpHeld P ops Q S T (picked l fs) (a.put (l.getD k default).dst v) w:=h
  exact headH_first h0 (Region.noSelect_spec hsel) hQ hs hc hn hkn (fun listed' a' w' hL=>seqB_ready hL.1) fs.length listed a w inv (Region.free_spec h0 hf) hr' hy hS
   (headH_of_held hl hsel hQ hs hc hn fs _ _ w (inv.set hr' hkn) hS hB' hK)
 | (k,false)::fs,listed,a,w,inv,hS,hB,h=>by
  simp only [heldB,Bool.and_eq_true,decide_eq_true_eq] at hB;obtain ⟨⟨hkn,hr⟩,hB'⟩:=hB;have hkl:k<l.length:=by rw [hl] at hn;simp at hn;omega
  have h0:ops[k]? =some (l.getD k default):=by rw [hl];simp [zA,hkl]
  have hr':k∈Region.ready md ops listed:=by rw [hr];simp
  refine ⟨fun h1=>(by rw [hr] at h1;cases h1),fun i hi=>?_⟩;rw [hr] at hi;have hik:i=k:=by simpa using hi
  subst hik;refine ⟨hkn,?_⟩
  have hw:wpOp P ops Q i (fun a' w'=>S w'/\wpHeld P ops Q S T (picked l fs) a' w') a w:=by
   unfold wpOp;simp only [h0];have h2:if Region.wanted (l.getD i default) (yielded ops a.tmps)=true then Oper.wp P (l.getD i default) a w (fun a' w'=>S w'/\wpHeld P ops Q S T (picked l fs) a' w') Q else S w/\wpHeld P ops Q S T (picked l fs) (a.put (l.getD i default).dst undef) w:=h
   by_cases hwt:Region.wanted (l.getD i default) (yielded ops a.tmps)=true
   · rw [if_pos hwt] at h2 |-; exact .inl h2
   rw [if_neg hwt] at h2 |-; exact h2
  exact wpOp_mono (fun a' w' h'=>⟨h'.1,headH_of_held hl hsel hQ hs hc hn fs _ a' w' (inv.set hr' hkn) h'.1 hB' h'.2⟩) hw
theorem wp_region_held_tail {id:Nat} {a:Act} {w:World} {l:List Oper} (fs:List (Nat×Bool)) (S:World->Prop) (hm:P.follows .mixedOrders=true) (hQ:∀ c a d v w,Q (.panic c) (a.put d v) w->Q (.panic c) a w) (hB:heldTailB .any l.toArray fs=true) (hS:S w.drew)
 (h:wpHeld P l.toArray Q S (fun a' w'=>wpList P l.toArray Q (l.drop fs.length) a' w') (picked l fs) a w.drew):(Code.region id l.toArray true).wp P Q a w:=by
 simp only [heldTailB,Bool.and_eq_true,decide_eq_true_eq] at hB;obtain ⟨⟨⟨⟨hsel,hn⟩,hs⟩,hc⟩,hlex⟩:=hB;have hdl:(l.drop fs.length).length=l.toArray.size-fs.length:=by simp
 have inv0:HeadInv .any l.toArray fs.length (Array.replicate l.toArray.size false):=
  ⟨by simp,fun j oj _ hl=>(by rw [getD_replicate_false] at hl;cases hl),fun t _ ht=>getD_in (by simpa using ht) (getD_replicate_false _ _)⟩
 have H:=headH_of_held (md:=.any) (g:=l.toArray.size-fs.length) (l:=l) rfl hsel hQ hs hc hn fs _ a w.drew inv0 hS hlex h;refine wp_region_any hm ?_
 have:=any_of_headH (Q:=Q) (S:=S) (g:=l.toArray.size-fs.length) (fun listed a' w' hL=>by
  have:=wpAny_of_seq (md:=.any) (Q':=Q) (l.drop fs.length) fs.length listed a' w' (fun j=>by simp [List.getElem?_drop]) (by rw [hdl];exact hL.1) hL.2;rwa [hdl] at this) _ _ _ _ H
 rw [show fs.length+(l.toArray.size-fs.length)=l.toArray.size by omega] at this;exact this
end
theorem pk_:(∀ (l:List Oper) (fs:List (Nat×Bool)),picked l fs=fs.map (fun p=>(p.2,l.getD p.1 default)))∧(∀ (f:Nat×Bool→Bool×Oper) a l,(a::l).map f=f a::l.map f)∧(∀ f:Nat×Bool→Bool×Oper,[].map f=[])∧(∀ (a:Oper) l n d,(a::l).getD (n+1) d=l.getD n d)∧∀ (a:Oper) l d,(a::l).getD 0 d=a:=⟨fun _ _=>rfl,fun _ _ _=>rfl,fun _=>rfl,fun _ _ _ _=>rfl,fun _ _ _=>rfl⟩
theorem dz_:(∀ {α:Type} (a:α) l,(a::l).length=l.length+1)∧(∀ {α:Type},([]:List α).length=0)∧(∀ {α:Type} (a:α) l n,(a::l).drop (n+1)=l.drop n)∧∀ {α:Type} (l:List α),l.drop 0=l:=⟨fun _ _=>rfl,rfl,fun _ _ _=>rfl,fun _=>rfl⟩
end
section
open Go.RowKit Go.MapKept Go.ChangeMaps
theorem map_is {α β:Type} {ok:α->Prop} {kv:α->Value} {vv:β->Value} {w:World} {b:Nat} {L:List (α×β)} (h:MapIs ok kv vv w b L) {t:TypeId} {cs:Array Value}:¬ IsB w b t cs:=by
 obtain ⟨es,clock,hb,_⟩:=h;intro hi;unfold IsB at hi;rw [hb] at hi;cases hi
theorem RB.ne_mapM {α β:Type} {ok:α->Prop} {kv:α->Value} {vv:β->Value} {w:World} {b:Nat} {L:List (α×β)} (h:MapIs ok kv vv w b L) {d:BD} {bs:List UInt8} (hr:RB w d bs):blk d≠some b:=by
 intro e;obtain ⟨A,n,c⟩:=d;cases A with
 | none=>cases e
 | some ad=>
  obtain ⟨g,cur,rfl,hi,_⟩:=hr.2.2.2 ad rfl;have:g=b:=by simpa [blk] using e
  subst this;exact map_is h hi
theorem RS.set {w:World} {A:Option Addr} {bs:List UInt8} (h:RS w A bs) {g:Nat} {t:TypeId} {cs:Array Value} (hg:IsB w g t cs) (hn:∀ (j:Nat) (v:Value),cs[j]? =some v->∀ u:UInt8,v≠encU u) (k:Nat) (u:Value):RS (w.setCell ⟨g,k,none⟩ u) A bs:=by
 refine ⟨h.1,fun ad e=>?_⟩;obtain ⟨g',o,rfl,hc⟩:=h.2 ad e;refine ⟨g',o,rfl,fun j hj=>?_⟩;have h1:=hc j hj
 have hne:g'≠g:=by
  rintro rfl;rw [hg.cell] at h1;exact hn _ _ h1 _ rfl
 have h2:(w.setCell ⟨g,k,none⟩ u).heap[g']? =w.heap[g']? :=Below.heap_setCell w _ u g' hne;rw [<- h1];simp [World.cell?, h2]
theorem cells_no8 {x:SR}:∀ (j:Nat) (v:Value),x.cells[j]? =some v->∀ u:UInt8,v≠encU u:=by
 intro j v h u e;subst e;unfold encU at h;match j with
 | 0 | 1 | 2 | 3 | 4 | 5 | 6=>simp at h
 | j+7=>simp at h
theorem map_ne {α β:Type} {ok:α->Prop} {kv:α->Value} {vv:β->Value} {w:World} {b:Nat} {L:List (α×β)} (h:MapIs ok kv vv w b L) {g:Nat} {t:TypeId} {cs:Array Value} (hi:IsB w g t cs):some g≠some b:=fun e=>map_is h (by injection e with e;rw [<- e];exact hi)
theorem RB.gone {w w':World} {b:Nat} {d:BD} {bs:List UInt8} {C:Chs} (h:RB w d bs) (hm:MapIs okID vID vPl w b C) (hg:w.grownBy w' (some b)):RB w' d bs:=h.grown hg (RB.ne_mapM hm h)
def putS (x:SR) (i:ID) (d:BD) (bs:List UInt8):SR:={ x with C:=setL x.C i (.pend d bs),wait:=x.wait+1,bytes:=x.bytes+bs.length }
def PutNew (b:Nat) (x:SR) (l:List Ob) (bs:List UInt8) (w:World) (e:Ending) (w':World):Prop:=e= .returned (.tuple #[.agg #[.int .u64 (fpOf bs).1,.int .i64 (fpOf bs).2],.int .i64 0])/\∃ d,Sto b w' (putS x (fpOf bs) d bs) l/\(∀ g,blk d=some g->w.heap.size<=g)/\Below b w w'
theorem Sep.lay {b:Nat} {w w3 w4:World} {l:List Ob} (h:Sep b w l) (k:Nat) {cm:Nat} {C:Chs} (hk:l[k]? =some (chOb cm C)) {i:ID} {d:BD} {bs:List UInt8} (hb:Below w.heap.size w w3) (hr:RB w3 d bs) (hn:∀ g,blk d=some g->w.heap.size<=g) (hp:0<bs.length) (hm:MapIs okID vID vPl w4 cm (setL C i (.pend d bs))) (hg:w3.grownBy w4 (some cm)):Sep b w4 (l.set k (chOb cm (setL C i (.pend d bs))))/\Below b w w4:=by
 have hh:=h.get hk;have hm3:MapIs okID vID vPl w3 cm C:=hh.1.on hb;have hmem:∀ c∈setL C i (.pend d bs),c=(i,.pend d bs)∨c∈C:=(setL_pairwise (R:=fun _ _=>True) hh.1.nodup (List.pairwise_of_forall (by simp)) i (Pl.pend d bs) (by simp) (by simp)).2
 have hpend:∀ id d' bs',(id,Pl.pend d' bs')∈setL C i (.pend d bs)->RB w4 d' bs'/\0<bs'.length:=by
  intro id d' bs' hc;rcases hmem _ hc with e | e
  · injection e with e1 e2;injection e2 with e2 e3;subst e2;subst e3;exact ⟨hr.gone hm3 hg,hp⟩
  have:=hh.2 id d' bs' e;exact ⟨(this.1.on hb).gone hm3 hg,this.2⟩
 refine h.stepAt k hk ((Fr.of_below hb _).trans (Fr.grown hg rfl (fun _ hi=> .inl hi))) (fun j hj=>?_) ⟨hm,hpend⟩ (fun j hj=>?_)
 · obtain ⟨id,d',bs',hc,hbk⟩:=hj;rcases hmem _ hc with e | e
   · injection e with e1 e2;injection e2 with e2 e3;subst e2;exact .inr (.inr (hn j hbk))
   exact .inr (.inl ⟨id,d',bs',e,hbk⟩)
 rcases hj with hj | ⟨id,d',bs',hc,hbk⟩
 · have e:j=cm:=hj;rw [e];exact hm.lt
 exact (hpend id d' bs' hc).1.lt hbk
section
variable {b:Nat} {w:World} {x:SR} {l:List Ob}
theorem Put_new (h:Sto b w x l) (hf:WF x) (A:Option Addr) (c:Nat) (bs:List UInt8) (hs:RS w A bs) (h1:1<=bs.length) (h2:bs.length<=8192) (ha:asc x.C (fpOf bs)=none) (hc:x.C.length<4096) (hw0:0<=x.wait) (hw1:x.wait<=1099511627776) (hb0:0<=x.bytes) (hb1:x.bytes<=1099511627776):
 Calls Tryz.prog 23 #[vPtr x.ps,.slice A bs.length c] w (PutNew b x l bs w):=by
 have hi:okID (fpOf bs):=okID_fp bs (by omega);have hi2:Hid ((fpOf bs).2=(bs.length:Int)):=rfl;have hbase:=h.base;have B0:=hid (bel1q w (.cells #[.int .u64 0,.int .i64 0] 31));have H0:=hid (h.on B0.out);have S0:=hid (hs.on B0.out);have HRD:=hid (ready_live H0.out hf.live hf.up);have HOF:=hid (Of_any A c bs _ S0.out (by omega));have I0:Hid (IsB (w.alloc (.cells #[.int .u64 0,.int .i64 0] 31)) w.heap.size 31 #[.int .u64 0,.int .i64 0]):=IsB.new _ _ _;have hfew:=hf.few;obtain ⟨i,HI⟩:∃ i,Hid (fpOf bs=i):=⟨_,rfl⟩;rw [HI.out] at HOF hi ha hi2;unfold PutNew;rw [HI.out];have HA:=hid ha;clear hf ha;go_enter Tryz.func23,Tryz.ntmps23;go_wp2_with (go_at_call 84;refine HRD.out.mono ?_;rintro e w1 ⟨rfl,rfl⟩)
 refine HOF.out.mono ?_;rintro e w2 ⟨rfl,hb⟩;have B2:Hid (Below w.heap.size w w2):=B0.out.trans (hb.mono B0.out.size);have I2:=hid (I0.out.on hb);have H2:=hid (H0.out.on hb);have S2:=hid (S0.out.on hb);have lt2:w.heap.size<w2.heap.size:=I2.out.lt;have HB:=hid hb;clear hb;have hps:x.ps<w2.heap.size:=H2.out.scell.lt;have BA:=hid (bel1q w2 (.cells #[.int .u64 i.1,.int .i64 i.2] 31));have hcx:(w2.alloc (.cells #[.int .u64 i.1,.int .i64 i.2] 31)).cell? ⟨x.ps,2,none⟩=some (.map (some x.cm)):=(H2.out.on BA.out).scell.cell 2;have hl1:=look_no H2.out.sch hi HA.out (w2.alloc (.cells #[.int .u64 i.1,.int .i64 i.2] 31)).drew ((Below.refl _ w2).alloc (zB _) _).drew;have hl2:=look_no H2.out.sch hi HA.out ((w2.alloc (.cells #[.int .u64 i.1,.int .i64 i.2] 31)).alloc (.cells #[.slice none 0 0,.int .i64 0,.int .i64 0] 138)).drew (((Below.refl _ w2).alloc (zB _) _).alloc (by simp) _).drew;have B3:Hid (Below w2.heap.size w2 ((w2.alloc (.cells #[.int .u64 i.1,.int .i64 i.2] 31)).alloc (.cells #[.slice none 0 0,.int .i64 0,.int .i64 0] 138)).drew):=(BA.out.alloc (by simp) _).drew;have J3:Hid (IsB ((w2.alloc (.cells #[.int .u64 i.1,.int .i64 i.2] 31)).alloc (.cells #[.slice none 0 0,.int .i64 0,.int .i64 0] 138)).drew w2.heap.size 31 #[.int .u64 i.1,.int .i64 i.2]):=(IsB.new _ _ _).on ((bel1q _ _).drew)
 have SP1:=hid (((h.newCell 31 #[.int .u64 0,.int .i64 0]).1.on HB.out).newCell 31 #[.int .u64 i.1,.int .i64 i.2]).1;have SP2:Hid (Sep b ((w2.alloc (.cells #[.int .u64 i.1,.int .i64 i.2] 31)).alloc (.cells #[.slice none 0 0,.int .i64 0,.int .i64 0] 138)).drew (cellOb w2.heap.size 31 #[.int .u64 i.1,.int .i64 i.2]::cellOb w.heap.size 31 #[.int .u64 0,.int .i64 0]::x.obs l)):=SP1.out.on ((bel1q _ _).drew);clear h;go_wp2_with fail
 go_region
 all_goals (
  have HL:=hid (MapIs.len Tryz.underlying128 (H2.out.sch.on B3.out) 3);have H3:=hid (H2.out.on B3.out);have S3:=hid (S2.out.on B3.out);have I3:=hid (I2.out.on B3.out);have B4:Hid (Below w.heap.size w _):=B2.out.trans (B3.out.mono B2.out.size);have lt3:=B3.out.size;clear SP1;generalize ((w2.alloc (.cells #[.int .u64 i.1,.int .i64 i.2] 31)).alloc (.cells #[.slice none 0 0,.int .i64 0,.int .i64 0] 138)).drew=W at *; have hps2:=H3.out.scell.cell 2;have hps5:=H3.out.scell.cell 5;have hpf5:=H3.out.scell.frozen 5;have hlen:=HL.out;have hj1:=J3.out.cell 1;simp only [hi2.out] at hj1;clear hl1 hl2 hcx;go_upto_region 17 with fail
  have hsum:IntKind.i64.wrap (x.bytes+(bs.length:Int))=x.bytes+(bs.length:Int):=IntWalk.i64_in _ (by omega);go_region
  go_upto_region 18 with fail
  have SPV:Hid (Sep b (W.setCell ⟨x.ps,5,none⟩ (.int .i64 (x.bytes+(bs.length:Int)))).drew (cellOb w2.heap.size 31 #[.int .u64 i.1,.int .i64 i.2]::cellOb w.heap.size 31 #[.int .u64 0,.int .i64 0]::({ x with bytes:=x.bytes+(bs.length:Int) }:SR).obs l)):=((SP2.out.setAt 3 rfl 5 (.int .i64 (x.bytes+(bs.length:Int)))).1).on ((Below.refl _ _).drew);have BV:Hid (Below b w (W.setCell ⟨x.ps,5,none⟩ (.int .i64 (x.bytes+(bs.length:Int)))).drew):=(B4.out.mono hbase).trans ((SP2.out.setAt 3 rfl 5 (.int .i64 (x.bytes+(bs.length:Int)))).2.drew);have SV:Hid (RS (W.setCell ⟨x.ps,5,none⟩ (.int .i64 (x.bytes+(bs.length:Int)))).drew A bs):=S3.out.set H3.out.scell cells_no8 5 _;have hWV:W.heap.size<=(W.setCell ⟨x.ps,5,none⟩ (.int .i64 (x.bytes+(bs.length:Int)))).drew.heap.size:=by simp [World.setCell]
  clear hps2 hps5 hpf5 hlen hj1 H3 HL SP2 S3;generalize (W.setCell ⟨x.ps,5,none⟩ (.int .i64 (x.bytes+(bs.length:Int)))).drew=V at *; have ltV:w2.heap.size<=V.heap.size:=Nat.le_trans lt3 hWV;have IPV:=hid (SPV.out.cell (k:=3) rfl);have IJV:=hid (SPV.out.cell (k:=0) rfl);have MV:Hid (MapIs okID vID vPl V x.cm x.C):=(SPV.out.get (k:=4) (o:=chOb x.cm x.C) rfl).1;have p2:V.cell? ⟨x.ps,2,none⟩=some (.map (some x.cm)):=IPV.out.cell 2;have q0:V.cell? ⟨w2.heap.size,0,none⟩=some (.int .u64 i.1):=IJV.out.cell 0;have q1:V.cell? ⟨w2.heap.size,1,none⟩=some (.int .i64 i.2):=IJV.out.cell 1;have hpsV:x.ps<V.heap.size:=IPV.out.lt;have hw2V:w2.heap.size<V.heap.size:=IJV.out.lt
  have HCL:Hid (Calls Tryz.prog 87 #[.slice A bs.length c] V.drew (fun e w'=>∃ A3 n3 c3,e= .returned (.slice A3 n3 c3)/\RB w' ⟨A3,n3,c3⟩ bs/\(∀ g,blk ⟨A3,n3,c3⟩=some g->V.heap.size<=g)/\Below V.heap.size V w')):=(CloneB_any A c bs V.drew (show SB V.drew A bs from SV.out.sb) (by omega)).mono (by
   rintro e w' ⟨⟨A3,n3,c3⟩,rfl,r1,r2,r3⟩;exact ⟨A3,n3,c3,rfl,r1,r2,of_drew r3⟩)
  go_region_held (fun w'=>w'.cell? ⟨x.ps,2,none⟩=some (.map (some x.cm))/\w'.cell? ⟨w2.heap.size,0,none⟩=some (.int .u64 i.1)/\w'.cell? ⟨w2.heap.size,1,none⟩=some (.int .i64 i.2))
   (first | go_keep | exact K5.out | exact K6.out)
   (first
     | (go_at_call 87;(with_reducible refine HCL.out.mono ?_);rintro e w3 ⟨A3,n3,c3,rfl,hr3,hf3,hb3⟩;have R3:=hid hr3;have F3:=hid hf3;have B5:=hid hb3;have K5:Hid (w3.cell? ⟨x.ps,2,none⟩=some (.map (some x.cm))/\w3.cell? ⟨w2.heap.size,0,none⟩=some (.int .u64 i.1)/\w3.cell? ⟨w2.heap.size,1,none⟩=some (.int .i64 i.2)):=⟨(hb3.cell (p:=⟨x.ps,2,none⟩) hpsV).trans p2,(hb3.cell (p:=⟨w2.heap.size,0,none⟩) hw2V).trans q0,(hb3.cell (p:=⟨w2.heap.size,1,none⟩) hw2V).trans q1⟩;obtain ⟨w4,hu,hm4,hg4,hz4⟩:=MapIs.update mkI Tryz.underlying128 (MV.out.on hb3) hi (Pl.pend ⟨A3,n3,c3⟩ bs);have hu':(Instr.mapUpdate 128 (.map (some x.cm)) (.agg #[.int .u64 i.1,.int .i64 i.2]) (.agg #[.slice A3 n3 c3,.int .i64 0,.int .i64 0])).run Tryz.prog w3= .ok () w4:=hu;have M4:=hid hm4;have G4:=hid hg4;have K6:Hid (w4.cell? ⟨x.ps,2,none⟩=some (.map (some x.cm))/\w4.cell? ⟨w2.heap.size,0,none⟩=some (.int .u64 i.1)/\w4.cell? ⟨w2.heap.size,1,none⟩=some (.int .i64 i.2)):=⟨((IPV.out.on hb3).grown hg4 (map_ne (MV.out.on hb3) (IPV.out.on hb3))).cell 2,((IJV.out.on hb3).grown hg4 (map_ne (MV.out.on hb3) (IJV.out.on hb3))).cell 0,((IJV.out.on hb3).grown hg4 (map_ne (MV.out.on hb3) (IJV.out.on hb3))).cell 1⟩;clear hr3 hf3 hb3 hu hm4 hg4))
  obtain ⟨sp4,b4⟩:=SPV.out.lay 4 (cm:=x.cm) (C:=x.C) rfl B5.out R3.out F3.out (by omega) M4.out G4.out;have SP4:Hid (Sep b w4 (cellOb w2.heap.size 31 #[.int .u64 i.1,.int .i64 i.2]::cellOb w.heap.size 31 #[.int .u64 0,.int .i64 0]::({ x with C:=setL x.C i (Pl.pend ⟨A3,n3,c3⟩ bs),bytes:=x.bytes+(bs.length:Int) }:SR).obs l)):=sp4;have BX:Hid (Below b w w4):=BV.out.trans b4;clear sp4 b4 p2 q0 q1;have IP4:=hid (SP4.out.cell (k:=3) rfl);have p4:w4.cell? ⟨x.ps,4,none⟩=some (.int .i64 x.wait):=IP4.out.cell 4;have pf4:=IP4.out.frozen 4;have hsum2:IntKind.i64.wrap (x.wait+1)=x.wait+1:=IntWalk.i64_in _ (by omega);go_upto_region 20 with fail
  have SP5:Hid (Sep b (w4.setCell ⟨x.ps,4,none⟩ (.int .i64 (x.wait+1))) (cellOb w2.heap.size 31 #[.int .u64 i.1,.int .i64 i.2]::cellOb w.heap.size 31 #[.int .u64 0,.int .i64 0]::(putS x i ⟨A3,n3,c3⟩ bs).obs l)):=(SP4.out.setAt 3 rfl 4 (.int .i64 (x.wait+1))).1;have BY:Hid (Below b w (w4.setCell ⟨x.ps,4,none⟩ (.int .i64 (x.wait+1)))):=BX.out.trans (SP4.out.setAt 3 rfl 4 (.int .i64 (x.wait+1))).2;clear p4 pf4 SP4 SPV;generalize w4.setCell ⟨x.ps,4,none⟩ (.int .i64 (x.wait+1))=V5 at *; have IA5:=hid (SP5.out.cell (k:=1) rfl);have IJ5:=hid (SP5.out.cell (k:=0) rfl);have q0:V5.cell? ⟨w2.heap.size,0,none⟩=some (.int .u64 i.1):=IJ5.out.cell 0;have q1:V5.cell? ⟨w2.heap.size,1,none⟩=some (.int .i64 i.2):=IJ5.out.cell 1;have k40:=IA5.out.cell 0;have k41:=IA5.out.cell 1;have f40:=IA5.out.frozen 0;have f41:=IA5.out.frozen 1;go_wp2_with fail
  have SP6:Hid (Sep b (V5.setCell ⟨w.heap.size,0,none⟩ (.int .u64 i.1)) (cellOb w2.heap.size 31 #[.int .u64 i.1,.int .i64 i.2]::cellOb w.heap.size 31 #[.int .u64 i.1,.int .i64 0]::(putS x i ⟨A3,n3,c3⟩ bs).obs l)):=(SP5.out.setAt 1 rfl 0 (.int .u64 i.1)).1;have SP7:Hid (Sep b ((V5.setCell ⟨w.heap.size,0,none⟩ (.int .u64 i.1)).setCell ⟨w.heap.size,1,none⟩ (.int .i64 i.2)) (cellOb w2.heap.size 31 #[.int .u64 i.1,.int .i64 i.2]::cellOb w.heap.size 31 #[.int .u64 i.1,.int .i64 i.2]::(putS x i ⟨A3,n3,c3⟩ bs).obs l)):=(SP6.out.setAt 1 rfl 1 (.int .i64 i.2)).1;have BZ:Hid (Below b w ((V5.setCell ⟨w.heap.size,0,none⟩ (.int .u64 i.1)).setCell ⟨w.heap.size,1,none⟩ (.int .i64 i.2))):=(BY.out.setCell hbase _).setCell hbase _;have c0:=(SP7.out.cell (k:=1) rfl).cell 0;have c1:=(SP7.out.cell (k:=1) rfl).cell 1;generalize ((V5.setCell ⟨w.heap.size,0,none⟩ (.int .u64 i.1)).setCell ⟨w.heap.size,1,none⟩ (.int .i64 i.2))=W' at SP7 BZ c0 c1 |-; refine bodyPost_ret (v:=.tuple #[.agg #[.int .u64 i.1,.int .i64 i.2],.int .i64 0]) ?_ rfl ⟨rfl,⟨A3,n3,c3⟩,SP7.out.tail.tail,(fun g hg=>?_),BZ.out⟩
  · simp [results,Tryz.results23,go_sem,c0,c1]
  have:=F3.out g hg;have:=B2.out.size;omega)
end
end
end Go.Proofs.YteabgcollokgjaaGreatDoor
