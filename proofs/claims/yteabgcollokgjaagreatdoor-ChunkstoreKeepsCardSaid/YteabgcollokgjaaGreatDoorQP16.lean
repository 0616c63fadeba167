/- Q -/
import Derived.Test.YteabgcollokgjaaGreatDoorQP15
set_option linter.unusedSimpArgs false
set_option linter.unusedVariables false
set_option maxRecDepth 100000
set_option maxHeartbeats 32000000
open Go.Lib renaming hid → kh
open List renaming getD_eq_getElem?_getD → zA,getElem?_eq_getElem → zB,setIfInBounds_toArray → zC
namespace Go.Proofs.YteabgcollokgjaaGreatDoor
section
open Go.RowKit Go.MapKept Go.ChangeMaps Go.Shelf Go.Sort
theorem zero146 (W:World):(zeroValue 146).run Tryz.prog W= .ok (.pointer none) W:=by kernel_rfl
theorem look_fl {w:World} {fm:Nat} {F:Option FR} (h:MapIs okN vN vPtr w fm (fL F)):(Instr.lookup 129 (.map (some fm)) (.int .i64 1) false).run Tryz.prog w= .ok (match F with | none=> .pointer none | some f=>vPtr f.fb) w:=by
 have:=MapIs.look mkN Tryz.underlying129 (zero146 w) h okN1 false;rw [show (Value.int .i64 1)=vN 1 from rfl,this];cases F with
 | none=>rfl
 | some f=>rfl
theorem pend_some {b:Nat} {w:World} {x:SR} {l:List Ob} (h:Sto b w x l):∀ i d bs,(i,Pl.pend d bs)∈x.C->d.A≠none:=by
 intro i d bs hm e;obtain ⟨h1,h2⟩:=h.spend hm;have:=h1.1;have:=h1.2.1;have:=h1.2.2.1 e;omega
theorem look_f1 {w:World} {fm:Nat} {F:Option FR} (h:MapIs okN vN vPtr w fm (fL F)) {f:FR} (hf:F=some f):(Instr.lookup 129 (.map (some fm)) (.int .i64 1) false).run Tryz.prog w= .ok (vPtr f.fb) w:=by
 subst hf;exact look_fl h
theorem look_f0 {w:World} {fm:Nat} {F:Option FR} (h:MapIs okN vN vPtr w fm (fL F)) (hf:F=none):(Instr.lookup 129 (.map (some fm)) (.int .i64 1) false).run Tryz.prog w= .ok (.pointer none) w:=by
 subst hf;exact look_fl h
def pends (C:Chs):List ID:=(C.filter (fun c=>c.2.A.isSome)).map (·.1)
def frSum (l:List ID):Nat:=(l.map (fun i=>28+i.2.toNat)).sum
theorem frSum_perm {l k:List ID} (h:l.Perm k):frSum l=frSum k:=(h.map _).sum_nat
theorem frSum_snoc (l:List ID) (i:ID):frSum (l++[i])=frSum l+(28+i.2.toNat):=by simp [frSum]
theorem frSum_take_le (l:List ID) (k:Nat):frSum (l.take k)<=frSum l:=by
 have h:frSum l=frSum (l.take k)+frSum (l.drop k):=by
  conv=>lhs;rw [<- List.take_append_drop k l]
  unfold frSum;rw [List.map_append,List.sum_append]
 omega
def flen (F:Option FR):Nat:=match F with | none=>0 | some f=>f.len
theorem ents_of {w:World} {v:Value} {ys:List Ent} (h0:ys=[]->v= .slice none 0 0) (h1:ys≠[]->∃ g c,v= .slice (some ⟨g,0,none⟩) ys.length c/\g<w.heap.size/\HoldsK encE 3 w g 0 ys.toArray):EntsAt w v ys:=by
 refine ⟨h0,fun hy=>?_⟩;obtain ⟨g,c,hv,hg,hh⟩:=h1 hy;refine ⟨g,c,hv,hg,fun j hj=>?_⟩;have hj':j<ys.toArray.size:=by simpa using hj
 have e:(ys.toArray[j]!)=ys.getD j ent0:=by
  rw [getElem!_pos ys.toArray j hj',zA,zB hj];simp
 have a0:=(hh.cell hj' (show 0<3 by omega)).1;have a1:=(hh.cell hj' (show 1<3 by omega)).1;have a2:=(hh.cell hj' (show 2<3 by omega)).1;rw [e] at a0 a1 a2;rw [Nat.zero_add] at a0 a1 a2;exact ⟨by simpa [encE] using a0,by simpa [encE] using a1,by simpa [encE] using a2⟩
theorem Sep.reader {b:Nat} {w:World} {o:Ob} (hb:b<=w.heap.size) (hh:o.holds w) (ho:∀ i,¬ o.own i) (hr:∀ i,o.rd i->i<w.heap.size):Sep b w [o]:=
 ⟨hb,fun y hy=>by rw [List.mem_singleton.1 hy];exact hh,fun y hy i hi=>by rw [List.mem_singleton.1 hy] at hi;exact absurd hi (ho i),fun y hy i hi=>by rw [List.mem_singleton.1 hy] at hi;exact hr i hi,List.pairwise_singleton _ _⟩
def PF1 (F:Option FR) (w:World) (lv:Value) (SA:Option Addr) (sn sc:Nat) (ys:List Ent) (w':World):Prop:=
 (F=none/\lv= .slice none 0 0/\SA=none/\sn=0/\sc=0/\ys=[]/\SW w.heap.size w [ebOb (.slice SA sn sc) ys] w')∨
 (∃ lg cap pc,lv= .slice (some ⟨lg,0,none⟩) 1 cap/\SW w.heap.size w [cellOb pc 216 #[.int .i64 1,.bool false,.slice SA sn sc,.slice none 0 0,.int .i64 (flen F:Int)],rowOb 214 1 (.slice (some ⟨lg,0,none⟩) 1 cap) 1 [vPtr pc],ebOb (.slice SA sn sc) ys] w')
def PF3 (F:Option FR) (w:World) (A:Option Addr) (ids:List ID) (SA:Option Addr) (sn sc:Nat) (ys:List Ent) (k:Nat) (lv:Value) (w':World):Prop:=
 (F=none/\k=0/\lv= .slice none 0 0/\SA=none/\sn=0/\sc=0/\ys=[]/\SW w.heap.size w [riOb A ids,ebOb (.slice SA sn sc) ys] w')∨
 (∃ lg cap pc av,lv= .slice (some ⟨lg,0,none⟩) 1 cap/\SW w.heap.size w [riOb A ids,rowOb 31 2 av k ((ids.take k).flatMap encID),cellOb pc 216 #[.int .i64 1,.bool false,.slice SA sn sc,av,.int .i64 ((flen F+frSum (ids.take k):Nat):Int)],rowOb 214 1 (.slice (some ⟨lg,0,none⟩) 1 cap) 1 [vPtr pc],ebOb (.slice SA sn sc) ys] w')
def PF5 (F:Option FR) (w:World) (A:Option Addr) (ids:List ID) (SA:Option Addr) (sn sc:Nat) (ys:List Ent) (k:Nat) (H:Nat) (i:ID) (lg cap pc:Nat) (av:Value) (w':World):Prop:=
 ∃ (v:Value) (n:Nat) (xs:List Value),SW w.heap.size w [cellOb H 31 #[.int .u64 i.1,.int .i64 i.2],riOb A ids,rowOb 31 2 v n xs,cellOb pc 216 #[.int .i64 1,.bool false,.slice SA sn sc,av,.int .i64 ((flen F+frSum (ids.take k):Nat):Int)],rowOb 214 1 (.slice (some ⟨lg,0,none⟩) 1 cap) 1 [vPtr pc],ebOb (.slice SA sn sc) ys] w'
theorem PF5.cells {F:Option FR} {w:World} {A:Option Addr} {ids:List ID} {SA:Option Addr} {sn sc:Nat} {ys:List Ent} {k H:Nat} {i:ID} {lg cap pc:Nat} {av:Value} {w':World} (h:PF5 F w A ids SA sn sc ys k H i lg cap pc av w'):
 w'.cell? ⟨lg,0,none⟩=some (vPtr pc)/\w'.cell? ⟨pc,3,none⟩=some av/\w'.cell? ⟨H,0,none⟩=some (.int .u64 i.1)/\w'.cell? ⟨H,1,none⟩=some (.int .i64 i.2)/\w'.cell? ⟨pc,4,none⟩=some (.int .i64 ((flen F+frSum (ids.take k):Nat):Int)):=by
 obtain ⟨v,n,xs,h⟩:=h;refine ⟨?_,(h.cell 3 rfl).cell 3,(h.cell 0 rfl).cell 0,(h.cell 0 rfl).cell 1,(h.cell 3 rfl).cell 4⟩;obtain ⟨lg2,cap2,e1,e2,_⟩:=own_one (h.get 4 rfl);injection e1 with e1 _ e3;injection e1 with e1;injection e1 with e1;rw [e1];exact e2
def PF4 (F:Option FR) (w:World) (A:Option Addr) (ids:List ID) (SA:Option Addr) (sn sc:Nat) (ys:List Ent) (k:Nat) (H:Nat) (i:ID) (lv:Value) (w':World):Prop:=
 ∃ lg cap pc av,lv= .slice (some ⟨lg,0,none⟩) 1 cap/\SW w.heap.size w [cellOb H 31 #[.int .u64 i.1,.int .i64 i.2],riOb A ids,rowOb 31 2 av k ((ids.take k).flatMap encID),cellOb pc 216 #[.int .i64 1,.bool false,.slice SA sn sc,av,.int .i64 ((flen F+frSum (ids.take k):Nat):Int)],rowOb 214 1 (.slice (some ⟨lg,0,none⟩) 1 cap) 1 [vPtr pc],ebOb (.slice SA sn sc) ys] w'
def IxPost (F:Option FR) (w:World) (A:Option Addr) (ids:List ID) (SA:Option Addr) (sn sc:Nat) (ys:List Ent) (k:Nat) (H:Nat) (i:ID) (lv:Value) (e:Ending) (w':World):Prop:=
 ∃ r:Int,e= .returned (.int .i64 r)/\((r=0/\PF4 F w A ids SA sn sc ys k H i lv w')∨(r= -1/\F=none/\k=0/\lv= .slice none 0 0/\SA=none/\sn=0/\sc=0/\ys=[]/\SW w.heap.size w [cellOb H 31 #[.int .u64 i.1,.int .i64 i.2],riOb A ids,ebOb (.slice SA sn sc) ys] w'))
theorem pf_index {F:Option FR} {w:World} {A:Option Addr} {ids:List ID} {SA:Option Addr} {sn sc:Nat} {ys:List Ent} {k:Nat} {i:ID} {lv:Value} {wr:World} (h:PF3 F w A ids SA sn sc ys k lv wr) (hi:0<=i.2) (hs:flen F+frSum (ids.take k)+(28+i.2.toNat)<=1048576):
 Calls Tryz.prog 144 #[lv,.func (.func 145) #[] #[vPtr wr.heap.size]] (wr.alloc (.cells #[.int .u64 i.1,.int .i64 i.2] 31)) (IxPost F w A ids SA sn sc ys k wr.heap.size i lv):=by
 rcases h with ⟨rfl,rfl,rfl,rfl,rfl,rfl,rfl,h⟩ | ⟨lg,cap,pc,av,rfl,h⟩
 · refine (index0 _ _).mono ?_;rintro e w' ⟨rfl,hb⟩;exact ⟨-1,rfl,.inr ⟨rfl,rfl,rfl,rfl,rfl,rfl,rfl,rfl,(h.newCell 31 _).on hb⟩⟩
 have h2:=h.newCell 31 #[.int .u64 i.1,.int .i64 i.2];obtain ⟨lg2,cap2,e1,e2,_⟩:=own_one (h2.get 4 rfl);injection e1 with e1 _ e3;injection e1 with e1;injection e1 with e1;subst e1;refine (index145 lg pc wr.heap.size cap ((flen F+frSum (ids.take k):Nat):Int) i _ e2 ((h2.cell 3 rfl).cell 4) ((h2.cell 0 rfl).cell 0) ((h2.cell 0 rfl).cell 1) hi (by omega) (by omega)).mono ?_;rintro e w' ⟨rfl,hb⟩;exact ⟨0,rfl,.inl ⟨rfl,lg,cap,pc,av,rfl,h2.on hb⟩⟩
theorem SW.addRI {b:Nat} {w0 w w':World} {l:List Ob} {A:Option Addr} {ids:List ID} (h:SW b w0 l w) (hr:RI w' w.heap.size A ids) (hb:Below w.heap.size w w'):SW b w0 (riOb A ids::l) w':=by
 have hh:(riOb A ids).holds w':=⟨hr.1,fun ad e=>by
  obtain ⟨g,h1,h2,h3,h4⟩:=hr.2 ad e;exact ⟨g,h1,h2,h4⟩⟩
 have hge:∀ i,(riOb A ids).rd i->w.heap.size<=i/\i<w'.heap.size:=fun i hi=>by
  obtain ⟨g,h1,h2,h3,h4⟩:=hr.2 _ hi;injection h1 with h1;omega
 have:=h.1.add (o':=riOb A ids) hb hh (fun i hi=>hi.elim) (fun i hi=>(hge i hi).2) (fun i hi hlt=>absurd (hge i hi).1 (by omega));exact ⟨this.1,h.2.trans this.2⟩
def PFPost (x:SR) (w:World) (e:Ending) (w':World):Prop:=
 ∃ (lg cap pc:Nat) (av:Value) (SA:Option Addr) (sn sc:Nat) (ys:List Ent) (ids:List ID),e= .returned (.slice (some ⟨lg,0,none⟩) 1 cap)/\ids.Perm (pends x.C)/\SortedI ids/\(∀ i,(Value.slice SA sn sc).ownBlock=some i->w.heap.size<=i)/\
  SW w.heap.size w [cellOb pc 216 #[.int .i64 1,.bool false,.slice SA sn sc,av,.int .i64 ((flen x.F+frSum ids:Nat):Int)],rowOb 31 2 av ids.length (ids.flatMap encID),rowOb 214 1 (.slice (some ⟨lg,0,none⟩) 1 cap) 1 [vPtr pc],ebOb (.slice SA sn sc) ys] w'
theorem planFlush_any {b:Nat} {w:World} {x:SR} {l:List Ob} (h:Sto b w x l) (hcl:∀ f,x.F=some f->f.clean=true) (hC:x.C.length<=4096) (hid:∀ c∈x.C,1<=c.1.2/\c.1.2<=8192)
 (hp:pends x.C≠[]) (hp2:(pends x.C).length<=49) (hsum:flen x.F+frSum (pends x.C)<=1048576):
 Calls Tryz.prog 93 #[vPtr x.ps] w (PFPost x w):=by
 have HEN:=kh (entries_any x.ps x.cm x.C w (h.scell.cell 2) h.sch (by omega) (pend_some h));have HS:=kh h;have HCL:=kh hcl;have HID:=kh hid;have hps:x.ps<w.heap.size:=h.scell.lt;have HSUM:=kh hsum;clear h hcl hid hsum;have hp3:=hp2;go_enter Tryz.func93,Tryz.ntmps93;go_wp2_with (go_at_call 100;refine HEN.out.mono ?_;refine halt_ ?_)
 rintro e w1 ⟨ev,ys,am,rfl,ham,hem,hys,hsrt,hev0,hev1,hb1⟩;have HEM:=kh hem;have B1:=kh hb1;have HE0:=kh hev0;have HE1:=kh hev1;clear hem hb1 hev0 hev1 hys hsrt;have hsz1:=B1.out.size;have c3:w1.cell? ⟨x.ps,3,none⟩=some (.map (some x.fm)):=(HS.out.on B1.out).scell.cell 3;have B1b:Hid (Below w1.heap.size w1 (w1.alloc (.cells #[.map (some x.fm)] 129))):=bel1q _ _;have HSO:=kh (sortedF_any w1.heap.size x.fm x.F (w1.alloc (.cells #[.map (some x.fm)] 129)) (by simp) ((IsB.new w1 129 #[.map (some x.fm)]).cell 0) ((HS.out.on B1.out).on B1b.out).sfl);go_wp2_with (first | (go_at_call 139;refine (keysF_any (some x.fm) _).mono ?_;rintro e w2 ⟨rfl,rfl⟩) | (go_at_call 138;refine HSO.out.mono ?_;refine halt_ ?_))
 rintro e w2 ⟨NA,nn,nc,rfl,hnn,hnf,hb2⟩;have B2:Hid (Below w.heap.size w w2):=(B1.out.trans ((B1b.out.trans (hb2.mono (by simp))).mono hsz1));have HNF:=kh hnf;have B12:=kh (B1b.out.trans (hb2.mono (by simp)));clear hnf hb2;obtain ⟨F,HF⟩:∃ F,Hid (x.F=F):=⟨_,rfl⟩;rw [HF.out] at HNF HCL HSUM hnn;have HNN:=kh hnn;clear hnn;have hps2:x.ps<w2.heap.size:=Nat.lt_of_lt_of_le hps B2.out.size;go_upto_block 0 with fail
 go_cut [3] from 5 (fun v3 w'=>∃ (SA:Option Addr) (sn sc:Nat) (ys:List Ent),(∀ i,(Value.slice SA sn sc).ownBlock=some i->w.heap.size<=i)/\PF1 F w v3 SA sn sc ys w')
 case first=>
  cases F with
  | none=>
   have h0:nn=0:=HNN.out;subst h0;clear c3 HNN;go_wp2_with fail
   refine wp_loop_rounds 1 ?_;rw [rounds_succ];go_wp2_with fail
   go_meet;exact ⟨none,0,0,[],(fun i hi=>by cases hi),.inl ⟨rfl,rfl,rfl,rfl,rfl,rfl,Sep.reader B2.out.size ⟨fun _=>rfl,fun h=>absurd rfl h⟩ (fun _ h=>h) (fun i hi=>by cases hi),B2.out⟩⟩
  | some f=>
   obtain ⟨g,rfl,hg1,hg2,hg3⟩:=HNF.out f rfl;have h0:nn=1:=HNN.out;subst h0;clear c3 HNN;have hfc:f.clean=true:=HCL.out f rfl
   have HE:Hid (EntsAt w1 ev ys):=ents_of HE0.out (fun hy=>by
    obtain ⟨g',c',h1,h2,h3,h4⟩:=HE1.out hy;exact ⟨g',c',h1,h3,h4⟩)
   obtain ⟨SA,sn,sc,rfl⟩:∃ SA sn sc,ev= .slice SA sn sc:=by
    by_cases hy:ys=[]
    · exact ⟨_,_,_,HE0.out hy⟩
    obtain ⟨g',c',h1,_⟩:=HE1.out hy;exact ⟨_,_,_,h1⟩
   have hnew:Hid (∀ i,(Value.slice SA sn sc).ownBlock=some i->w.heap.size<=i/\i<w1.heap.size):=fun i hi=>by
    by_cases hy:ys=[]
    · rw [HE0.out hy] at hi;cases hi
    obtain ⟨g',c',h1,h2,h3,_⟩:=HE1.out hy;rw [h1] at hi;cases hi
    exact ⟨h2,h3⟩
   have SW0:Hid (SW w.heap.size w [ebOb (.slice SA sn sc) ys] w2):=⟨Sep.reader B2.out.size (Ob.stable (ebOb (.slice SA sn sc) ys) w1 w2 HE.out ⟨B12.out.os,B12.out.tape,B12.out.output,B12.out.size⟩ (fun i hi=>B12.out.block i (by
    rcases hi with hi | hi
    · exact hi.elim
    exact (hnew.out i hi).2))) (fun _ h=>h) (fun i hi=>Nat.lt_of_lt_of_le (hnew.out i hi).2 B12.out.size),B2.out⟩
   have HC:=kh (fun (w':World) (h:SW w.heap.size w [ebOb (.slice SA sn sc) ys] w'/\Below w1.heap.size w1 w')=>(⟨(HS.out.on h.1.2).scell.cell 3,look_eM (HEM.out.on h.2) (fun h0=>HE0.out (List.eq_nil_of_length_eq_zero h0)),look_f1 (HS.out.on h.1.2).sfl HF.out,((HS.out.on h.1.2).sfile HF.out).1.cell 0,by
    have:=((HS.out.on h.1.2).sfile HF.out).1.cell 1;rw [<- hfc];exact this⟩:w'.cell? ⟨x.ps,3,none⟩=some (.map (some x.fm))/\(Instr.lookup 161 (.map (some am)) (.int .i64 1) false).run Tryz.prog w'= .ok (.slice SA sn sc) w'/\(Instr.lookup 129 (.map (some x.fm)) (.int .i64 1) false).run Tryz.prog w'= .ok (vPtr f.fb) w'/\w'.cell? ⟨f.fb,0,none⟩=some (.int .i64 (f.len:Int))/\w'.cell? ⟨f.fb,1,none⟩=some (.bool true)))
   clear hfc HE hg1 hg2;go_wp2_with fail
   refine wp_loop_rounds 2 ?_;rw [rounds_succ];go_upto_region 6 with fail
   have S0:=kh (⟨SW0.out.drew,B12.out.drew⟩:SW w.heap.size w [ebOb (.slice SA sn sc) ys] w2.drew/\Below w1.heap.size w1 w2.drew);refine wp_region_held_tail [(0,true),(1,true),(2,true),(3,true),(4,true),(5,true),(6,true),(7,true),(8,true),(9,true),(10,true),(11,true),(12,true),(13,true),(14,true),(15,true),(16,true),(17,true),(18,true),(19,true),(20,true),(21,true),(22,true),(23,true),(24,false)] (fun w'=>SW w.heap.size w [ebOb (.slice SA sn sc) ys] w'/\Below w1.heap.size w1 w') (by kernel_rfl) (fun _ _ d _ _ h=>by cases d<;>exact h) (by kernel_rfl) S0.out ?_;generalize w2.drew=W2 at S0 |-; simp only [pk_]
   iterate 24
    (refine wpHeld_take (v:=?_) (Or.inl ⟨by rfl,?_⟩) ?_
     rotate_left
     · (intro w' hSw;obtain ⟨h1,h2,h3,h4,h5⟩:=HC.out w' hSw;go_simp;try with_reducible rfl)
     try simp only [Act.put,zC,List.set])
   refine wpHeld_run (fun K hK=>?_);go_simp;refine hK.out _ _ ⟨S0.out.1.alloc _,S0.out.2.alloc (S0.out.2.size) _⟩ ?_;clear hK K HC;refine wpHeld_nil ?_;simp only [dz_];have S1:Hid (SW w.heap.size w (cellOb W2.heap.size 216 #[.int .i64 1,.bool false,.slice SA sn sc,.slice none 0 0,.int .i64 (f.len:Int)]::[ebOb (.slice SA sn sc) ys]) (W2.alloc (.cells #[.int .i64 1,.bool false,.slice SA sn sc,.slice none 0 0,.int .i64 (f.len:Int)] 216))):=S0.out.1.newCell 216 _;generalize (W2.alloc (.cells #[.int .i64 1,.bool false,.slice SA sn sc,.slice none 0 0,.int .i64 (f.len:Int)] 216))=W3 at S1 |-; have k1:W3.cell? ⟨W2.heap.size,1,none⟩=some (.bool false):=(S1.out.cell 0 rfl).cell 1;obtain ⟨i0,hi,hz0,hz1,hz2⟩:=info_parts info214;go_upto_region 14 with fail
   go_wp2_with (at_builtin;(refine wpList_rowS (t:=149) (e:=214) (size:=1) (bytes:=8) (i:=i0) ((S1.out.newRow 214 1).alloc _) 0 rfl (by rfl) (.tmp 79) (.tmp 81) (by rfl) Tryz.underlying149 hi hz0 hz1 hz2 rfl (by omega) (by rfl) ⟨W3.heap.size,0,none⟩ 1 [vPtr W2.heap.size] (by rfl) rfl (fun j u hu=>by have:=new_cell W3 214 #[vPtr W2.heap.size] _ rfl j;rw [lit_add,Nat.zero_add,this];simpa using hu) (by intro u hu;rw [List.mem_singleton.1 hu];rfl) (by unfold maxLen;omega) (by omega) ?_);refine halt_ ?_)
   intro lv w4 s2;have S2:Hid (SW w.heap.size w [cellOb W2.heap.size 216 #[.int .i64 1,.bool false,.slice SA sn sc,.slice none 0 0,.int .i64 (f.len:Int)],rowOb 214 1 lv 1 [vPtr W2.heap.size],ebOb (.slice SA sn sc) ys] w4):=⟨s2.1.swap,s2.2⟩;obtain ⟨lg,cap,rfl,_,_⟩:=own_one (S2.out.get 1 rfl);clear s2 k1 S1;go_wp2_with fail
   rw [rounds_succ];go_wp2_with fail
   go_meet;exact ⟨SA,sn,sc,ys,fun i hi=>(hnew.out i hi).1,.inr ⟨lg,cap,W2.heap.size,rfl,S2.out⟩⟩
 obtain ⟨SA,sn,sc,zs,hnw,hcut⟩:=hcut;have HNW:=kh hnw;clear hnw
 have HBc:Hid (Below w.heap.size w wc):=by
  rcases hcut with ⟨_,_,_,_,_,_,h⟩ | ⟨_,_,_,_,h⟩<;>exact h.2
 have HCUT:=kh hcut;have HI:=kh (ids_any 143 (fun pl=>pl.A.isSome) x.ps x.cm x.C wc ((HS.out.on HBc.out).scell.cell 2) (HS.out.on HBc.out).sch hp2 (by omega) (enters_of Tryz.func143 (by kernel_rfl) rfl) (fun pl W=>cl143_any pl W));clear hcut hp2 HEN HSO B1b HNF HNN B12 B2 B1 HE0 HE1 HEM c3;go_wp2_with (go_at_call 90;refine HI.out.mono ?_;refine halt_ ?_)
 rintro e w3 ⟨A,ac,ids,rfl,hprm,hsrt,hri,hb3⟩;have HP:=kh hprm;have HSRT:=kh hsrt
 have hne:0<ids.length:=by
  rw [hprm.length_eq];exact List.length_pos_iff.2 hp
 have hle:ids.length<=49:=by
  rw [hprm.length_eq];exact hp3
 have P0:Hid (PF3 F w A ids SA sn sc zs 0 u3 w3):=by
  rcases HCUT.out with ⟨h1,h2,h3,h4,h5,h6,h7⟩ | ⟨lg,cap,pc,h1,h2⟩
  · exact .inl ⟨h1,rfl,h2,h3,h4,h5,h6,h7.addRI hri hb3⟩
  exact .inr ⟨lg,cap,pc,.slice none 0 0,h1,(h2.newRow 31 2).addRI hri hb3⟩
 have HSM:Hid (flen F+frSum ids<=1048576):=by
  have:=HSUM.out;rw [frSum_perm hprm];exact this
 have HIDS:Hid (∀ i∈ids,1<=i.2/\i.2<=8192):=fun i hi=>by
  have:=hprm.mem_iff.1 hi;unfold pends at this;obtain ⟨c,hc,rfl⟩:=List.mem_map.1 this;exact HID.out c (List.mem_filter.1 hc).1
 clear hprm hsrt hri hb3 HCUT HSUM HID hp HCL;go_wp2_with fail
 go_loopw [3,87] (fun s3 s87 wr=>∃ k:Nat,k<=ids.length/\s87= .int .i64 (k:Int)/\PF3 F w A ids SA sn sc zs k s3 wr) (fun _ s87 _=>ids.length-(intOf s87).toNat)
 case atStart=>exact ⟨0,Nat.zero_le _,rfl,P0.out⟩
 obtain ⟨k,hk,rfl,hpf⟩:=hrel;have HPF:=kh hpf;clear hpf;by_cases hlt:k<ids.length
 · obtain ⟨i,hik⟩:∃ i,ids.getD k id0=i:=⟨_,rfl⟩
   have hA:∃ g,A=some ⟨g,0,none⟩:=by
    cases A with
    | none=>
     have h0:ids=[]:=by
      rcases HPF.out with ⟨_,_,_,_,_,_,_,h⟩ | ⟨_,_,_,_,_,h⟩
      · exact (h.get 0 (o:=riOb none ids) rfl).1 rfl
      exact (h.get 0 (o:=riOb none ids) rfl).1 rfl
     rw [h0] at hlt;simp at hlt
    | some ad=>
     rcases HPF.out with ⟨_,_,_,_,_,_,_,h⟩ | ⟨_,_,_,_,_,h⟩
     · obtain ⟨g,rfl,_⟩:=(h.get 0 (o:=riOb (some ad) ids) rfl).2 ad rfl;exact ⟨g,rfl⟩
     obtain ⟨g,rfl,_⟩:=(h.get 0 (o:=riOb (some ad) ids) rfl).2 ad rfl;exact ⟨g,rfl⟩
   obtain ⟨ig,rfl⟩:=hA
   have hrow:RowI wr ig ids:=by
    rcases HPF.out with ⟨_,_,_,_,_,_,_,h⟩ | ⟨_,_,_,_,_,h⟩
    · obtain ⟨g,e,hh,_⟩:=(h.get 0 (o:=riOb (some ⟨ig,0,none⟩) ids) rfl).2 _ rfl;injection e with e;subst e;exact hh
    obtain ⟨g,e,hh,_⟩:=(h.get 0 (o:=riOb (some ⟨ig,0,none⟩) ids) rfl).2 _ rfl;injection e with e;subst e;exact hh
   obtain ⟨a0,a1,_,_⟩:=hrow.cells hlt hik;have HIK:=kh hik;clear hik hrow
   have hib:0<=i.2/\i.2<=8192:=by
    have hm:i∈ids:=by
     rw [<- HIK.out,zA,zB hlt];exact List.getElem_mem hlt
    have:=HIDS.out i hm;omega
   have hts:ids.take (k+1)=ids.take k++[i]:=by
    rw [List.take_succ_eq_append_getElem hlt, <- HIK.out,zA,zB hlt];rfl
   have HTS:=kh hts
   have hsm:flen F+frSum (ids.take k)+(28+i.2.toNat)<=1048576:=by
    have h1:=frSum_take_le ids (k+1);rw [hts,frSum_snoc] at h1;have:=HSM.out;omega
   clear hts;have HIX:=kh (pf_index (i:=i) HPF.out hib.1 hsm);clear HPF;go_upto_region 19 with fail
   go_upto_if 95 with (go_at_call 144;refine HIX.out.mono ?_;rintro e wi ⟨r,rfl,hr⟩;have HR:=kh hr;clear hr)
   go_cut [3,12] from 91 to 114 (fun v3 v12 w'=>v12= .int .i64 0/\PF4 F w (some ⟨ig,0,none⟩) ids SA sn sc zs k wr.heap.size i v3 w')
   case first=>
    rcases HR.out with ⟨rfl,h⟩ | ⟨rfl,rfl,hk0,rfl,rfl,rfl,rfl,rfl,h⟩
    · go_wp2_with fail
      go_meet;exact ⟨rfl,h⟩
    have HH:=kh h;have HK0:=kh hk0;clear h hk0 HR;have S5:=kh (HH.out.newCell 216 #[.int .i64 1,.bool false,.slice none 0 0,.slice none 0 0,.int .i64 0]);obtain ⟨W5,HW5⟩:∃ W5,Hid (wi.alloc (.cells #[.int .i64 1,.bool false,.slice none 0 0,.slice none 0 0,.int .i64 0] 216)=W5):=⟨_,rfl⟩;rw [HW5.out] at S5;obtain ⟨i0,hi,hz0,hz1,hz2⟩:=info_parts info214;go_upto_region 25 with fail
    go_wp2_with (at_builtin;(go_loud (rw [HW5.out];refine wpList_rowS (t:=149) (e:=214) (size:=1) (bytes:=8) (i:=i0) ((S5.out.newRow 214 1).alloc _) 0 rfl (by rfl) (.tmp 109) (.tmp 113) (by rfl) Tryz.underlying149 hi hz0 hz1 hz2 rfl (by omega) (by rfl) ⟨wi.heap.size+1,0,none⟩ 1 [vPtr wi.heap.size] (by rfl) rfl (fun j u hu=>by have:=new_cell W5 214 #[vPtr wi.heap.size] (wi.heap.size+1) (by rw [<- HW5.out];simp) j;rw [lit_add,Nat.zero_add,this];simpa using hu) (by intro u hu;rw [List.mem_singleton.1 hu];rfl) (by unfold maxLen;omega) (by omega) ?_));refine halt_ ?_)
    intro lv w6 s6;have S6:Hid (SW w.heap.size w [cellOb wr.heap.size 31 #[.int .u64 i.1,.int .i64 i.2],riOb (some ⟨ig,0,none⟩) ids,rowOb 31 2 (.slice none 0 0) 0 [],cellOb wi.heap.size 216 #[.int .i64 1,.bool false,.slice none 0 0,.slice none 0 0,.int .i64 0],rowOb 214 1 lv 1 [vPtr wi.heap.size],ebOb (.slice none 0 0) []] w6):=(s6.newRow 31 2).reorder [3,4,0,2,1,5] (n:=6) rfl (by decide);obtain ⟨lg,cap,rfl,_,_⟩:=own_one (S6.out.get 4 rfl);clear s6 HH S5 HW5;go_wp2_with fail
    go_meet;refine ⟨rfl,lg,cap,wi.heap.size,.slice none 0 0,rfl,?_⟩;rw [HK0.out];exact S6.out
   obtain ⟨rfl,lg,cap,pc,av,rfl,s4⟩:=hcut;have S4:=kh s4.drew;clear s4 HR HIX a0 a1;go_upto_region 26 with fail
   refine wp_region_held_tail [(0,true),(1,true),(2,true),(3,true),(4,true),(5,true),(6,true),(7,true),(8,true),(9,true),(10,true),(11,true),(12,false),(13,false),(14,true),(15,true)] (PF5 F w (some ⟨ig,0,none⟩) ids SA sn sc zs k wr.heap.size i lg cap pc av) (by kernel_rfl) (fun _ _ d _ _ h=>by cases d<;>exact h) (by kernel_rfl) ⟨_,_,_,S4.out⟩ ?_;simp only [pk_];generalize wc.drew=W7 at S4 |-; have HC:=kh (fun (w':World) (h:PF5 F w (some ⟨ig,0,none⟩) ids SA sn sc zs k wr.heap.size i lg cap pc av w')=>h.cells)
   iterate 12
    (refine wpHeld_take (v:=?_) (Or.inl ⟨by rfl,?_⟩) ?_
     rotate_left
     · (intro w' hSw;obtain ⟨h1,h2,h3,h4,h5⟩:=HC.out w' hSw;go_simp;try with_reducible rfl)
     try simp only [Act.put,zC,List.set])
   refine wpHeld_run (fun K hK=>?_);go_simp;refine hK.out _ _ ⟨_,_,_,S4.out.alloc _⟩ ?_;clear hK K;try simp only [Act.put,zC,List.set]
   obtain ⟨i1,gi,gz0,gz1,gz2⟩:=info_parts info31;refine wpHeld_run (fun K hK=>?_);refine step_rowS (t:=38) (e:=31) (size:=2) (bytes:=16) (i:=i1) (S4.out.alloc _) 2 rfl (by rfl) (.tmp 125) (.tmp 127) (by rfl) Tryz.underlying38 gi gz0 gz1 gz2 rfl (by omega) (by rfl) ⟨W7.heap.size,0,none⟩ 1 [.int .u64 i.1,.int .i64 i.2] (by rfl) rfl (two_new W7 _ _ 31 _ rfl) (encID_one i) (by unfold maxLen;omega) (by omega) ?_;intro v8 w8 s8;obtain ⟨g8,c8,rfl⟩:=own_some (s8.get 2 rfl) (by omega);refine hK.out _ _ ⟨_,_,_,s8⟩ ?_;clear hK K S4;try simp only [Act.put,zC,List.set]
   (refine wpHeld_take (v:=?_) (Or.inl ⟨by rfl,?_⟩) ?_
    rotate_left
    · (intro w' hSw;obtain ⟨h1,h2,h3,h4,h5⟩:=HC.out w' hSw;go_simp;try with_reducible rfl)
    try simp only [Act.put,zC,List.set])
   (refine wpHeld_take (v:=?_) (Or.inl ⟨by rfl,?_⟩) ?_
    rotate_left
    · (intro w' hSw;obtain ⟨h1,h2,h3,h4,h5⟩:=HC.out w' hSw;go_simp;try with_reducible rfl)
    try simp only [Act.put,zC,List.set])
   refine wpHeld_nil ?_;simp only [dz_]
   have S8:Hid (SW w.heap.size w [cellOb wr.heap.size 31 #[.int .u64 i.1,.int .i64 i.2],riOb (some ⟨ig,0,none⟩) ids,rowOb 31 2 (.slice (some ⟨g8,0,none⟩) (k+1) c8) (k+1) ((ids.take (k+1)).flatMap encID),cellOb pc 216 #[.int .i64 1,.bool false,.slice SA sn sc,av,.int .i64 ((flen F+frSum (ids.take k):Nat):Int)],rowOb 214 1 (.slice (some ⟨lg,0,none⟩) 1 cap) 1 [vPtr pc],ebOb (.slice SA sn sc) zs] w8):=by
    rw [Hid,HTS.out,List.flatMap_append];exact s8
   clear s8 HC;have kf:w8.cell? ⟨pc,3,none⟩=some av:=(S8.out.cell 3 rfl).cell 3;have kz:w8.frozen? ⟨pc,3,none⟩=false:=(S8.out.cell 3 rfl).frozen 3;go_upto_region 27 with fail
   have S9:=kh (S8.out.setAt 3 rfl 3 (.slice (some ⟨g8,0,none⟩) (k+1) c8)).drew;clear kf kz S8;obtain ⟨ln,HLN⟩:∃ ln:Nat,Hid (flen F+frSum (ids.take k)=ln):=⟨_,rfl⟩;rw [HLN.out] at S9 hsm;have S9':Hid (SW w.heap.size w [cellOb wr.heap.size 31 #[.int .u64 i.1,.int .i64 i.2],riOb (some ⟨ig,0,none⟩) ids,rowOb 31 2 (.slice (some ⟨g8,0,none⟩) (k+1) c8) (k+1) ((ids.take (k+1)).flatMap encID),cellOb pc 216 #[.int .i64 1,.bool false,.slice SA sn sc,.slice (some ⟨g8,0,none⟩) (k+1) c8,.int .i64 (ln:Int)],rowOb 214 1 (.slice (some ⟨lg,0,none⟩) 1 cap) 1 [vPtr pc],ebOb (.slice SA sn sc) zs] (w8.setCell ⟨pc,3,none⟩ (.slice (some ⟨g8,0,none⟩) (k+1) c8)).drew):=S9.out;clear S9;have hsum:IntKind.i64.wrap ((ln:Int)+(28+i.2))=(ln:Int)+(28+i.2):=IntWalk.i64_in _ (by omega)
   refine wp_region_held_tail [(0,true),(1,true),(2,true),(3,true),(4,true),(5,true),(6,true),(7,true),(8,false),(9,true),(10,true),(11,true)] (SW w.heap.size w [cellOb wr.heap.size 31 #[.int .u64 i.1,.int .i64 i.2],riOb (some ⟨ig,0,none⟩) ids,rowOb 31 2 (.slice (some ⟨g8,0,none⟩) (k+1) c8) (k+1) ((ids.take (k+1)).flatMap encID),cellOb pc 216 #[.int .i64 1,.bool false,.slice SA sn sc,.slice (some ⟨g8,0,none⟩) (k+1) c8,.int .i64 (ln:Int)],rowOb 214 1 (.slice (some ⟨lg,0,none⟩) 1 cap) 1 [vPtr pc],ebOb (.slice SA sn sc) zs]) (by kernel_rfl) (fun _ _ d _ _ h=>by cases d<;>exact h) (by kernel_rfl) S9'.out ?_;simp only [pk_];generalize (w8.setCell ⟨pc,3,none⟩ (.slice (some ⟨g8,0,none⟩) (k+1) c8)).drew=W9 at S9' |-
   have HC:=kh (fun (w':World) (h:SW w.heap.size w [cellOb wr.heap.size 31 #[.int .u64 i.1,.int .i64 i.2],riOb (some ⟨ig,0,none⟩) ids,rowOb 31 2 (.slice (some ⟨g8,0,none⟩) (k+1) c8) (k+1) ((ids.take (k+1)).flatMap encID),cellOb pc 216 #[.int .i64 1,.bool false,.slice SA sn sc,.slice (some ⟨g8,0,none⟩) (k+1) c8,.int .i64 (ln:Int)],rowOb 214 1 (.slice (some ⟨lg,0,none⟩) 1 cap) 1 [vPtr pc],ebOb (.slice SA sn sc) zs] w')=>(⟨by
    obtain ⟨lg2,cap2,e1,e2,_⟩:=own_one (h.get 4 rfl);injection e1 with e1 _ e3;injection e1 with e1;injection e1 with e1;rw [e1];exact e2,(h.cell 3 rfl).cell 4,(h.cell 0 rfl).cell 0,(h.cell 0 rfl).cell 1⟩:w'.cell? ⟨lg,0,none⟩=some (vPtr pc)/\w'.cell? ⟨pc,4,none⟩=some (.int .i64 (ln:Int))/\w'.cell? ⟨wr.heap.size,0,none⟩=some (.int .u64 i.1)/\w'.cell? ⟨wr.heap.size,1,none⟩=some (.int .i64 i.2)))
   iterate 8
    (refine wpHeld_take (v:=?_) (Or.inl ⟨by rfl,?_⟩) ?_
     rotate_left
     · (intro w' hSw;obtain ⟨h1,h2,h3,h4⟩:=HC.out w' hSw;go_simp;try with_reducible rfl)
     try simp only [Act.put,zC,List.set])
   refine wpHeld_run (fun K hK=>?_);go_simp;go_at_call 140
   refine (frameSize_any i _ hib.1 (by omega)).mono ?_;rintro e w9 ⟨rfl,hb9⟩;have S10:=kh (S9'.out.on hb9);go_wp2_with fail
   refine hK.out _ _ S10.out ?_;clear hK K S9' hb9;try simp only [Act.put,zC,List.set]
   iterate 3
    (refine wpHeld_take (v:=?_) (Or.inl ⟨by rfl,?_⟩) ?_
     rotate_left
     · (intro w' hSw;obtain ⟨h1,h2,h3,h4⟩:=HC.out w' hSw;go_simp;try with_reducible rfl)
     try simp only [Act.put,zC,List.set])
   refine wpHeld_nil ?_;simp only [dz_];clear HC;have kf:w9.cell? ⟨pc,4,none⟩=some (.int .i64 (ln:Int)):=(S10.out.cell 3 rfl).cell 4;have kz:w9.frozen? ⟨pc,4,none⟩=false:=(S10.out.cell 3 rfl).frozen 4
   have hln:(ln:Int)+(28+i.2)=((flen F+frSum (ids.take (k+1)):Nat):Int):=by
    rw [HTS.out,frSum_snoc, <- HLN.out];omega
   have HLN2:=kh hln;clear hln;go_wp2_with fail
   go_roundw
   case rel=>
    refine ⟨k+1,by omega,by go_num,.inr ⟨lg,cap,pc,.slice (some ⟨g8,0,none⟩) (k+1) c8,rfl,?_⟩⟩;rw [<- HLN2.out];exact (S10.out.setAt 3 rfl 4 (.int .i64 ((ln:Int)+(28+i.2)))).tail
   simp [intOf];omega
 have hkn:k=ids.length:=by omega
 subst hkn;rcases HPF.out with ⟨_,h0,_⟩ | ⟨lg,cap,pc,av,rfl,s4⟩
 · omega
 obtain ⟨lg2,cap2,e1,e2,_⟩:=own_one (s4.get 3 rfl);injection e1 with e1 _ e3;injection e1 with e1;injection e1 with e1;subst e1;subst e3;obtain ⟨g8,c8,rfl⟩:=own_some (s4.get 1 rfl) (by omega);have HD:=kh (delete147 lg pc cap (some ⟨g8,0,none⟩) ids.length c8 wr e2 ((s4.cell 2 rfl).cell 3) hne);have S4:=kh s4;clear s4 e2 HPF P0;go_wp2_with (go_at_call 146;(with_reducible refine HD.out.mono ?_);rintro e w9 ⟨rfl,hb9⟩)
 go_ret;have s5:=(S4.out.on hb9).tail;rw [List.take_length] at s5
 exact ⟨lg,cap,pc,.slice (some ⟨g8,0,none⟩) ids.length c8,SA,sn,sc,zs,ids,rfl,HP.out,HSRT.out,HNW.out,by
  rw [HF.out];exact s5.reorder [1,0,2,3] (n:=4) rfl (by decide)⟩
end
end Go.Proofs.YteabgcollokgjaaGreatDoor
