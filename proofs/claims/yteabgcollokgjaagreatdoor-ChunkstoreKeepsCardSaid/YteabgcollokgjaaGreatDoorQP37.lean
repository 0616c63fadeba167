/- Q -/
import Derived.Test.YteabgcollokgjaaGreatDoorQP28
set_option linter.unusedSimpArgs false
set_option linter.unusedVariables false
set_option maxRecDepth 100000
set_option maxHeartbeats 32000000
open Go.Lib renaming hid → kh
open List renaming getD_eq_getElem?_getD → zA,getElem?_eq_getElem → zB,take_succ_eq_append_getElem → zC,setIfInBounds_toArray → zD
namespace Go.Proofs.YteabgcollokgjaaGreatDoor
section
open Go.RowKit Go.MapKept Go.ChangeMaps Go.Shelf Go.Sort
attribute [local go_sem] wext_cell
def PU1 (F:Option FR) (w:World) (lv:Value) (SA:Option Addr) (sn sc:Nat) (ys:List Ent) (w':World):Prop:=
 (F=none/\lv= .slice none 0 0/\SA=none/\sn=0/\sc=0/\ys=[]/\SW w.heap.size w [ebOb (.slice SA sn sc) ys] w')∨
 (∃ lg cap pc,lv= .slice (some ⟨lg,0,none⟩) 1 cap/\SW w.heap.size w [cellOb pc 216 #[.int .i64 1,.bool true,.slice SA sn sc,.slice none 0 0,.int .i64 (entSum ys:Int)],rowOb 214 1 (.slice (some ⟨lg,0,none⟩) 1 cap) 1 [vPtr pc],ebOb (.slice SA sn sc) ys] w')
def PU3 (F:Option FR) (w:World) (A:Option Addr) (ids:List ID) (SA:Option Addr) (sn sc:Nat) (ys:List Ent) (k:Nat) (lv:Value) (w':World):Prop:=
 (F=none/\k=0/\lv= .slice none 0 0/\SA=none/\sn=0/\sc=0/\ys=[]/\SW w.heap.size w [riOb A ids,ebOb (.slice SA sn sc) ys] w')∨
 (∃ lg cap pc av,lv= .slice (some ⟨lg,0,none⟩) 1 cap/\SW w.heap.size w [riOb A ids,rowOb 31 2 av k ((ids.take k).flatMap encID),cellOb pc 216 #[.int .i64 1,.bool true,.slice SA sn sc,av,.int .i64 ((entSum ys+frSum (ids.take k):Nat):Int)],rowOb 214 1 (.slice (some ⟨lg,0,none⟩) 1 cap) 1 [vPtr pc],ebOb (.slice SA sn sc) ys] w')
def PU5 (F:Option FR) (w:World) (A:Option Addr) (ids:List ID) (SA:Option Addr) (sn sc:Nat) (ys:List Ent) (k:Nat) (H:Nat) (i:ID) (lg cap pc:Nat) (av:Value) (w':World):Prop:=
 ∃ (v:Value) (n:Nat) (xs:List Value),SW w.heap.size w [cellOb H 31 #[.int .u64 i.1,.int .i64 i.2],riOb A ids,rowOb 31 2 v n xs,cellOb pc 216 #[.int .i64 1,.bool true,.slice SA sn sc,av,.int .i64 ((entSum ys+frSum (ids.take k):Nat):Int)],rowOb 214 1 (.slice (some ⟨lg,0,none⟩) 1 cap) 1 [vPtr pc],ebOb (.slice SA sn sc) ys] w'
theorem PU5.cells {F:Option FR} {w:World} {A:Option Addr} {ids:List ID} {SA:Option Addr} {sn sc:Nat} {ys:List Ent} {k H:Nat} {i:ID} {lg cap pc:Nat} {av:Value} {w':World} (h:PU5 F w A ids SA sn sc ys k H i lg cap pc av w'):
 w'.cell? ⟨lg,0,none⟩=some (vPtr pc)/\w'.cell? ⟨pc,3,none⟩=some av/\w'.cell? ⟨H,0,none⟩=some (.int .u64 i.1)/\w'.cell? ⟨H,1,none⟩=some (.int .i64 i.2)/\w'.cell? ⟨pc,4,none⟩=some (.int .i64 ((entSum ys+frSum (ids.take k):Nat):Int)):=by
 obtain ⟨v,n,xs,h⟩:=h;refine ⟨?_,(h.cell 3 rfl).cell 3,(h.cell 0 rfl).cell 0,(h.cell 0 rfl).cell 1,(h.cell 3 rfl).cell 4⟩;obtain ⟨lg2,cap2,e1,e2,_⟩:=own_one (h.get 4 rfl);injection e1 with e1 _ e3;injection e1 with e1;injection e1 with e1;rw [e1];exact e2
def PU4 (F:Option FR) (w:World) (A:Option Addr) (ids:List ID) (SA:Option Addr) (sn sc:Nat) (ys:List Ent) (k:Nat) (H:Nat) (i:ID) (lv:Value) (w':World):Prop:=
 ∃ lg cap pc av,lv= .slice (some ⟨lg,0,none⟩) 1 cap/\SW w.heap.size w [cellOb H 31 #[.int .u64 i.1,.int .i64 i.2],riOb A ids,rowOb 31 2 av k ((ids.take k).flatMap encID),cellOb pc 216 #[.int .i64 1,.bool true,.slice SA sn sc,av,.int .i64 ((entSum ys+frSum (ids.take k):Nat):Int)],rowOb 214 1 (.slice (some ⟨lg,0,none⟩) 1 cap) 1 [vPtr pc],ebOb (.slice SA sn sc) ys] w'
def IxU (F:Option FR) (w:World) (A:Option Addr) (ids:List ID) (SA:Option Addr) (sn sc:Nat) (ys:List Ent) (k:Nat) (H:Nat) (i:ID) (lv:Value) (e:Ending) (w':World):Prop:=
 ∃ r:Int,e= .returned (.int .i64 r)/\((r=0/\PU4 F w A ids SA sn sc ys k H i lv w')∨(r= -1/\F=none/\k=0/\lv= .slice none 0 0/\SA=none/\sn=0/\sc=0/\ys=[]/\SW w.heap.size w [cellOb H 31 #[.int .u64 i.1,.int .i64 i.2],riOb A ids,ebOb (.slice SA sn sc) ys] w'))
theorem pu_index {F:Option FR} {w:World} {A:Option Addr} {ids:List ID} {SA:Option Addr} {sn sc:Nat} {ys:List Ent} {k:Nat} {i:ID} {lv:Value} {wr:World} (h:PU3 F w A ids SA sn sc ys k lv wr) (hi:0<=i.2) (hs:entSum ys+frSum (ids.take k)+(28+i.2.toNat)<=1048576):
 Calls Tryz.prog 144 #[lv,.func (.func 145) #[] #[vPtr wr.heap.size]] (wr.alloc (.cells #[.int .u64 i.1,.int .i64 i.2] 31)) (IxU F w A ids SA sn sc ys k wr.heap.size i lv):=by
 rcases h with ⟨rfl,rfl,rfl,rfl,rfl,rfl,rfl,h⟩ | ⟨lg,cap,pc,av,rfl,h⟩
 · refine (index0 _ _).mono ?_;rintro e w' ⟨rfl,hb⟩;exact ⟨-1,rfl,.inr ⟨rfl,rfl,rfl,rfl,rfl,rfl,rfl,rfl,(h.newCell 31 _).on hb⟩⟩
 have h2:=h.newCell 31 #[.int .u64 i.1,.int .i64 i.2];obtain ⟨lg2,cap2,e1,e2,_⟩:=own_one (h2.get 4 rfl);injection e1 with e1 _ e3;injection e1 with e1;injection e1 with e1;subst e1;refine (index145 lg pc wr.heap.size cap ((entSum ys+frSum (ids.take k):Nat):Int) i _ e2 ((h2.cell 3 rfl).cell 4) ((h2.cell 0 rfl).cell 0) ((h2.cell 0 rfl).cell 1) hi (by omega) (by omega)).mono ?_;rintro e w' ⟨rfl,hb⟩;exact ⟨0,rfl,.inl ⟨rfl,lg,cap,pc,av,rfl,h2.on hb⟩⟩
def PUPost (x:SR) (w:World) (e:Ending) (w':World):Prop:=
 ∃ (lg cap pc:Nat) (av:Value) (SA:Option Addr) (sn sc:Nat) (ys:List Ent) (ids:List ID),e= .returned (.slice (some ⟨lg,0,none⟩) 1 cap)/\ids.Perm (pends x.C)/\SortedI ids/\(∀ i,(Value.slice SA sn sc).ownBlock=some i->w.heap.size<=i)/\ys.Perm (durs x.C)/\
  SW w.heap.size w [cellOb pc 216 #[.int .i64 1,.bool true,.slice SA sn sc,av,.int .i64 ((entSum ys+frSum ids:Nat):Int)],rowOb 31 2 av ids.length (ids.flatMap encID),rowOb 214 1 (.slice (some ⟨lg,0,none⟩) 1 cap) 1 [vPtr pc],ebOb (.slice SA sn sc) ys] w'
theorem planFlushU_any {b:Nat} {w:World} {x:SR} {l:List Ob} (h:Sto b w x l) (hcl:∃ f,x.F=some f/\f.clean=false) (hC:x.C.length<=4096) (hid:∀ c∈x.C,1<=c.1.2/\c.1.2<=8192)
 (hp:pends x.C≠[]) (hp2:(pends x.C).length<=49) (hsum:entSum (durs x.C)+frSum (pends x.C)<=1048576):
 Calls Tryz.prog 93 #[vPtr x.ps] w (PUPost x w):=by
 have HEN:=kh (entries_any x.ps x.cm x.C w (h.scell.cell 2) h.sch (by omega) (pend_some h));have HS:=kh h;have HCL:=kh hcl;have HID:=kh hid;have hps:x.ps<w.heap.size:=h.scell.lt;have HSUM:=kh hsum;clear h hcl hid hsum;have hp3:=hp2;go_enter Tryz.func93,Tryz.ntmps93;go_wp2_with (go_at_call 100;refine HEN.out.mono ?_;refine halt_ ?_)
 rintro e w1 ⟨ev,ys,am,rfl,ham,hem,hys,hsrt,hev0,hev1,hb1⟩;have HEM:=kh hem;have B1:=kh hb1;have HE0:=kh hev0;have HE1:=kh hev1;have HYS:=kh hys;clear hem hb1 hev0 hev1 hys hsrt;have hsz1:=B1.out.size;have c3:w1.cell? ⟨x.ps,3,none⟩=some (.map (some x.fm)):=(HS.out.on B1.out).scell.cell 3;have B1b:Hid (Below w1.heap.size w1 (w1.alloc (.cells #[.map (some x.fm)] 129))):=bel1q _ _;have HSO:=kh (sortedF_any w1.heap.size x.fm x.F (w1.alloc (.cells #[.map (some x.fm)] 129)) (by simp) ((IsB.new w1 129 #[.map (some x.fm)]).cell 0) ((HS.out.on B1.out).on B1b.out).sfl);go_wp2_with (first | (go_at_call 139;refine (keysF_any (some x.fm) _).mono ?_;rintro e w2 ⟨rfl,rfl⟩) | (go_at_call 138;refine HSO.out.mono ?_;refine halt_ ?_))
 rintro e w2 ⟨NA,nn,nc,rfl,hnn,hnf,hb2⟩;have B2:Hid (Below w.heap.size w w2):=(B1.out.trans ((B1b.out.trans (hb2.mono (by simp))).mono hsz1));have HNF:=kh hnf;have B12:=kh (B1b.out.trans (hb2.mono (by simp)));clear hnf hb2;obtain ⟨F,HF⟩:∃ F,Hid (x.F=F):=⟨_,rfl⟩;rw [HF.out] at HNF HCL hnn;have HNN:=kh hnn;clear hnn;have hps2:x.ps<w2.heap.size:=Nat.lt_of_lt_of_le hps B2.out.size;go_upto_block 0 with fail
 go_cut [3] from 5 (fun v3 w'=>∃ (SA:Option Addr) (sn sc:Nat) (ys:List Ent),(∀ i,(Value.slice SA sn sc).ownBlock=some i->w.heap.size<=i)/\ys.Perm (durs x.C)/\PU1 F w v3 SA sn sc ys w')
 case first=>
  cases F with
  | none=>
   obtain ⟨f,hf,_⟩:=HCL.out;cases hf
  | some f=>
   obtain ⟨g,rfl,hg1,hg2,hg3⟩:=HNF.out f rfl;have h0:nn=1:=HNN.out;subst h0;clear c3 HNN
   have hfc:f.clean=false:=by
    obtain ⟨f',e,h⟩:=HCL.out;injection e with e;subst e;exact h
   have hyl:ys.length<=4096:=by
    have h1:=HYS.out.length_eq;have h2:(durs x.C).length<=x.C.length:=durs_len x.C;omega
   have HE:Hid (EntsAt w1 ev ys):=ents_of HE0.out (fun hy=>by
    obtain ⟨g',c',h1,h2,h3,h4⟩:=HE1.out hy;exact ⟨g',c',h1,h3,h4⟩)
   obtain ⟨SA,sn,sc,rfl⟩:∃ SA sn sc,ev= .slice SA sn sc:=by
    by_cases hy:ys=[]
    · exact ⟨_,_,_,HE0.out hy⟩
    obtain ⟨g',c',h1,_⟩:=HE1.out hy;exact ⟨_,_,_,h1⟩
   have hnew:Hid (∀ i,(Value.slice SA sn sc).ownBlock=some i->w.heap.size<=i/\i<w1.heap.size):=fun i hi=>by
    by_cases hy:ys=[]
    · rw [HE0.out hy] at hi;cases hi
    obtain ⟨g',c',h1,h2,h3,_⟩:=HE1.out hy;rw [h1] at hi;cases hi
    exact ⟨h2,h3⟩
   have SW0:Hid (SW w.heap.size w [ebOb (.slice SA sn sc) ys] w2):=⟨Sep.reader B2.out.size (Ob.stable (ebOb (.slice SA sn sc) ys) w1 w2 HE.out ⟨B12.out.os,B12.out.tape,B12.out.output,B12.out.size⟩ (fun i hi=>B12.out.block i (by
    rcases hi with hi | hi
    · exact hi.elim
    exact (hnew.out i hi).2))) (fun _ h=>h) (fun i hi=>Nat.lt_of_lt_of_le (hnew.out i hi).2 B12.out.size),B2.out⟩
   have HC:=kh (fun (w':World) (h:SW w.heap.size w [ebOb (.slice SA sn sc) ys] w'/\Below w1.heap.size w1 w')=>(⟨(HS.out.on h.1.2).scell.cell 3,look_eM (HEM.out.on h.2) (fun h0=>HE0.out (List.eq_nil_of_length_eq_zero h0)),look_f1 (HS.out.on h.1.2).sfl HF.out,((HS.out.on h.1.2).sfile HF.out).1.cell 0,by
    have:=((HS.out.on h.1.2).sfile HF.out).1.cell 1;rw [<- hfc];exact this⟩:w'.cell? ⟨x.ps,3,none⟩=some (.map (some x.fm))/\(Instr.lookup 161 (.map (some am)) (.int .i64 1) false).run Tryz.prog w'= .ok (.slice SA sn sc) w'/\(Instr.lookup 129 (.map (some x.fm)) (.int .i64 1) false).run Tryz.prog w'= .ok (vPtr f.fb) w'/\w'.cell? ⟨f.fb,0,none⟩=some (.int .i64 (f.len:Int))/\w'.cell? ⟨f.fb,1,none⟩=some (.bool false)))
   clear hfc HE hg1 hg2;go_wp2_with fail
   refine wp_loop_rounds 2 ?_;rw [rounds_succ];go_upto_region 6 with fail
   have S0:=kh (⟨SW0.out.drew,B12.out.drew⟩:SW w.heap.size w [ebOb (.slice SA sn sc) ys] w2.drew/\Below w1.heap.size w1 w2.drew);refine wp_region_held_tail [(0,true),(1,true),(2,true),(3,true),(4,true),(5,true),(6,true),(7,true),(8,true),(9,true),(10,true),(11,true),(12,true),(13,true),(14,true),(15,true),(16,true),(17,true),(18,true),(19,true),(20,true),(21,true),(22,true),(23,true),(24,false)] (fun w'=>SW w.heap.size w [ebOb (.slice SA sn sc) ys] w'/\Below w1.heap.size w1 w') (by kernel_rfl) (fun _ _ d _ _ h=>by cases d<;>exact h) (by kernel_rfl) S0.out ?_;generalize w2.drew=W2 at S0 |-; simp only [pk_]
   iterate 24
    (refine wpHeld_take (v:=?_) (Or.inl ⟨by rfl,?_⟩) ?_
     rotate_left
     · (intro w' hSw;obtain ⟨h1,h2,h3,h4,h5⟩:=HC.out w' hSw;go_simp;try with_reducible rfl)
     try simp only [Act.put,zD,List.set])
   refine wpHeld_run (fun K hK=>?_);go_simp;refine hK.out _ _ ⟨S0.out.1.alloc _,S0.out.2.alloc (S0.out.2.size) _⟩ ?_;clear hK K HC;refine wpHeld_nil ?_;simp only [dz_];have S1:Hid (SW w.heap.size w (cellOb W2.heap.size 216 #[.int .i64 1,.bool true,.slice SA sn sc,.slice none 0 0,.int .i64 (f.len:Int)]::[ebOb (.slice SA sn sc) ys]) (W2.alloc (.cells #[.int .i64 1,.bool true,.slice SA sn sc,.slice none 0 0,.int .i64 (f.len:Int)] 216))):=S0.out.1.newCell 216 _;generalize (W2.alloc (.cells #[.int .i64 1,.bool true,.slice SA sn sc,.slice none 0 0,.int .i64 (f.len:Int)] 216))=W3 at S1 |-; generalize W2.heap.size=pc at S1 |-; have k1:W3.cell? ⟨pc,1,none⟩=some (.bool true):=(S1.out.cell 0 rfl).cell 1;have k4:W3.cell? ⟨pc,4,none⟩=some (.int .i64 (f.len:Int)):=(S1.out.cell 0 rfl).cell 4;have kz:W3.frozen? ⟨pc,4,none⟩=false:=(S1.out.cell 0 rfl).frozen 4
   have HYI:Hid (∀ y∈ys,okID y.1/\1<=y.1.2/\y.1.2<=8192):=fun y hy=>by
    have h1:=durs_mem (HYS.out.mem_iff.1 hy);exact ⟨HS.out.sch.oks _ h1,HID.out _ h1⟩
   go_upto_region 9 with fail
   have S2:Hid (SW w.heap.size w [cellOb pc 216 #[.int .i64 1,.bool true,.slice SA sn sc,.slice none 0 0,.int .i64 ((entSum (ys.take 0):Nat):Int)],ebOb (.slice SA sn sc) ys] (W3.setCell ⟨pc,4,none⟩ (.int .i64 0))):=S1.out.setAt 0 rfl 4 (.int .i64 0);clear k1 k4 kz S1;generalize W3.setCell ⟨pc,4,none⟩ (.int .i64 0)=W4 at S2 |-
   have hsn:sn=ys.length:=by
    have h1:EntsAt W4 (.slice SA sn sc) ys:=S2.out.get 1 (o:=ebOb (.slice SA sn sc) ys) rfl;by_cases hy:ys=[]
    · have h2:=h1.1 hy;injection h2 with _ h3 _;rw [h3,hy];rfl
    obtain ⟨g',c',h2,_⟩:=h1.2 hy;injection h2
   subst hsn;have k2:W4.cell? ⟨pc,2,none⟩=some (.slice SA ys.length sc):=(S2.out.cell 0 rfl).cell 2;go_wp2_with fail
   clear k2;go_loopw [64] (fun s64 wr=>∃ k:Nat,k<=ys.length/\s64= .int .i64 (k:Int)/\SW w.heap.size w [cellOb pc 216 #[.int .i64 1,.bool true,.slice SA ys.length sc,.slice none 0 0,.int .i64 ((entSum (ys.take k):Nat):Int)],ebOb (.slice SA ys.length sc) ys] wr) (fun s64 _=>ys.length-(intOf s64).toNat)
   case atStart=>exact ⟨0,Nat.zero_le _,rfl,S2.out⟩
   obtain ⟨k,hk,rfl,hs⟩:=hrel;have S20:=kh hs;clear hs S2;by_cases hlt:k<ys.length
   · have hne:ys≠[]:=by
      intro e;rw [e] at hlt;simp at hlt
     obtain ⟨g',c',e1,hgl',hcl'⟩:=(S20.out.get 1 (o:=ebOb (.slice SA ys.length sc) ys) rfl).2 hne;injection e1 with e1 _ e3;subst e1;subst e3;obtain ⟨y,hy⟩:∃ y,ys.getD k ent0=y:=⟨_,rfl⟩;obtain ⟨a0,a1,a2⟩:=hcl' k hlt;rw [hy] at a0 a1 a2
     have hmem:y∈ys:=by
      rw [<- hy,zA,zB hlt];exact List.getElem_mem hlt
     obtain ⟨hok,hy1,hy2⟩:=HYI.out y hmem
     have hts:ys.take (k+1)=ys.take k++[y]:=by
      rw [zC hlt, <- hy,zA,zB hlt];rfl
     have HT2:Hid (entSum (ys.take (k+1))=entSum (ys.take k)+(28+y.1.2.toNat)):=by rw [Hid,hts,entSum_snoc]
     have hes:entSum (ys.take k)<=4096*8220:=by
      refine Nat.le_trans (entSum_le _ (fun z hz=>(HYI.out z (List.mem_of_mem_take hz)).2.2)) (Nat.mul_le_mul_right _ ?_);rw [List.length_take];omega
     obtain ⟨ln,HLN⟩:∃ ln,Hid (entSum (ys.take k)=ln):=⟨_,rfl⟩;rw [HLN.out] at S20 hes;have S21:Hid (SW w.heap.size w (cellOb wr.heap.size 166 #[.int .u64 y.1.1,.int .i64 y.1.2,.int .i64 (y.2:Int)]::[cellOb pc 216 #[.int .i64 1,.bool true,.slice (some ⟨g',0,none⟩) ys.length sc,.slice none 0 0,.int .i64 (ln:Int)],ebOb (.slice (some ⟨g',0,none⟩) ys.length sc) ys]) (wr.alloc (.cells #[.int .u64 y.1.1,.int .i64 y.1.2,.int .i64 (y.2:Int)] 166))):=S20.out.newCell 166 _;clear hcl' hy hmem hts S20 hok;go_upto_region 12 with fail
     clear a0 a1 a2;have hsum:IntKind.i64.wrap ((ln:Int)+(28+y.1.2))=(ln:Int)+(28+y.1.2):=IntWalk.i64_in _ (by omega);have S9:=kh S21.out.drew;clear S21;refine wp_region_held_tail [(0,true),(1,true),(2,true),(3,true),(4,true),(5,true),(6,false),(7,true),(8,true),(9,true)] (SW w.heap.size w (cellOb wr.heap.size 166 #[.int .u64 y.1.1,.int .i64 y.1.2,.int .i64 (y.2:Int)]::[cellOb pc 216 #[.int .i64 1,.bool true,.slice (some ⟨g',0,none⟩) ys.length sc,.slice none 0 0,.int .i64 (ln:Int)],ebOb (.slice (some ⟨g',0,none⟩) ys.length sc) ys])) (by kernel_rfl) (fun _ _ d _ _ h=>by cases d<;>exact h) (by kernel_rfl) S9.out ?_;simp only [pk_];generalize (wr.alloc (.cells #[.int .u64 y.1.1,.int .i64 y.1.2,.int .i64 (y.2:Int)] 166)).drew=W9 at S9 |-; have HC:=kh (fun (w':World) (h:SW w.heap.size w (cellOb wr.heap.size 166 #[.int .u64 y.1.1,.int .i64 y.1.2,.int .i64 (y.2:Int)]::[cellOb pc 216 #[.int .i64 1,.bool true,.slice (some ⟨g',0,none⟩) ys.length sc,.slice none 0 0,.int .i64 (ln:Int)],ebOb (.slice (some ⟨g',0,none⟩) ys.length sc) ys]) w')=>(⟨(h.cell 1 rfl).cell 4,(h.cell 0 rfl).cell 0,(h.cell 0 rfl).cell 1⟩:w'.cell? ⟨pc,4,none⟩=some (.int .i64 (ln:Int))/\w'.cell? ⟨wr.heap.size,0,none⟩=some (.int .u64 y.1.1)/\w'.cell? ⟨wr.heap.size,1,none⟩=some (.int .i64 y.1.2)))
     iterate 6
      (refine wpHeld_take (v:=?_) (Or.inl ⟨by rfl,?_⟩) ?_
       rotate_left
       · (intro w' hSw;obtain ⟨h1,h2,h3⟩:=HC.out w' hSw;go_simp;try with_reducible rfl)
       try simp only [Act.put,zD,List.set])
     refine wpHeld_run (fun K hK=>?_);go_simp;go_at_call 140
     refine (frameSize_any y.1 _ (by omega) (by omega)).mono ?_;rintro e w9 ⟨rfl,hb9⟩;have S10:=kh (S9.out.on hb9);go_wp2_with fail
     refine hK.out _ _ S10.out ?_;clear hK K S9 hb9;try simp only [Act.put,zD,List.set]
     iterate 3
      (refine wpHeld_take (v:=?_) (Or.inl ⟨by rfl,?_⟩) ?_
       rotate_left
       · (intro w' hSw;obtain ⟨h1,h2,h3⟩:=HC.out w' hSw;go_simp;try with_reducible rfl)
       try simp only [Act.put,zD,List.set])
     refine wpHeld_nil ?_;simp only [dz_];clear HC;have kf:w9.cell? ⟨pc,4,none⟩=some (.int .i64 (ln:Int)):=(S10.out.cell 1 rfl).cell 4;have kz:w9.frozen? ⟨pc,4,none⟩=false:=(S10.out.cell 1 rfl).frozen 4
     have HLN2:Hid ((ln:Int)+(28+y.1.2)=((entSum (ys.take (k+1)):Nat):Int)):=by
      rw [Hid,HT2.out,HLN.out];omega
     go_wp2_with fail
     go_roundw
     case rel=>
      refine ⟨k+1,by omega,by go_num,?_⟩;rw [<- HLN2.out];exact (S10.out.setAt 1 rfl 4 (.int .i64 ((ln:Int)+(28+y.1.2)))).tail
     simp [intOf];omega
   have hkn:k=ys.length:=by omega
   subst hkn;rw [List.take_length] at S20;clear hlt hk;obtain ⟨i0,hi,hz0,hz1,hz2⟩:=info_parts info214;go_upto_region 14 with fail
   go_wp2_with (at_builtin;(refine wpList_rowS (t:=149) (e:=214) (size:=1) (bytes:=8) (i:=i0) ((S20.out.newRow 214 1).alloc _) 0 rfl (by rfl) (.tmp 79) (.tmp 81) (by rfl) Tryz.underlying149 hi hz0 hz1 hz2 rfl (by omega) (by rfl) ⟨wr.heap.size,0,none⟩ 1 [vPtr pc] (by rfl) rfl (fun j u hu=>by have:=new_cell wr 214 #[vPtr pc] _ rfl j;rw [lit_add,Nat.zero_add,this];simpa using hu) (by intro u hu;rw [List.mem_singleton.1 hu];rfl) (by unfold maxLen;omega) (by omega) ?_);refine halt_ ?_)
   intro lv w4 s2;have S3:Hid (SW w.heap.size w [cellOb pc 216 #[.int .i64 1,.bool true,.slice SA ys.length sc,.slice none 0 0,.int .i64 ((entSum ys:Nat):Int)],rowOb 214 1 lv 1 [vPtr pc],ebOb (.slice SA ys.length sc) ys] w4):=⟨s2.1.swap,s2.2⟩;obtain ⟨lg,cap,rfl,_,_⟩:=own_one (S3.out.get 1 rfl);clear s2 S20;go_wp2_with fail
   rw [rounds_succ];go_wp2_with fail
   go_meet;exact ⟨SA,ys.length,sc,ys,fun i hi=>(hnew.out i hi).1,HYS.out,.inr ⟨lg,cap,pc,rfl,S3.out⟩⟩
 obtain ⟨SA,sn,sc,zs,hnw,hzp,hcut⟩:=hcut;have HZP:=kh hzp
 have HFN:Hid (F≠none):=fun e=>by
  obtain ⟨f,hf,_⟩:=HCL.out;rw [e] at hf;cases hf
 clear hzp;have HNW:=kh hnw;clear hnw
 have HBc:Hid (Below w.heap.size w wc):=by
  rcases hcut with ⟨_,_,_,_,_,_,h⟩ | ⟨_,_,_,_,h⟩<;>exact h.2
 have HCUT:=kh hcut;have HI:=kh (ids_any 143 (fun pl=>pl.A.isSome) x.ps x.cm x.C wc ((HS.out.on HBc.out).scell.cell 2) (HS.out.on HBc.out).sch hp2 (by omega) (enters_of Tryz.func143 (by kernel_rfl) rfl) (fun pl W=>cl143_any pl W));clear hcut hp2 HEN HSO B1b HNF HNN B12 B2 B1 HE0 HE1 HEM c3;go_wp2_with (go_at_call 90;refine HI.out.mono ?_;refine halt_ ?_)
 rintro e w3 ⟨A,ac,ids,rfl,hprm,hsrt,hri,hb3⟩;have HP:=kh hprm;have HSRT:=kh hsrt
 have hne:0<ids.length:=by
  rw [hprm.length_eq];exact List.length_pos_iff.2 hp
 have hle:ids.length<=49:=by
  rw [hprm.length_eq];exact hp3
 have P0:Hid (PU3 F w A ids SA sn sc zs 0 u3 w3):=by
  rcases HCUT.out with ⟨h1,h2,h3,h4,h5,h6,h7⟩ | ⟨lg,cap,pc,h1,h2⟩
  · exact .inl ⟨h1,rfl,h2,h3,h4,h5,h6,h7.addRI hri hb3⟩
  exact .inr ⟨lg,cap,pc,.slice none 0 0,h1,(h2.newRow 31 2).addRI hri hb3⟩
 have HSM:Hid (entSum zs+frSum ids<=1048576):=by
  have:=HSUM.out;rw [frSum_perm hprm,entSum_perm HZP.out];exact this
 have HIDS:Hid (∀ i∈ids,1<=i.2/\i.2<=8192):=fun i hi=>by
  have:=hprm.mem_iff.1 hi;unfold pends at this;obtain ⟨c,hc,rfl⟩:=List.mem_map.1 this;exact HID.out c (List.mem_filter.1 hc).1
 clear hprm hsrt hri hb3 HCUT HSUM HID hp HCL HYS;go_wp2_with fail
 go_loopw [3,87] (fun s3 s87 wr=>∃ k:Nat,k<=ids.length/\s87= .int .i64 (k:Int)/\PU3 F w A ids SA sn sc zs k s3 wr) (fun _ s87 _=>ids.length-(intOf s87).toNat)
 case atStart=>exact ⟨0,Nat.zero_le _,rfl,P0.out⟩
 obtain ⟨k,hk,rfl,hpf⟩:=hrel;have HPF:=kh hpf;clear hpf;by_cases hlt:k<ids.length
 · obtain ⟨i,hik⟩:∃ i,ids.getD k id0=i:=⟨_,rfl⟩
   have hA:∃ g,A=some ⟨g,0,none⟩:=by
    cases A with
    | none=>
     have h0:ids=[]:=by
      rcases HPF.out with ⟨_,_,_,_,_,_,_,h⟩ | ⟨_,_,_,_,_,h⟩
      · exact (h.get 0 (o:=riOb none ids) rfl).1 rfl
      exact (h.get 0 (o:=riOb none ids) rfl).1 rfl
     rw [h0] at hlt;simp at hlt
    | some ad=>
     rcases HPF.out with ⟨_,_,_,_,_,_,_,h⟩ | ⟨_,_,_,_,_,h⟩
     · obtain ⟨g,rfl,_⟩:=(h.get 0 (o:=riOb (some ad) ids) rfl).2 ad rfl;exact ⟨g,rfl⟩
     obtain ⟨g,rfl,_⟩:=(h.get 0 (o:=riOb (some ad) ids) rfl).2 ad rfl;exact ⟨g,rfl⟩
   obtain ⟨ig,rfl⟩:=hA
   have hrow:RowI wr ig ids:=by
    rcases HPF.out with ⟨_,_,_,_,_,_,_,h⟩ | ⟨_,_,_,_,_,h⟩
    · obtain ⟨g,e,hh,_⟩:=(h.get 0 (o:=riOb (some ⟨ig,0,none⟩) ids) rfl).2 _ rfl;injection e with e;subst e;exact hh
    obtain ⟨g,e,hh,_⟩:=(h.get 0 (o:=riOb (some ⟨ig,0,none⟩) ids) rfl).2 _ rfl;injection e with e;subst e;exact hh
   obtain ⟨a0,a1,_,_⟩:=hrow.cells hlt hik;have HIK:=kh hik;clear hik hrow
   have hib:0<=i.2/\i.2<=8192:=by
    have hm:i∈ids:=by
     rw [<- HIK.out,zA,zB hlt];exact List.getElem_mem hlt
    have:=HIDS.out i hm;omega
   have hts:ids.take (k+1)=ids.take k++[i]:=by
    rw [zC hlt, <- HIK.out,zA,zB hlt];rfl
   have HTS:=kh hts
   have hsm:entSum zs+frSum (ids.take k)+(28+i.2.toNat)<=1048576:=by
    have h1:=frSum_take_le ids (k+1);rw [hts,frSum_snoc] at h1;have:=HSM.out;omega
   clear hts;have HIX:=kh (pu_index (i:=i) HPF.out hib.1 hsm);clear HPF;go_upto_region 19 with fail
   go_upto_if 95 with (go_at_call 144;refine HIX.out.mono ?_;rintro e wi ⟨r,rfl,hr⟩;have HR:=kh hr;clear hr)
   go_cut [3,12] from 91 to 114 (fun v3 v12 w'=>v12= .int .i64 0/\PU4 F w (some ⟨ig,0,none⟩) ids SA sn sc zs k wr.heap.size i v3 w')
   case first=>
    rcases HR.out with ⟨rfl,h⟩ | ⟨rfl,hF0,_⟩
    · go_wp2_with fail
      go_meet;exact ⟨rfl,h⟩
    exact absurd hF0 HFN.out
   obtain ⟨rfl,lg,cap,pc,av,rfl,s4⟩:=hcut;have S4:=kh s4.drew;clear s4 HR HIX a0 a1;go_upto_region 26 with fail
   refine wp_region_held_tail [(0,true),(1,true),(2,true),(3,true),(4,true),(5,true),(6,true),(7,true),(8,true),(9,true),(10,true),(11,true),(12,false),(13,false),(14,true),(15,true)] (PU5 F w (some ⟨ig,0,none⟩) ids SA sn sc zs k wr.heap.size i lg cap pc av) (by kernel_rfl) (fun _ _ d _ _ h=>by cases d<;>exact h) (by kernel_rfl) ⟨_,_,_,S4.out⟩ ?_;simp only [pk_];generalize wc.drew=W7 at S4 |-; have HC:=kh (fun (w':World) (h:PU5 F w (some ⟨ig,0,none⟩) ids SA sn sc zs k wr.heap.size i lg cap pc av w')=>h.cells)
   iterate 12
    (refine wpHeld_take (v:=?_) (Or.inl ⟨by rfl,?_⟩) ?_
     rotate_left
     · (intro w' hSw;obtain ⟨h1,h2,h3,h4,h5⟩:=HC.out w' hSw;go_simp;try with_reducible rfl)
     try simp only [Act.put,zD,List.set])
   refine wpHeld_run (fun K hK=>?_);go_simp;refine hK.out _ _ ⟨_,_,_,S4.out.alloc _⟩ ?_;clear hK K;try simp only [Act.put,zD,List.set]
   obtain ⟨i1,gi,gz0,gz1,gz2⟩:=info_parts info31;refine wpHeld_run (fun K hK=>?_);refine step_rowS (t:=38) (e:=31) (size:=2) (bytes:=16) (i:=i1) (S4.out.alloc _) 2 rfl (by rfl) (.tmp 125) (.tmp 127) (by rfl) Tryz.underlying38 gi gz0 gz1 gz2 rfl (by omega) (by rfl) ⟨W7.heap.size,0,none⟩ 1 [.int .u64 i.1,.int .i64 i.2] (by rfl) rfl (two_new W7 _ _ 31 _ rfl) (encID_one i) (by unfold maxLen;omega) (by omega) ?_;intro v8 w8 s8;obtain ⟨g8,c8,rfl⟩:=own_some (s8.get 2 rfl) (by omega);refine hK.out _ _ ⟨_,_,_,s8⟩ ?_;clear hK K S4;try simp only [Act.put,zD,List.set]
   (refine wpHeld_take (v:=?_) (Or.inl ⟨by rfl,?_⟩) ?_
    rotate_left
    · (intro w' hSw;obtain ⟨h1,h2,h3,h4,h5⟩:=HC.out w' hSw;go_simp;try with_reducible rfl)
    try simp only [Act.put,zD,List.set])
   (refine wpHeld_take (v:=?_) (Or.inl ⟨by rfl,?_⟩) ?_
    rotate_left
    · (intro w' hSw;obtain ⟨h1,h2,h3,h4,h5⟩:=HC.out w' hSw;go_simp;try with_reducible rfl)
    try simp only [Act.put,zD,List.set])
   refine wpHeld_nil ?_;simp only [dz_]
   have S8:Hid (SW w.heap.size w [cellOb wr.heap.size 31 #[.int .u64 i.1,.int .i64 i.2],riOb (some ⟨ig,0,none⟩) ids,rowOb 31 2 (.slice (some ⟨g8,0,none⟩) (k+1) c8) (k+1) ((ids.take (k+1)).flatMap encID),cellOb pc 216 #[.int .i64 1,.bool true,.slice SA sn sc,av,.int .i64 ((entSum zs+frSum (ids.take k):Nat):Int)],rowOb 214 1 (.slice (some ⟨lg,0,none⟩) 1 cap) 1 [vPtr pc],ebOb (.slice SA sn sc) zs] w8):=by
    rw [Hid,HTS.out,List.flatMap_append];exact s8
   clear s8 HC;have kf:w8.cell? ⟨pc,3,none⟩=some av:=(S8.out.cell 3 rfl).cell 3;have kz:w8.frozen? ⟨pc,3,none⟩=false:=(S8.out.cell 3 rfl).frozen 3;go_upto_region 27 with fail
   have S9:=kh (S8.out.setAt 3 rfl 3 (.slice (some ⟨g8,0,none⟩) (k+1) c8)).drew;clear kf kz S8;obtain ⟨ln,HLN⟩:∃ ln:Nat,Hid (entSum zs+frSum (ids.take k)=ln):=⟨_,rfl⟩;rw [HLN.out] at S9 hsm;have S9':Hid (SW w.heap.size w [cellOb wr.heap.size 31 #[.int .u64 i.1,.int .i64 i.2],riOb (some ⟨ig,0,none⟩) ids,rowOb 31 2 (.slice (some ⟨g8,0,none⟩) (k+1) c8) (k+1) ((ids.take (k+1)).flatMap encID),cellOb pc 216 #[.int .i64 1,.bool true,.slice SA sn sc,.slice (some ⟨g8,0,none⟩) (k+1) c8,.int .i64 (ln:Int)],rowOb 214 1 (.slice (some ⟨lg,0,none⟩) 1 cap) 1 [vPtr pc],ebOb (.slice SA sn sc) zs] (w8.setCell ⟨pc,3,none⟩ (.slice (some ⟨g8,0,none⟩) (k+1) c8)).drew):=S9.out;clear S9;have hsum:IntKind.i64.wrap ((ln:Int)+(28+i.2))=(ln:Int)+(28+i.2):=IntWalk.i64_in _ (by omega)
   refine wp_region_held_tail [(0,true),(1,true),(2,true),(3,true),(4,true),(5,true),(6,true),(7,true),(8,false),(9,true),(10,true),(11,true)] (SW w.heap.size w [cellOb wr.heap.size 31 #[.int .u64 i.1,.int .i64 i.2],riOb (some ⟨ig,0,none⟩) ids,rowOb 31 2 (.slice (some ⟨g8,0,none⟩) (k+1) c8) (k+1) ((ids.take (k+1)).flatMap encID),cellOb pc 216 #[.int .i64 1,.bool true,.slice SA sn sc,.slice (some ⟨g8,0,none⟩) (k+1) c8,.int .i64 (ln:Int)],rowOb 214 1 (.slice (some ⟨lg,0,none⟩) 1 cap) 1 [vPtr pc],ebOb (.slice SA sn sc) zs]) (by kernel_rfl) (fun _ _ d _ _ h=>by cases d<;>exact h) (by kernel_rfl) S9'.out ?_;simp only [pk_];generalize (w8.setCell ⟨pc,3,none⟩ (.slice (some ⟨g8,0,none⟩) (k+1) c8)).drew=W9 at S9' |-
   have HC:=kh (fun (w':World) (h:SW w.heap.size w [cellOb wr.heap.size 31 #[.int .u64 i.1,.int .i64 i.2],riOb (some ⟨ig,0,none⟩) ids,rowOb 31 2 (.slice (some ⟨g8,0,none⟩) (k+1) c8) (k+1) ((ids.take (k+1)).flatMap encID),cellOb pc 216 #[.int .i64 1,.bool true,.slice SA sn sc,.slice (some ⟨g8,0,none⟩) (k+1) c8,.int .i64 (ln:Int)],rowOb 214 1 (.slice (some ⟨lg,0,none⟩) 1 cap) 1 [vPtr pc],ebOb (.slice SA sn sc) zs] w')=>(⟨by
    obtain ⟨lg2,cap2,e1,e2,_⟩:=own_one (h.get 4 rfl);injection e1 with e1 _ e3;injection e1 with e1;injection e1 with e1;rw [e1];exact e2,(h.cell 3 rfl).cell 4,(h.cell 0 rfl).cell 0,(h.cell 0 rfl).cell 1⟩:w'.cell? ⟨lg,0,none⟩=some (vPtr pc)/\w'.cell? ⟨pc,4,none⟩=some (.int .i64 (ln:Int))/\w'.cell? ⟨wr.heap.size,0,none⟩=some (.int .u64 i.1)/\w'.cell? ⟨wr.heap.size,1,none⟩=some (.int .i64 i.2)))
   iterate 8
    (refine wpHeld_take (v:=?_) (Or.inl ⟨by rfl,?_⟩) ?_
     rotate_left
     · (intro w' hSw;obtain ⟨h1,h2,h3,h4⟩:=HC.out w' hSw;go_simp;try with_reducible rfl)
     try simp only [Act.put,zD,List.set])
   refine wpHeld_run (fun K hK=>?_);go_simp;go_at_call 140
   refine (frameSize_any i _ hib.1 (by omega)).mono ?_;rintro e w9 ⟨rfl,hb9⟩;have S10:=kh (S9'.out.on hb9);go_wp2_with fail
   refine hK.out _ _ S10.out ?_;clear hK K S9' hb9;try simp only [Act.put,zD,List.set]
   iterate 3
    (refine wpHeld_take (v:=?_) (Or.inl ⟨by rfl,?_⟩) ?_
     rotate_left
     · (intro w' hSw;obtain ⟨h1,h2,h3,h4⟩:=HC.out w' hSw;go_simp;try with_reducible rfl)
     try simp only [Act.put,zD,List.set])
   refine wpHeld_nil ?_;simp only [dz_];clear HC;have kf:w9.cell? ⟨pc,4,none⟩=some (.int .i64 (ln:Int)):=(S10.out.cell 3 rfl).cell 4;have kz:w9.frozen? ⟨pc,4,none⟩=false:=(S10.out.cell 3 rfl).frozen 4
   have hln:(ln:Int)+(28+i.2)=((entSum zs+frSum (ids.take (k+1)):Nat):Int):=by
    rw [HTS.out,frSum_snoc, <- HLN.out];omega
   have HLN2:=kh hln;clear hln;go_wp2_with fail
   go_roundw
   case rel=>
    refine ⟨k+1,by omega,by go_num,.inr ⟨lg,cap,pc,.slice (some ⟨g8,0,none⟩) (k+1) c8,rfl,?_⟩⟩;rw [<- HLN2.out];exact (S10.out.setAt 3 rfl 4 (.int .i64 ((ln:Int)+(28+i.2)))).tail
   simp [intOf];omega
 have hkn:k=ids.length:=by omega
 subst hkn;rcases HPF.out with ⟨_,h0,_⟩ | ⟨lg,cap,pc,av,rfl,s4⟩
 · omega
 obtain ⟨lg2,cap2,e1,e2,_⟩:=own_one (s4.get 3 rfl);injection e1 with e1 _ e3;injection e1 with e1;injection e1 with e1;subst e1;subst e3;obtain ⟨g8,c8,rfl⟩:=own_some (s4.get 1 rfl) (by omega);have HD:=kh (delete147 lg pc cap (some ⟨g8,0,none⟩) ids.length c8 wr e2 ((s4.cell 2 rfl).cell 3) hne);have S4:=kh s4;clear s4 e2 HPF P0;go_wp2_with (go_at_call 146;(with_reducible refine HD.out.mono ?_);rintro e w9 ⟨rfl,hb9⟩)
 go_ret;have s5:=(S4.out.on hb9).tail;rw [List.take_length] at s5;exact ⟨lg,cap,pc,.slice (some ⟨g8,0,none⟩) ids.length c8,SA,sn,sc,zs,ids,rfl,HP.out,HSRT.out,HNW.out,HZP.out,s5.reorder [1,0,2,3] (n:=4) rfl (by decide)⟩
end
section
open Go.RowKit Go.MapKept Go.ChangeMaps
end
section
open Go.RowKit Go.MapKept Go.ChangeMaps
attribute [local go_sem] wext_cell
end
section
open Go.RowKit Go.MapKept Go.ChangeMaps
attribute [local go_sem] wext_cell
end
section
open Go.RowKit Go.MapKept Go.ChangeMaps Go.Shelf Go.Sort
attribute [local go_sem] wext_cell
theorem own_slI {w:World} {e:TypeId} {size n:Nat} {v:Value} {xs:List Value} (h:w.ownsRow 0 e size v n xs):∃ A c,v= .slice A n c:=by
 rcases h.2 with ⟨hv,h2⟩ | ⟨g,cap,cur,hv,_⟩
 · exact ⟨none,0,by rw [hv,h2]⟩
 exact ⟨some ⟨g,0,none⟩,cap,hv⟩
end
section
open Go.RowKit Go.MapKept Go.ChangeMaps Go.Shelf Go.Sort
attribute [local go_sem] wext_cell
def FlushUP (b:Nat) (w0:World) (x:SR) (D:List UInt8) (l:List Ob) (e:Ending) (w':World):Prop:=
 ∃ q:RCS,q.ids.Perm (pends x.C)/\q.ys.Perm (durs x.C)/\q.len=entSum q.ys+frSum q.ids/\CRPost b w0 q D x l e w'
theorem FlushU_any {b:Nat} {w0 w:World} {x:SR} {l:List Ob} (h:SW b w0 (x.obs l) w) (hl:x.dead=false) (hd:x.s.dn=false) (hcl:∃ f,x.F=some f/\f.clean=false) (hC:x.C.length<=4096) (hid:∀ c∈x.C,1<=c.1.2/\c.1.2<=8192) (hown:∀ i d bs,(i,Pl.pend d bs)∈x.C->i=fpOf bs/\bs.length<=8192)
 (hnm:x.nm.size<=1000) (D:List UInt8) (hrd:readE x.s (fileN x.nm)=0) (hD:readB x.s (fileN x.nm)=D) (hat:∀ y∈durs x.C,(y.2:Int)+28+y.1.2<=D.length)
 (hL:x.s.ops.length<=999980) (hcn:∀ n,Cnt x.s.now n->n<=200) (hw0:0<=x.wait) (hw1:x.wait<=1099511627776)
 (h0:x.wait≠0) (hp:pends x.C≠[]) (hp2:(pends x.C).length<=49) (hsum:entSum (durs x.C)+frSum (pends x.C)<=1048576):Calls Tryz.prog 35 #[vPtr x.ps] w (FlushUP b w0 x D l):=by
 have HRD:=kh (ready_live h.1 hl hd);have k4:w.cell? ⟨x.ps,4,none⟩=some (.int .i64 x.wait):=h.1.scell.cell 4;have hq:(x.wait==0)=false:=by simpa using h0
 have HPL:=kh (planFlushU_any h.1 hcl hC hid hp hp2 hsum);have H:=kh h
 have HCA:=kh (fun (q:RCS) (w1:World) (hsw:SW b w0 (q.obs (x.obs l)) w1) (hi:q.ids.Perm (pends x.C)) (hy:q.ys.Perm (durs x.C)) (hle:q.len=entSum q.ys+frSum q.ids)=>(show Calls Tryz.prog 88 #[vPtr x.ps,q.lv] w1 (CRPost b w0 q D x l) from by
  have hne:0<q.ids.length:=by
   rw [hi.length_eq];exact List.length_pos_iff.2 hp
  have h1:=len_le_frSum q.ids;refine carryR_any hsw (by omega) D hrd hD hnm (by obtain ⟨f,hf,_⟩:=hcl;exact ⟨f,hf⟩) (fun y hym=>?_) (fun i him=>?_) (by rw [entSum_perm hy,frSum_perm hi];exact hsum) (by rw [hy.length_eq];exact Nat.le_trans (durs_len _) (by omega)) hL hcn hw0 hw1
  · have hm:=durs_mem (hy.mem_iff.1 hym);have h8:=hid _ hm;exact ⟨asc_mem h.1.sch.nodup hm,h.1.sch.oks _ hm,h8.1,h8.2,hat y (hy.mem_iff.1 hym)⟩
  obtain ⟨d,bs,hm⟩:=pends_mem (hi.mem_iff.1 him);obtain ⟨he,hb⟩:=hown i d bs hm;exact ⟨d,bs,asc_mem h.1.sch.nodup hm,by rw [he];rfl,hb,by rw [he];exact okID_fp bs (by omega)⟩))
 clear h hl hd hcl hC hid hown hnm hrd hD hat hL hcn hw0 hw1 h0 hp hp2 hsum;go_enter Tryz.func35,Tryz.ntmps35;go_wp2_with (first | (go_at_call 84;(with_reducible refine HRD.out.mono ?_);rintro e w1 ⟨rfl,rfl⟩) | (go_at_call 93;(with_reducible refine HPL.out.mono ?_);refine halt_ ?_))
 rintro e w1 ⟨lg,cap,pc,av,SA,sn,sc,ys,ids,rfl,hperm,hsrt,hnw,hys,hs1⟩;have hri:∀ i,(ebOb (.slice SA sn sc) ys).rd i->w.heap.size<=i:=hnw
 have hj:=Sep.join H.out.1 hs1.2 hs1.1 (fun o ho i hi=>by
  simp only [List.mem_cons,List.not_mem_nil,or_false] at ho;rcases ho with rfl | rfl | rfl | rfl
  · exact hi.elim
  · exact hi.elim
  · exact hi.elim
  exact hri i hi)
 have hj2:SW b w0 (cellOb pc 216 #[.int .i64 1,.bool true,.slice SA sn sc,av,.int .i64 ((entSum ys+frSum ids:Nat):Int)]::rowOb 31 2 av ids.length (ids.flatMap encID)::rowOb 214 1 (.slice (some ⟨lg,0,none⟩) 1 cap) 1 [vPtr pc]::ebOb (.slice SA sn sc) ys::x.obs l) w1:=⟨hj,H.out.2.trans (hs1.2.mono H.out.1.base)⟩;obtain ⟨A,ac,rfl⟩:=own_slI (hj2.get 1 rfl)
 have hsn:sn=ys.length:=by
  have h1:EntsAt w1 (.slice SA sn sc) ys:=hj2.get 3 (o:=ebOb (.slice SA sn sc) ys) rfl;by_cases hy:ys=[]
  · have h2:=h1.1 hy;injection h2 with _ h3 _;rw [h3,hy];rfl
  obtain ⟨g',c',h2,_⟩:=h1.2 hy;injection h2
 subst hsn;have hj3:=(SW.front (pre:=[_,_]) (t:=_::_::x.obs l) hj2 [1,0] (n:=2) rfl (by decide)).rowRi;have hsw:SW b w0 ((⟨pc,SA,sc,A,ac,entSum ys+frSum ids,ids,lg,cap,ys⟩:RCS).obs (x.obs l)) w1:=SW.front (pre:=[_,_]) (t:=_::_::x.obs l) hj3 [1,0] (n:=2) rfl (by decide);have HC2:=kh (HCA.out ⟨pc,SA,sc,A,ac,entSum ys+frSum ids,ids,lg,cap,ys⟩ w1 hsw hperm hys rfl);have HPR:=kh hperm;have HYS:=kh hys;clear hs1 hj hj2 hj3 hsw hri hnw hperm hsrt hys HCA;go_wp2_with (go_at_call 88;(with_reducible refine HC2.out.mono ?_);refine halt_ ?_)
 intro e w2 hc;have HC:=kh hc;obtain ⟨n1,n2,r',hc1,hc2,E,rfl,_⟩:=hc;clear hc1 hc2;go_wp2_with fail
 go_ret;exact ⟨⟨pc,SA,sc,A,ac,entSum ys+frSum ids,ids,lg,cap,ys⟩,HPR.out,HYS.out,rfl,HC.out⟩
end
end Go.Proofs.YteabgcollokgjaaGreatDoor
