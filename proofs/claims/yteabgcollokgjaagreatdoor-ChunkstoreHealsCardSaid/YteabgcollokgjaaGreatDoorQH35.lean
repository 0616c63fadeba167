/- Q -/
import Derived.Test.YteabgcollokgjaaGreatDoorQH33
import Derived.Test.YteabgcollokgjaaGreatDoorQH34
set_option linter.unusedSimpArgs false
set_option linter.unusedVariables false
set_option maxRecDepth 100000
set_option maxHeartbeats 32000000
open Go.Lib (hid)
open List renaming mem_cons_of_mem → zA,length_append → zB,mem_cons_self → zC,take_of_length_le → zD,setIfInBounds_toArray → zE
namespace Go.Proofs.YteabgcollokgjaaGreatDoor
section
open Go.RowKit Go.MapKept Go.ChangeMaps Go.Shelf Go.Sort
section
variable {b:Nat} {w0 w:World} {x:SR} {l:List Ob}
theorem RS.grownM {α β:Type} {ok:α->Prop} {kv:α->Value} {vv:β->Value} {w w':World} {A:Option Addr} {bs:List UInt8} {m:Nat} {L:List (α×β)} (h:RS w A bs) (hm:MapIs ok kv vv w m L) (hg:w.grownBy w' (some m)):RS w' A bs:=by
 refine ⟨h.1,fun ad e=>?_⟩;obtain ⟨g,o,rfl,hc⟩:=h.2 ad e;refine ⟨g,o,rfl,fun j hj=>hg.cell (hc j hj) (fun e2=>?_)⟩;injection e2 with e2;have h1:=hc j hj;obtain ⟨es,clock,hb,_⟩:=hm;have e2:g=m:=e2;rw [e2] at h1;simp [World.cell?, hb] at h1
def putT (x:SR) (f:FR) (i:ID) (d:BD) (bs:List UInt8):SR:={ x with C:=setL x.C i (.pend d bs),wait:=x.wait+1,F:=some { f with T:=setL f.T i true } }
theorem Put_stale (h:SW b w0 (x.obs l) w) (hf:WF x) (A:Option Addr) (c:Nat) (bs:List UInt8) (hs:RS w A bs) (h1:1<=bs.length) (h2:bs.length<=8192) (f:FR) (hF:x.F=some f) (o:Nat) (ha:asc x.C (fpOf bs)=some (.at o)) (hr:readC x.s x.nm (fpOf bs) (.at o)=none) (hw0:0<=x.wait) (hw1:x.wait<=1099511627776):
 Calls Tryz.prog 23 #[vPtr x.ps,.slice A bs.length c] w (fun e w'=>e= .returned (.tuple #[.agg #[.int .u64 (fpOf bs).1,.int .i64 (fpOf bs).2],.int .i64 0])/\∃ d,SW b w0 ((putT x f (fpOf bs) d bs).obs l) w'/\(d.A.isSome=true)):=by
 have hmem:=mem_of_asc ha;have hi:okID (fpOf bs):=okID_fp bs (by omega);have B0:=hid (bel1q w (.cells #[.int .u64 0,.int .i64 0] 31));have H0:=hid (h.1.on B0.out);have S0:=hid (hs.on B0.out);have HRD:=hid (ready_live H0.out hf.live hf.up);have HOF:=hid (Of_any A c bs _ S0.out (by omega));have T0:=hid (h.newCell 31 #[.int .u64 0,.int .i64 0]);obtain ⟨i,HI⟩:∃ i,Hid (fpOf bs=i):=⟨_,rfl⟩;rw [HI.out] at HOF hmem hi ha hr |-; have HF:=hid hf;have HA:=hid ha;have HR:=hid hr;have HFF:=hid hF;clear h hf ha hr hF;go_enter Tryz.func23,Tryz.ntmps23;go_wp2_with (go_at_call 84;refine HRD.out.mono ?_;rintro e w1 ⟨rfl,rfl⟩)
 refine HOF.out.mono ?_;rintro e w2 ⟨rfl,hb⟩;have H2:=hid (H0.out.on hb);have S2:=hid (S0.out.on hb);have T2:=hid (T0.out.on hb);clear hb;have hps:x.ps<w2.heap.size:=H2.out.scell.lt;have BA:=hid (bel1q w2 (.cells #[.int .u64 i.1,.int .i64 i.2] 31));have hcx:(w2.alloc (.cells #[.int .u64 i.1,.int .i64 i.2] 31)).cell? ⟨x.ps,2,none⟩=some (.map (some x.cm)):=(H2.out.on BA.out).scell.cell 2;have hl1:=look_at H2.out.sch hi HA.out (w2.alloc (.cells #[.int .u64 i.1,.int .i64 i.2] 31)).drew ((Below.refl _ w2).alloc (Nat.le_refl _) _).drew;have hl2:=look_at H2.out.sch hi HA.out ((w2.alloc (.cells #[.int .u64 i.1,.int .i64 i.2] 31)).alloc (.cells #[.slice none 0 0,.int .i64 0,.int .i64 0] 138)).drew (((Below.refl _ w2).alloc (Nat.le_refl _) _).alloc (by simp) _).drew;have B3:Hid (Below w2.heap.size w2 ((w2.alloc (.cells #[.int .u64 i.1,.int .i64 i.2] 31)).alloc (.cells #[.slice none 0 0,.int .i64 0,.int .i64 (o:Int)] 138)).drew):=(BA.out.alloc (by simp) _).drew;have hf:=HF.out;have B3:Hid (Below w2.heap.size w2 ((w2.alloc (.cells #[.int .u64 i.1,.int .i64 i.2] 31)).alloc (.cells #[.slice none 0 0,.int .i64 1,.int .i64 (o:Int)] 138)).drew):=(BA.out.alloc (by simp) _).drew;have HRE:=hid (read_any (H2.out.on B3.out) i (.at o) hmem (hf.ids _ hmem).1 (by have:=(hf.ids _ hmem).2;simp only at this;omega) hf.name (fun q e=>hf.offs i q (e ▸ hmem)) (fun d bs e=>by cases e));rw [HR.out] at HRE
 have T3:Hid (SW b w0 (cellOb (w2.heap.size+1) 138 #[.slice none 0 0,.int .i64 1,.int .i64 (o:Int)]::cellOb w2.heap.size 31 #[.int .u64 i.1,.int .i64 i.2]::cellOb w.heap.size 31 #[.int .u64 0,.int .i64 0]::x.obs l) ((w2.alloc (.cells #[.int .u64 i.1,.int .i64 i.2] 31)).alloc (.cells #[.slice none 0 0,.int .i64 1,.int .i64 (o:Int)] 138)).drew):=((T2.out.newCell 31 #[.int .u64 i.1,.int .i64 i.2]).newCellAt 138 #[.slice none 0 0,.int .i64 1,.int .i64 (o:Int)] (H:=w2.heap.size+1) (by simp)).drew;clear hf;go_wp2_with fail
 go_region
 all_goals (
  go_wp2_with fail
  refine HRE.out.mono ?_;rintro e w3 ⟨A',c',cs,rfl,h1',h2',h3',h4'⟩;have T4:=hid (T3.out.on h4');have S3:=hid ((S2.out.on B3.out).on h4');clear h1' h2' h3' h4' hl1 hl2 hcx;go_upto_region 14 with fail
  have T5:=hid T4.out.drew;have SB5:Hid (RS w3.drew A bs):=S3.out;clear T4 S3 T3 T2 T0 B3 BA HRE H2 S2 H0 S0 HRD HOF B0;refine wp_region_held_tail [(0,true),(1,true),(2,true),(3,true),(4,true),(5,true),(6,true),(7,true),(8,true),(9,true),(10,true)] (SW b w0 (cellOb (w2.heap.size+1) 138 #[.slice none 0 0,.int .i64 1,.int .i64 (o:Int)]::cellOb w2.heap.size 31 #[.int .u64 i.1,.int .i64 i.2]::cellOb w.heap.size 31 #[.int .u64 0,.int .i64 0]::x.obs l)) (by kernel_rfl) (fun _ _ d _ _ h=>by cases d<;>exact h) (by kernel_rfl) T5.out ?_;simp only [pk_];generalize w3.drew=W at T5 SB5 |-
  have HC:=hid (fun (w':World) (h:SW b w0 (cellOb (w2.heap.size+1) 138 #[.slice none 0 0,.int .i64 1,.int .i64 (o:Int)]::cellOb w2.heap.size 31 #[.int .u64 i.1,.int .i64 i.2]::cellOb w.heap.size 31 #[.int .u64 0,.int .i64 0]::x.obs l) w')=>(⟨(h.cell 4 rfl).cell 3,(h.cell 0 rfl).cell 1,look_f1 (h.get 6 (o:=flOb x.fm x.F) rfl).1 HFF.out,((h.get 6 (o:=flOb x.fm x.F) rfl).2 f HFF.out).1.cell 2,(h.cell 1 rfl).cell 0,(h.cell 1 rfl).cell 1⟩:w'.cell? ⟨x.ps,3,none⟩=some (.map (some x.fm))/\w'.cell? ⟨w2.heap.size+1,1,none⟩=some (.int .i64 1)/\(Instr.lookup 129 (.map (some x.fm)) (.int .i64 1) false).run Tryz.prog w'= .ok (vPtr f.fb) w'/\w'.cell? ⟨f.fb,2,none⟩=some (.map (some f.sb))/\w'.cell? ⟨w2.heap.size,0,none⟩=some (.int .u64 i.1)/\w'.cell? ⟨w2.heap.size,1,none⟩=some (.int .i64 i.2)))
  iterate 11
   (refine wpHeld_take (v:=?_) (Or.inl ⟨by rfl,?_⟩) ?_
    rotate_left
    · (intro w' hSw;obtain ⟨h1,h2,h3,h4,h5,h6⟩:=HC.out w' hSw;go_simp;try with_reducible rfl)
    try simp only [Act.put,zE,List.set])
  refine wpHeld_nil ?_;simp only [dz_];clear HC;obtain ⟨w5,hu,hm5,hg5,hz5⟩:=MapIs.update mkI Tryz.underlying143 ((T5.out.get 6 (o:=flOb x.fm x.F) rfl).2 f HFF.out).2.1 hi true;have hu':(Instr.mapUpdate 143 (.map (some f.sb)) (.agg #[.int .u64 i.1,.int .i64 i.2]) (.bool true)).run Tryz.prog W= .ok () w5:=hu
  have T5':SW b w0 (cellOb (w2.heap.size+1) 138 #[.slice none 0 0,.int .i64 1,.int .i64 (o:Int)]::cellOb w2.heap.size 31 #[.int .u64 i.1,.int .i64 i.2]::cellOb w.heap.size 31 #[.int .u64 0,.int .i64 0]::({ x with F:=some f }:SR).obs l) W:=by
   have h9:({ x with F:=some f }:SR)=x:=by rw [<- HFF.out]
   rw [h9];exact T5.out
  have T6:Hid (SW b w0 (cellOb (w2.heap.size+1) 138 #[.slice none 0 0,.int .i64 1,.int .i64 (o:Int)]::cellOb w2.heap.size 31 #[.int .u64 i.1,.int .i64 i.2]::cellOb w.heap.size 31 #[.int .u64 0,.int .i64 0]::({ x with F:=some { f with T:=setL f.T i true } }:SR).obs l) w5):=SW.stale T5' 6 rfl hm5 hg5;have SB6:Hid (RS w5 A bs):=SB5.out.grownM ((T5.out.get 6 (o:=flOb x.fm x.F) rfl).2 f HFF.out).2.1 hg5;clear hu hm5 hg5 hz5 T5' T5 SB5;obtain ⟨y,HY⟩:∃ y:SR,Hid (({ x with F:=some { f with T:=setL f.T i true } }:SR)=y):=⟨_,rfl⟩;have hyp:Hid (y.ps=x.ps):=by rw [Hid, <- HY.out]
  have hyw:Hid (y.wait=x.wait):=by rw [Hid, <- HY.out]
  rw [HY.out] at T6;go_upto_region 18 with fail
  have T7:=hid T6.out.drew;have SB7:Hid (RS w5.drew A bs):=SB6.out;rw [<- hyp.out];clear T6 SB6;refine wp_region_held_tail [(0,true),(1,true),(2,true),(3,true),(4,true),(5,true),(6,false),(7,true)] (SW b w0 (cellOb (w2.heap.size+1) 138 #[.slice none 0 0,.int .i64 1,.int .i64 (o:Int)]::cellOb w2.heap.size 31 #[.int .u64 i.1,.int .i64 i.2]::cellOb w.heap.size 31 #[.int .u64 0,.int .i64 0]::y.obs l)) (by kernel_rfl) (fun _ _ d _ _ h=>by cases d<;>exact h) (by kernel_rfl) T7.out ?_;simp only [pk_];generalize w5.drew=V at T7 SB7 |-
  have HCB:Hid (Calls Tryz.prog 87 #[.slice A bs.length c] V (fun e w'=>∃ A3 n3 c3,e= .returned (.slice A3 n3 c3)/\RB w' ⟨A3,n3,c3⟩ bs/\(∀ g,blk ⟨A3,n3,c3⟩=some g->V.heap.size<=g)/\Below V.heap.size V w')):=(CloneB_any A c bs V SB7.out.sb (by omega)).mono (by
   rintro e w' ⟨⟨A3,n3,c3⟩,rfl,r1,r2,r3⟩;exact ⟨A3,n3,c3,rfl,r1,r2,r3⟩)
  have HC:=hid (fun (w':World) (h:SW b w0 (cellOb (w2.heap.size+1) 138 #[.slice none 0 0,.int .i64 1,.int .i64 (o:Int)]::cellOb w2.heap.size 31 #[.int .u64 i.1,.int .i64 i.2]::cellOb w.heap.size 31 #[.int .u64 0,.int .i64 0]::y.obs l) w')=>(⟨(h.cell 4 rfl).cell 2,(h.cell 1 rfl).cell 0,(h.cell 1 rfl).cell 1⟩:w'.cell? ⟨y.ps,2,none⟩=some (.map (some y.cm))/\w'.cell? ⟨w2.heap.size,0,none⟩=some (.int .u64 i.1)/\w'.cell? ⟨w2.heap.size,1,none⟩=some (.int .i64 i.2)))
  iterate 6
   (refine wpHeld_take (v:=?_) (Or.inl ⟨by rfl,?_⟩) ?_
    rotate_left
    · (intro w' hSw;obtain ⟨h1,h2,h3⟩:=HC.out w' hSw;go_simp;try with_reducible rfl)
    try simp only [Act.put,zE,List.set])
  refine wpHeld_run (fun K hK=>?_);go_simp;go_at_call 87
  refine HCB.out.mono ?_;rintro e w6 ⟨A3,n3,c3,rfl,hr3,hf3,hb3⟩;have T8:=hid (T7.out.on hb3);have R3:=hid hr3;have F3:=hid hf3;have B3:=hid hb3;go_wp2_with fail
  refine hK.out _ _ T8.out ?_;clear hK K hr3 hf3 hb3;try simp only [Act.put,zE,List.set]
  (refine wpHeld_take (v:=?_) (Or.inl ⟨by rfl,?_⟩) ?_
   rotate_left
   · (intro w' hSw;obtain ⟨h1,h2,h3⟩:=HC.out w' hSw;go_simp;try with_reducible rfl)
   try simp only [Act.put,zE,List.set])
  refine wpHeld_nil ?_;simp only [dz_];clear HC;obtain ⟨w7,hu,hm7,hg7,hz7⟩:=MapIs.update mkI Tryz.underlying128 (T8.out.get 5 (o:=chOb y.cm y.C) rfl).1 hi (Pl.pend ⟨A3,n3,c3⟩ bs);have hu':(Instr.mapUpdate 128 (.map (some y.cm)) (.agg #[.int .u64 i.1,.int .i64 i.2]) (.agg #[.slice A3 n3 c3,.int .i64 0,.int .i64 0])).run Tryz.prog w6= .ok () w7:=hu;obtain ⟨sp7,b7⟩:=T7.out.1.lay 5 (cm:=y.cm) (C:=y.C) rfl B3.out R3.out F3.out (by omega) hm7 hg7;have T9:Hid (SW b w0 (cellOb (w2.heap.size+1) 138 #[.slice none 0 0,.int .i64 1,.int .i64 (o:Int)]::cellOb w2.heap.size 31 #[.int .u64 i.1,.int .i64 i.2]::cellOb w.heap.size 31 #[.int .u64 0,.int .i64 0]::({ y with C:=setL y.C i (Pl.pend ⟨A3,n3,c3⟩ bs) }:SR).obs l) w7):=⟨sp7,T7.out.2.trans b7⟩;clear hu hm7 hg7 hz7 sp7 b7 T8 T7;have p4:w7.cell? ⟨y.ps,4,none⟩=some (.int .i64 y.wait):=(T9.out.cell 4 rfl).cell 4;have pf4:w7.frozen? ⟨y.ps,4,none⟩=false:=(T9.out.cell 4 rfl).frozen 4;have hsum2:IntKind.i64.wrap (y.wait+1)=y.wait+1:=IntWalk.i64_in _ (by have:=hyw.out;omega);go_upto_region 20 with fail
  have T10:Hid (SW b w0 (cellOb (w2.heap.size+1) 138 #[.slice none 0 0,.int .i64 1,.int .i64 (o:Int)]::cellOb w2.heap.size 31 #[.int .u64 i.1,.int .i64 i.2]::cellOb w.heap.size 31 #[.int .u64 0,.int .i64 0]::({ y with C:=setL y.C i (Pl.pend ⟨A3,n3,c3⟩ bs),wait:=y.wait+1 }:SR).obs l) (w7.setCell ⟨y.ps,4,none⟩ (.int .i64 (y.wait+1)))):=T9.out.setAt 4 rfl 4 (.int .i64 (y.wait+1));clear p4 pf4 T9 hu';generalize w7.setCell ⟨y.ps,4,none⟩ (.int .i64 (y.wait+1))=V5 at T10 |-; have q0:V5.cell? ⟨w2.heap.size,0,none⟩=some (.int .u64 i.1):=(T10.out.cell 1 rfl).cell 0;have q1:V5.cell? ⟨w2.heap.size,1,none⟩=some (.int .i64 i.2):=(T10.out.cell 1 rfl).cell 1;have k40:=(T10.out.cell 2 rfl).cell 0;have k41:=(T10.out.cell 2 rfl).cell 1;have f40:=(T10.out.cell 2 rfl).frozen 0;have f41:=(T10.out.cell 2 rfl).frozen 1;go_wp2_with fail
  have T11:=(T10.out.setAt 2 rfl 0 (.int .u64 i.1)).setAt 2 rfl 1 (.int .i64 i.2);have c0:=(T11.cell 2 rfl).cell 0;have c1:=(T11.cell 2 rfl).cell 1;have hfin:({ y with C:=setL y.C i (Pl.pend ⟨A3,n3,c3⟩ bs),wait:=y.wait+1 }:SR)=putT x f i ⟨A3,n3,c3⟩ bs:=by rw [<- HY.out];rfl
  have T12:=T11.tail.tail.tail;rw [hfin] at T12;generalize ((V5.setCell ⟨w.heap.size,0,none⟩ (.int .u64 i.1)).setCell ⟨w.heap.size,1,none⟩ (.int .i64 i.2))=W' at T12 c0 c1 |-; refine bodyPost_ret (v:=.tuple #[.agg #[.int .u64 i.1,.int .i64 i.2],.int .i64 0]) ?_ rfl ⟨rfl,⟨A3,n3,c3⟩,T12,rb_some R3.out h1⟩;simp [results,Tryz.results23,go_sem,c0,c1])
end
end
section
open Go.RowKit Go.MapKept Go.ChangeMaps Go.Shelf Go.Sort
attribute [local go_sem] wext_cell
theorem after_drewD {W w5:World} {q:Nat} (h:w5=W.drewN q):Below W.heap.size W w5:=by
 subst h;exact bdrewN (Below.refl W.heap.size W) q
end
section
open Go.RowKit Go.MapKept Go.ChangeMaps Go.Shelf Go.Sort
attribute [local go_sem] wext_cell
theorem SW.sorted {b:Nat} {w0 w w2:World} {l:List Ob} {g cap n:Nat} {xs:List Value} {ys:List ID} (h:SW b w0 (rowOb 31 2 (.slice (some ⟨g,0,none⟩) n cap) n xs::l) w) (hy:RowI w2 g ys) (hg:w.grownBy w2 (some g)) (hlt:g<w2.heap.size):SW b w0 (riOb (some ⟨g,0,none⟩) ys::l) w2:=by
 have hs:=h.1.step (o':=riOb (some ⟨g,0,none⟩) ys) (Fr.grown hg (S:=(rowOb 31 2 (.slice (some ⟨g,0,none⟩) n cap) n xs).own) (S':=(riOb (some ⟨g,0,none⟩) ys).own) rfl (fun i hi=>hi.elim)) (fun i hi=> .inl ?_) ⟨(fun e=>by cases e),fun ad e=>⟨g,by injection e with e;exact e.symm,hy,hlt⟩⟩ (fun i hi=>?_)
 · exact ⟨hs.1,h.2.trans hs.2⟩
 · have hi:(some ⟨g,0,none⟩:Option Addr)=some ⟨i,0,none⟩:=hi;injection hi with hi;injection hi with hi;show some g=some i;rw [hi]
 rcases hi with hi | hi
 · exact hi.elim
 have hi:(some ⟨g,0,none⟩:Option Addr)=some ⟨i,0,none⟩:=hi;injection hi with hi;injection hi with hi;omega
theorem Damaged_any {b:Nat} {w0 w:World} {x:SR} {l:List Ob} (h:SW b w0 (x.obs l) w) (hlive:x.dead=false) (hup:x.s.dn=false) (hnm:x.nm.size<=1000) (hpA:∀ i d bs,(i,Pl.pend d bs)∈x.C->d.A.isSome=true) (hC:x.C.length<=49) (D:List UInt8) (hrE:readE x.s (fileN x.nm)=0) (hrB:readB x.s (fileN x.nm)=D) (hat:∀ i o,(i,Pl.at o)∈x.C->o<=4194304/\1<=i.2/\i.2<=4194304):Calls Tryz.prog 48 #[vPtr x.ps] w (fun e w'=>∃ A c ds,e= .returned (.slice A ds.length c)/\(∀ i∈ds,∃ o,(i,Pl.at o)∈x.C/\cutOk D i o=false)/\ds.length<=49/\SW b w0 (riOb A ds::x.obs l) w'):=by
 have S0:=hid h;have HAT:=hid hat;have HDN:=hid (fun (W:World) (hW:SW b w0 (x.obs l) W)=>Down_any x.p x.r x.s W hW.1.sdv);rw [hup] at HDN;have HEN:=hid (fun (W:World) (hW:SW b w0 (x.obs l) W)=>entries_any x.ps x.cm x.C W (hW.1.scell.cell 2) hW.1.sch (by omega) (fun i d bs hm e=>by have:=hpA i d bs hm;rw [e] at this;cases this));have p0:w.cell? ⟨x.ps,0,none⟩=some (vPtr x.p):=(h.cell 1 rfl).cell 0
 have p6:w.cell? ⟨x.ps,6,none⟩=some (.bool false):=by
  rw [<- hlive];exact (h.cell 1 rfl).cell 6
 have HSN:=hid sortN_any;clear h hlive hup hpA hat;go_enter Tryz.func48,Tryz.ntmps48;go_wp2_with (first | (go_at_call 82;(with_reducible refine (HDN.out _ S0.out).mono ?_);rintro e w1 ⟨rfl,rfl⟩) | (go_at_call 100;refine halt_ ?_))
 refine hid ((HEN.out w S0.out).mono ?_);rintro e w1 ⟨v,xs,am,rfl,ham,hm,hp,_,hv0,hv1,hb1⟩;have S1:=hid (S0.out.on hb1);have HM:=hid hm;have HP:=hid hp;have HV0:=hid hv0;have HV1:=hid hv1;have HB1:=hid hb1;have HAM:=hid ham;clear hm hp hv0 hv1 hb1 HEN HDN p0 p6;go_wp2_with (at_range;(refine wpList_range_is _ rfl _ 161 rfl 3 163 Tryz.underlying161 am (eM v xs.length) rfl HM.out ?_);intro w2 hrg hg hs;have RI2:=hid hrg;have HGN:=hid hg;have B2:=hid (below_of_none hg);have S2:=hid (S1.out.on B2.out);clear hrg hg hs)
 by_cases hx:xs=[]
 · subst hx;refine wp_loop_rounds 1 ?_;rw [rounds_succ];go_wp2_with (at_next;refine wpList_next_eM _ rfl _ rfl am w1.heap.size v 0 [] _ rfl RI2.out (fun hp=>?_) (fun w3 cnt3 hn3 _ _ _ _ _=>absurd rfl hn3))
   go_wp2_with (go_at_call 103;(with_reducible refine (HSN.out _).mono ?_);rintro e w3 ⟨rfl,rfl⟩)
   go_ret;exact ⟨none,0,[],rfl,by simp,by simp,S2.out.newRi⟩
 have hall:∀ e∈xs,∃ o:Nat,e.2=o/\o<=4194304/\1<=e.1.2/\e.1.2<=4194304/\(e.1,Pl.at o)∈x.C:=fun e he=>by
  have hm:=durs_mem (HP.out.mem_iff.1 he);obtain ⟨h1,h2,h3⟩:=HAT.out _ _ hm;exact ⟨e.2,rfl,h1,h2,h3,hm⟩
 have HALL:=hid hall
 have hxl:xs.length<=49:=by
  have h1:=HP.out.length_eq;have h2:=durs_len x.C;omega
 have hDl:D.length<=4194304:=by
  have:=readB_len S0.out.1.sdv.ok (fileN x.nm);rw [hrB] at this;exact this
 obtain ⟨g,cc,rfl,hg1,hg2,hh⟩:=HV1.out hx
 have SE:Hid (SW b w0 (ebOb (.slice (some ⟨g,0,none⟩) xs.length cc) xs::x.obs l) w1):=S0.out.addNewR HB1.out (ents_of (fun e=>absurd e hx) (fun _=>⟨g,cc,rfl,hg2,hh⟩)) (fun _ h=>h) (fun i hi=>by
  have e:some g=some i:=hi;injection e with e;omega)
 have SE2:=hid (SW.addIt SE.out RI2.out HGN.out (fun y hy hm=>by
  have hm:y.own am:=hm;rcases List.mem_cons.1 hy with rfl | hy
  · exact hm.elim
  have:=(S0.out.1.own y hy am hm).2;have:=HAM.out;omega))
 have hn0:xs.length≠0:=fun e=>hx (List.eq_nil_of_length_eq_zero e);have HFN:=hid (fun (dn:List (Int×Value)) (cn:Nat) (W:World) (hW:SW b w0 (itrOb okN vN vI am w1.heap.size (eM (.slice (some ⟨g,0,none⟩) xs.length cc) xs.length) dn cn::ebOb (.slice (some ⟨g,0,none⟩) xs.length cc) xs::x.obs l) W)=>fileName_any x.ps x.nm W ((hW.cell 3 rfl).cell 1) hnm)
 have HRD:Hid (∀ (dn:List (Int×Value)) (cn:Nat) W5,SW b w0 (itrOb okN vN vI am w1.heap.size (eM (.slice (some ⟨g,0,none⟩) xs.length cc) xs.length) dn cn::ebOb (.slice (some ⟨g,0,none⟩) xs.length cc) xs::x.obs l) W5->Calls Tryz.prog 38 #[vPtr x.p,.string (fileN x.nm)] W5 (fun e w'=>∃ A n c,e= .returned (.tuple #[.slice A n c,.int .i64 0])/\n=D.length/\D.length<=c/\SW b w0 (rsOb A D::itrOb okN vN vI am w1.heap.size (eM (.slice (some ⟨g,0,none⟩) xs.length cc) xs.length) dn cn::ebOb (.slice (some ⟨g,0,none⟩) xs.length cc) xs::x.obs l) w'/\Below W5.heap.size W5 w')):=fun dn cn W5 h5=>(Read_any x.p x.r x.s (fileN x.nm) W5 (h5.get 2 (o:=devOb x.p x.r x.s) rfl) (file_ok hnm)).mono (by
  rintro e w8 ⟨⟨A8,n8,c8⟩,rfl,hr8,hd8,hb8⟩;rw [hrE];rw [hrB] at hr8;exact ⟨A8,n8,c8,rfl,hr8.1.symm,hr8.1 ▸ hr8.2.1,(h5.newBytes hb8 hr8 hd8).bufRs,hb8⟩)
 clear hall hh HV0 HV1 S0 S1 S2 HM HP HB1 hrE hrB HGN HAM;refine wp_loop_rounds 2 ?_;rw [rounds_succ];go_wp2_with (at_next;refine wpList_next_eM _ rfl _ rfl am w1.heap.size (.slice (some ⟨g,0,none⟩) xs.length cc) xs.length [] _ rfl RI2.out (fun hp=>?_) (fun w3 cnt3 hn3 hrg3 hlt3 hg3 hs3 hen3=>halt_ ?_))
 · exfalso
   have h1:=hp.length_eq;rw [eM,if_neg hn0] at h1;simp at h1
 have S3:=hid (SE2.out.nextIt 0 rfl hrg3 hg3);obtain ⟨dn,Hdn⟩:∃ dn:List (Int×Value),Hid (([]:List (Int×Value))++[((1:Int),Value.slice (some ⟨g,0,none⟩) xs.length cc)]=dn):=⟨_,rfl⟩
 have S3:Hid (SW b w0 (itrOb okN vN vI am w1.heap.size (eM (.slice (some ⟨g,0,none⟩) xs.length cc) xs.length) dn cnt3::ebOb (.slice (some ⟨g,0,none⟩) xs.length cc) xs::x.obs l) w3):=by
  rw [Hid, <- Hdn.out];exact S3.out
 clear hrg3 hlt3 hg3 hs3 SE SE2 RI2 B2;refine hid ?_;go_upto_region 7 with fail
 have q0:w3.cell? ⟨x.ps,0,none⟩=some (vPtr x.p):=(S3.out.cell 3 rfl).cell 0;have hpl:x.ps<w3.heap.size:=(S3.out.cell 3 rfl).lt;have S3d:=hid S3.out.drew
 go_region_held (fun w'=>w'.cell? ⟨x.ps,0,none⟩=some (vPtr x.p))
  (first | go_keep | exact K5.out | exact K6.out)
  (first
    | (go_at_call 101;(with_reducible refine (HFN.out _ _ _ S3d.out).mono ?_);rintro e w7 ⟨rfl,q7,hw7⟩;have B7:=hid (after_drewD hw7);have S7:=hid (S3d.out.on B7.out);have K5:Hid (w7.cell? ⟨x.ps,0,none⟩=some (vPtr x.p)):=(S7.out.cell 3 rfl).cell 0;clear hw7)
    | (go_at_call 38;(with_reducible refine (HRD.out _ _ w7 S7.out).mono ?_);rintro e w8 ⟨A8,n8,c8,rfl,hn8,hc8,s8,hb8⟩;have S8:=hid s8;have HN8:=hid hn8;have K6:Hid (w8.cell? ⟨x.ps,0,none⟩=some (vPtr x.p)):=(S8.out.cell 4 rfl).cell 0;clear s8 hn8 hb8))
 have hn8:=HN8.out;subst hn8;clear HN8 K6 K5 HRD HFN q0 hpl S7 B7 S3d S3 hen3;go_wp2_with fail
 rename World=>wq;go_loopw [3,44] (fun s3 s44 wr=>∃ (k:Nat) (dm:List ID) (DA:Option Addr) (dc:Nat),s3= .slice DA dm.length dc/\s44= .int .i64 (k:Int)/\k<=xs.length/\dm.length<=k/\Hid (∀ i∈dm,∃ o,(i,Pl.at o)∈x.C/\cutOk D i o=false)/\SW b w0 (rowOb 31 2 (.slice DA dm.length dc) dm.length (dm.flatMap encID)::rsOb A8 D::itrOb okN vN vI am w1.heap.size (eM (.slice (some ⟨g,0,none⟩) xs.length cc) xs.length) dn cnt3::ebOb (.slice (some ⟨g,0,none⟩) xs.length cc) xs::x.obs l) wr) (fun _ s44 _=>xs.length-(intOf s44).toNat)
 case atStart=>exact ⟨0,[],none,0,rfl,rfl,Nat.zero_le _,Nat.le_refl _,(fun i hi=>by cases hi),S8.out.newRow 31 2⟩
 obtain ⟨k,dm,DA,dc,rfl,rfl,hk,hdk,HDM,hs⟩:=hrel;have S9:=hid hs;clear hs S8;by_cases hlt:k<xs.length
 · obtain ⟨e,he⟩:∃ e,xs.getD k ent0=e:=⟨_,rfl⟩
   have hem:e∈xs:=by
    rw [<- he,List.getD_eq_getElem?_getD,List.getElem?_eq_getElem hlt];exact List.getElem_mem hlt
   have hcs:∀ j,j<xs.length->wr.cell? ⟨g,j*3,none⟩=some (.int .u64 (xs.getD j ent0).1.1)/\wr.cell? ⟨g,j*3+1,none⟩=some (.int .i64 (xs.getD j ent0).1.2)/\wr.cell? ⟨g,j*3+2,none⟩=some (.int .i64 (xs.getD j ent0).2):=by
    obtain ⟨g',c',e1,_,hcs⟩:=(S9.out.get 3 (o:=ebOb (.slice (some ⟨g,0,none⟩) xs.length cc) xs) rfl).2 hx;injection e1 with e1 _ _;injection e1 with e1;injection e1 with e1;rw [e1];exact hcs
   obtain ⟨a0,a1,a2⟩:=hcs k hlt;rw [he] at a0 a1 a2;obtain ⟨o,ho1,ho2,ho3,ho4,hok⟩:=HALL.out e hem;rw [ho1] at a2;obtain ⟨ok,HOK⟩:∃ ok,Hid (cutOk D e.1 o=ok):=⟨_,rfl⟩
   have HCU:=hid (fun (W:World) (hW:RS W A8 D)=>(cut_any A8 c8 D e.1 o W hW hDl hc8 ho2 ho3 (by omega)).mono (R':=fun e w'=>∃ (A:Option Addr) (n c:Nat),e= .returned (.tuple #[.slice A n c,.bool ok])/\Below W.heap.size W w') (by
    rintro e' w' ⟨A,c,cs,rfl,_,_,_,hb⟩;rw [HOK.out];exact ⟨A,_,c,rfl,hb⟩))
   have HMO:=hid hok;clear he hem hcs hok ho1;have S10:=hid (S9.out.newCell 166 #[.int .u64 e.1.1,.int .i64 e.1.2,.int .i64 (o:Int)]);go_upto_region 11 with fail
   generalize wr.alloc (.cells #[.int .u64 e.1.1,.int .i64 e.1.2,.int .i64 (o:Int)] 166)=W10 at S10 |-; generalize wr.heap.size=H10 at S10 |-; clear a0 a1 a2 S9;have a0:=(S10.out.cell 0 rfl).cell 0;have a1:=(S10.out.cell 0 rfl).cell 1;have a2:=(S10.out.cell 0 rfl).cell 2;have HC2:=hid (HCU.out W10 (S10.out.get 2 (o:=rsOb A8 D) rfl));go_wp2_with fail
   refine HC2.out.mono ?_;rintro e2 w11 ⟨A2,n2,c2,rfl,hb2⟩;have S11:=hid (S10.out.on hb2);clear hb2 S10 HCU HC2 a0 a1 a2;cases ok with
   | true=>
    go_wp2_with fail
    go_roundw
    case rel=>exact ⟨k+1,dm,DA,dc,rfl,by go_num,by omega,by omega,HDM.out,S11.out.tail⟩
    simp [intOf];omega
   | false=>
    have a0:=(S11.out.cell 0 rfl).cell 0;have a1:=(S11.out.cell 0 rfl).cell 1;obtain ⟨j1,gj,gy0,gy1,gy2⟩:=info_parts info31
    have HDM2:Hid (∀ i∈dm++[e.1],∃ o,(i,Pl.at o)∈x.C/\cutOk D i o=false):=fun i hi=>by
     rcases List.mem_append.1 hi with hi | hi
     · exact HDM.out i hi
     rw [List.mem_singleton.1 hi];exact ⟨o,HMO.out,HOK.out⟩
    go_wp2_with (at_builtin;(refine wpList_rowS (t:=38) (e:=31) (size:=2) (bytes:=16) (i:=j1) (S11.out.alloc _) 1 rfl (by rfl) (.tmp 59) (.tmp 62) (by rfl) Tryz.underlying38 gj gy0 gy1 gy2 rfl (by omega) (by rfl) ⟨w11.heap.size,0,none⟩ 1 [.int .u64 e.1.1,.int .i64 e.1.2] (by rfl) rfl (two_new w11 _ _ 31 _ rfl) (encID_one e.1) (by unfold maxLen;omega) (by omega) ?_);refine halt_ ?_)
    intro v12 w12 s12;obtain ⟨g12,c12,rfl⟩:=own_some (s12.get 1 rfl) (by omega);obtain ⟨dm2,HD2⟩:∃ dm2,Hid (dm++[e.1]=dm2):=⟨_,rfl⟩
    have S12:Hid (SW b w0 (rowOb 31 2 (.slice (some ⟨g12,0,none⟩) dm2.length c12) dm2.length (dm2.flatMap encID)::rsOb A8 D::itrOb okN vN vI am w1.heap.size (eM (.slice (some ⟨g,0,none⟩) xs.length cc) xs.length) dn cnt3::ebOb (.slice (some ⟨g,0,none⟩) xs.length cc) xs::x.obs l) w12):=by
     rw [Hid, <- HD2.out,List.flatMap_append,zB];exact s12.tail
    have hdl:dm.length+1=dm2.length:=by rw [<- HD2.out,zB];rfl
    rw [HD2.out] at HDM2;rw [hdl];clear s12 S11 a0 a1;go_wp2_with fail
    go_roundw
    case rel=>exact ⟨k+1,dm2,some ⟨g12,0,none⟩,c12,rfl,by go_num,by omega,by omega,HDM2.out,S12.out⟩
    simp [intOf];omega
 obtain rfl:k=xs.length:=by omega
 have RI9:Hid (RIs okN vN vI wr am w1.heap.size (eM (.slice (some ⟨g,0,none⟩) xs.length cc) xs.length) dn cnt3):=S9.out.get 2 (o:=itrOb okN vN vI am w1.heap.size (eM (.slice (some ⟨g,0,none⟩) xs.length cc) xs.length) dn cnt3) rfl;go_wp2_with fail
 rw [rounds_succ];go_wp2_with (at_next;refine wpList_next_eM _ rfl _ rfl am w1.heap.size (.slice (some ⟨g,0,none⟩) xs.length cc) xs.length dn _ rfl RI9.out (fun hp=>?_) (fun w4 cnt4 hn4 hrg4 hlt4 hg4 hs4 hen4=>?_))
 · have S10:Hid (SW b w0 (rowOb 31 2 (.slice DA dm.length dc) dm.length (dm.flatMap encID)::x.obs l) wr):=SW.few (pre:=[_,_,_,_]) S9.out [0] (n:=4) rfl (by decide) (by decide);clear S9 RI9;have hown:=S10.out.get 0 (o:=rowOb 31 2 (.slice DA dm.length dc) dm.length (dm.flatMap encID)) rfl;cases DA with
   | none=>
    have h0:dm=[]:=by
     rcases hown.2 with ⟨_,h2⟩ | ⟨g',cap',cur,hv,_⟩
     · exact List.eq_nil_of_length_eq_zero h2
     cases hv
    subst h0
    have hdc:dc=0:=by
     rcases hown.2 with ⟨hv,_⟩ | ⟨g',cap',cur,hv,_⟩
     · injection hv
     cases hv
    subst hdc;clear hown;rw [show ([]:List ID).length=0 from rfl];go_wp2_with (go_at_call 103;(with_reducible refine (HSN.out _).mono ?_);rintro e w4 ⟨rfl,rfl⟩)
    go_ret;exact ⟨none,0,[],rfl,by simp,by simp,S10.out.tail.newRi⟩
   | some ad=>
    obtain ⟨gd,rfl⟩:∃ gd,ad=⟨gd,0,none⟩:=by
     rcases hown.2 with ⟨hv,_⟩ | ⟨g',cap',cur,hv,_⟩
     · cases hv
     injection hv with h1 _ _;injection h1 with h1;exact ⟨g',h1⟩
    obtain ⟨_,hrow,hg2,_⟩:=own_rowI (own_base hown (fun _ _=>Nat.zero_le _))
    have HSI:Hid (Calls Tryz.prog 103 #[.slice (some ⟨gd,0,none⟩) dm.length dc,vAsc] wr (fun e w'=>∃ ys,e= .returned (.tuple #[])/\ys.Perm dm/\RowI w' gd ys/\wr.grownBy w' (some gd))):=(sortI49_any gd dc dm wr hrow (by omega) hg2).mono (by
     rintro e w' ⟨rfl,⟨ys,h1,_,h3⟩,h4⟩;exact ⟨ys,rfl,h1,h3,h4⟩)
    clear hown hrow;go_wp2_with (go_at_call 103;(with_reducible refine HSI.out.mono ?_);rintro e w4 ⟨ys,rfl,hy1,hy3,hgr⟩;have S11:=hid (SW.sorted S10.out hy3 hgr (Nat.lt_of_lt_of_le hg2 hgr.size));have HY1:=hid hy1;clear hy1 hy3 hgr)
    have hyl:dm.length=ys.length:=HY1.out.length_eq.symm;rw [hyl];go_ret;exact ⟨some ⟨gd,0,none⟩,dc,ys,rfl,fun i hi=>HDM.out i (HY1.out.mem_iff.1 hi),by omega,S11.out⟩
 exfalso
 have:=hrg4.keysN;rw [<- Hdn.out] at this;simp at this
end
section
open Go.RowKit Go.MapKept Go.ChangeMaps Go.Shelf Go.Sort
def txtB (D:List UInt8) (i:ID):Pl->List UInt8
 | .pend _ bs=>bs
 | .at o=>cutB D i o
theorem setL_pendL:∀ (C:Chs) (i:ID) (o:Nat) (d:BD) (bs:List UInt8),asc C i=some (Pl.at o)->d.A.isSome=true->
 (pends (setL C i (.pend d bs))).length=(pends C).length+1/\entSum (durs (setL C i (.pend d bs)))<=entSum (durs C)/\(setL C i (.pend d bs)).length=C.length
 | [],_,_,_,_,h,_=>by cases h
 | (j,pl)::C,i,o,d,bs,h,hd=>by
  unfold asc at h;unfold setL;by_cases e:j=i
  · subst e;simp only [if_true] at h |-; have h:pl= .at o:=by injection h
    subst h;refine ⟨?_,?_,rfl⟩
    · simp [pends,Pl.A,hd]
    have:entSum (durs ((j,Pl.at o)::C))=(28+j.2.toNat)+entSum (durs C):=by simp [durs,entSum]
    have e2:durs ((j,Pl.pend d bs)::C)=durs C:=rfl;rw [this,e2];omega
  simp only [if_neg e] at h |-; obtain ⟨h1,h2,h3⟩:=setL_pendL C i o d bs h hd;refine ⟨?_,?_,by rw [List.length_cons,List.length_cons,h3]⟩
  · have:∀ K:Chs,(pends ((j,pl)::K)).length=(if pl.A.isSome then 1 else 0)+(pends K).length:=fun K=>by
     cases hA:pl.A.isSome<;>simp [pends,hA]<;>omega
    rw [this,this,h1];omega
  cases pl with
  | pend d' bs'=>exact h2
  | «at» q=>
   have:∀ K:Chs,entSum (durs ((j,Pl.at q)::K))=(28+j.2.toNat)+entSum (durs K):=fun K=>by simp [durs,entSum]
   rw [this,this];omega
theorem setL_memK {C:Chs} (hn:(C.map (·.1)).Nodup) {i j:ID} {v pl:Pl} (h:(j,pl)∈setL C i v):(j=i/\pl=v)∨(j≠i/\(j,pl)∈C):=by
 have ha:=asc_mem (setL_nodup hn i v) h;rw [asc_setL] at ha;by_cases e:i=j
 · rw [if_pos e] at ha;injection ha with ha;exact .inl ⟨e.symm,ha.symm⟩
 rw [if_neg e] at ha;exact .inr ⟨fun e2=>e e2.symm,mem_of_asc ha⟩
theorem renew_at (D:List UInt8) (C:Chs) (ys:List Ent) (ids:List ID) (hy:∀ y∈ys,(cutB D y.1 y.2).length=y.1.2.toNat) (hi:∀ i∈ids,(pendB C i).length=i.2.toNat):
 ∀ c∈(afold C (rfold D [] ys) ids).1,∃ o,c.2=Pl.at o/\((c.1∈ids/\cutB (afold C (rfold D [] ys) ids).2 c.1 o=pendB C c.1)∨(∃ q,(c.1,q)∈ys/\cutB (afold C (rfold D [] ys) ids).2 c.1 o=cutB D c.1 q))/\o+28+c.1.2.toNat<=(afold C (rfold D [] ys) ids).2.length:=by
 have h1:∀ (ys:List Ent) (p:Chs×List UInt8) (Y:List Ent),(∀ y∈ys,y∈Y)->(∀ y∈ys,(cutB D y.1 y.2).length=y.1.2.toNat)->(∀ c∈p.1,∃ o,c.2=Pl.at o/\(∃ q,(c.1,q)∈Y/\cutB p.2 c.1 o=cutB D c.1 q)/\o+28+c.1.2.toNat<=p.2.length)->
  ∀ c∈(ys.foldl (rstep D) p).1,∃ o,c.2=Pl.at o/\(∃ q,(c.1,q)∈Y/\cutB (ys.foldl (rstep D) p).2 c.1 o=cutB D c.1 q)/\o+28+c.1.2.toNat<=(ys.foldl (rstep D) p).2.length:=by
  intro ys;induction ys with
  | nil=>intro p Y _ _ hp;exact hp
  | cons y ys ih=>
   intro p Y hY hl hp;rw [List.foldl_cons];refine ih _ Y (fun z hz=>hY z (zA _ hz)) (fun z hz=>hl z (zA _ hz)) (fun c hc=>?_);have hly:=hl y (zC ..);have e2:(rstep D p y).2=p.2++headB y.1 1 (0+p.2.length)++cutB D y.1 y.2:=rfl;have hc':c∈setL p.1 y.1 (Pl.at (0+p.2.length)):=hc;rw [e2];rcases setL_memG hc' with rfl | hc'
   · refine ⟨0+p.2.length,rfl,⟨y.2,hY y (zC ..),?_⟩,?_⟩
     · show ((p.2++headB y.1 1 (0+p.2.length)++cutB D y.1 y.2).drop (0+p.2.length+28)).take y.1.2.toNat=_;rw [List.drop_left' (by simp [headB_len]),zD (by rw [hly];exact Nat.le_refl _)]
     simp only [zB,headB_len];omega
   obtain ⟨o,h1,⟨q,h2,h3⟩,h4⟩:=hp c hc';refine ⟨o,h1,⟨q,h2,?_⟩,by simp only [zB];omega⟩;rw [List.append_assoc,cutB_more h4,h3]
 have h2:∀ (js:List ID) (p:Chs×List UInt8),(∀ i∈js,i∈ids)->(∀ i∈js,(pendB C i).length=i.2.toNat)->(∀ c∈p.1,∃ o,c.2=Pl.at o/\((c.1∈ids/\cutB p.2 c.1 o=pendB C c.1)∨(∃ q,(c.1,q)∈ys/\cutB p.2 c.1 o=cutB D c.1 q))/\o+28+c.1.2.toNat<=p.2.length)->
  ∀ c∈(js.foldl (wstep 0 C) p).1,∃ o,c.2=Pl.at o/\((c.1∈ids/\cutB (js.foldl (wstep 0 C) p).2 c.1 o=pendB C c.1)∨(∃ q,(c.1,q)∈ys/\cutB (js.foldl (wstep 0 C) p).2 c.1 o=cutB D c.1 q))/\o+28+c.1.2.toNat<=(js.foldl (wstep 0 C) p).2.length:=by
  intro js;induction js with
  | nil=>intro p _ _ hp;exact hp
  | cons i js ih=>
   intro p hI hl hp;rw [List.foldl_cons];refine ih _ (fun j hj=>hI j (zA _ hj)) (fun j hj=>hl j (zA _ hj)) (fun c hc=>?_);have hli:=hl i (zC ..);have e2:(wstep 0 C p i).2=p.2++headB i 1 (0+p.2.length)++pendB C i:=rfl;have hc':c∈setL p.1 i (Pl.at (0+p.2.length)):=hc;rw [e2];rcases setL_memG hc' with rfl | hc'
   · refine ⟨0+p.2.length,rfl,.inl ⟨hI i (zC ..),?_⟩,?_⟩
     · unfold cutB;rw [List.drop_left' (by simp [headB_len]),zD (by simp only;omega)]
     simp only [zB,headB_len];omega
   obtain ⟨o,h1,h3,h4⟩:=hp c hc';refine ⟨o,h1,?_,by simp only [zB];omega⟩;rw [List.append_assoc,cutB_more h4];exact h3
 exact h2 ids (rfold D [] ys) (fun _ h=>h) hi (fun c hc=>by
  obtain ⟨o,a,b,c⟩:=h1 ys ([],[]) ys (fun _ h=>h) hy (fun c hc=>by cases hc) c hc;exact ⟨o,a,.inr b,c⟩)
def Moved (D:List UInt8) (C C':Chs) (D':List UInt8):Prop:=∀ i,(asc C i=none/\asc C' i=none)∨∃ pl o,asc C i=some pl/\asc C' i=some (Pl.at o)/\cutB D' i o=txtB D i pl/\o+28+i.2.toNat<=D'.length
section
variable {D:List UInt8} {C done:Chs} {ids:List ID}
theorem pendB_len (hk:(C.map (·.1)).Nodup) (hp:ids.Perm (pends C)) (hpe:∀ i d bs,(i,Pl.pend d bs)∈C->i=fpOf bs):∀ i∈ids,(pendB C i).length=i.2.toNat:=fun i hi=>by
 obtain ⟨d,bs,hm⟩:=pends_mem (hp.mem_iff.1 hi);have ha:=asc_mem hk hm;have he:=hpe i d bs hm;unfold pendB;rw [ha];simp only;rw [he];simp [fpOf]
theorem moved_add (hk:(C.map (·.1)).Nodup) (hp:ids.Perm (pends C)) (hpe:∀ i d bs,(i,Pl.pend d bs)∈C->i=fpOf bs/\d.A.isSome=true) (hat:∀ i o,(i,Pl.at o)∈C->o+28+i.2.toNat<=D.length) (hdone:done.Perm (wfold D.length C [] ids).1):Moved D C (updAll C done) (D++(wfold D.length C [] ids).2):=by
 intro i;have hnd:(done.map (·.1)).Nodup:=(hdone.map _).nodup_iff.2 (wfold_nodup _ _ _);have hu:=updAll_asc C done hnd i;rw [asc_permC hdone hnd i] at hu;have hpl:=pendB_len hk hp (fun i d bs hm=>(hpe i d bs hm).1);by_cases hi:i∈ids
 · right
   obtain ⟨d,bs,hm⟩:=pends_mem (hp.mem_iff.1 hi);have ha:=asc_mem hk hm;have hk2:=asc_key.2 (((wfold_keys D.length C ids).2 i).2 hi);obtain ⟨pl,hM⟩:=Option.isSome_iff_exists.1 hk2;rw [hM] at hu;obtain ⟨o,h1,h2,h3⟩:=wfold_at D C ids hpl _ (mem_of_asc hM);simp only at h1 h2 h3;subst h1;refine ⟨_,o,ha,hu,?_,h3⟩;rw [h2];unfold pendB;rw [ha];rfl
 have hM:asc (wfold D.length C [] ids).1 i=none:=by
  cases hM:asc (wfold D.length C [] ids).1 i with
  | none=>rfl
  | some pl=>exact absurd (((wfold_keys D.length C ids).2 i).1 (asc_key.1 (by rw [hM];rfl))) hi
 rw [hM] at hu;cases ha:asc C i with
 | none=>exact .inl ⟨rfl,by rw [hu];exact ha⟩
 | some pl=>
  right
  have hm:=mem_of_asc ha;cases pl with
  | pend d bs=>exact absurd (hp.mem_iff.2 (pends_of hm (hpe i d bs hm).2)) hi
  | «at» o=>
   have h1:=hat i o hm;exact ⟨_,o,rfl,by rw [hu];exact ha,cutB_more h1 _,by rw [zB];omega⟩
theorem moved_renew {ys:List Ent} (hk:(C.map (·.1)).Nodup) (hp:ids.Perm (pends C)) (hys:ys.Perm (durs C)) (hpe:∀ i d bs,(i,Pl.pend d bs)∈C->i=fpOf bs/\d.A.isSome=true) (hat:∀ i o,(i,Pl.at o)∈C->o+28+i.2.toNat<=D.length) (hdone:done.Perm (afold C (rfold D [] ys) ids).1):Moved D C (updAll C done) (afold C (rfold D [] ys) ids).2:=by
 intro i
 have hfn:((afold C (rfold D [] ys) ids).1.map (·.1)).Nodup:=by
  have h1:∀ (ys:List Ent) (p:Chs×List UInt8),(p.1.map (·.1)).Nodup->((ys.foldl (rstep D) p).1.map (·.1)).Nodup:=by
   intro ys;induction ys with
   | nil=>intro p hp;exact hp
   | cons y ys ih=>intro p hp;exact ih _ (setL_nodup hp _ _)
  have h2:∀ (ids:List ID) (p:Chs×List UInt8),(p.1.map (·.1)).Nodup->((ids.foldl (wstep 0 C) p).1.map (·.1)).Nodup:=by
   intro ids;induction ids with
   | nil=>intro p hp;exact hp
   | cons i ids ih=>intro p hp;exact ih _ (setL_nodup hp _ _)
  exact h2 ids _ (h1 ys ([],[]) List.nodup_nil)
 have hnd:(done.map (·.1)).Nodup:=(hdone.map _).nodup_iff.2 hfn;have hu:=updAll_asc C done hnd i;rw [asc_permC hdone hnd i] at hu;have hpl:=pendB_len hk hp (fun i d bs hm=>(hpe i d bs hm).1)
 have hyl:∀ y∈ys,(cutB D y.1 y.2).length=y.1.2.toNat:=fun y hy=>by
  have:=hat y.1 y.2 (durs_mem (hys.mem_iff.1 hy));unfold cutB;rw [List.length_take,List.length_drop];omega
 have hra:=renew_at D C ys ids hyl hpl;have hkey:=(nfold_keys D C ys ids).2.1 i;cases ha:asc C i with
 | none=>
  left
  have hM:asc (afold C (rfold D [] ys) ids).1 i=none:=by
   cases hM:asc (afold C (rfold D [] ys) ids).1 i with
   | none=>rfl
   | some pl=>
    exfalso
    rcases hkey.1 (asc_key.1 (by rw [hM];rfl)) with h | h
    · obtain ⟨y,hy,e⟩:=List.mem_map.1 h;have:=asc_mem hk (durs_mem (hys.mem_iff.1 hy));rw [e,ha] at this;cases this
    obtain ⟨d,bs,hm⟩:=pends_mem (hp.mem_iff.1 h);have:=asc_mem hk hm;rw [ha] at this;cases this
  rw [hM] at hu;exact ⟨rfl,by rw [hu];exact ha⟩
 | some pl=>
  right
  have hm:=mem_of_asc ha
  have hin:i∈ys.map (·.1)∨i∈ids:=by
   cases pl with
   | pend d bs=>exact .inr (hp.mem_iff.2 (pends_of hm (hpe i d bs hm).2))
   | «at» o=>exact .inl (List.mem_map.2 ⟨(i,o),hys.mem_iff.2 (durs_of hm),rfl⟩)
  obtain ⟨pl',hM⟩:=Option.isSome_iff_exists.1 (asc_key.2 (hkey.2 hin));rw [hM] at hu;obtain ⟨o,h1,h2,h3⟩:=hra _ (mem_of_asc hM);simp only at h1 h2 h3;subst h1;refine ⟨_,o,rfl,hu,?_,h3⟩;rcases h2 with ⟨hi,h2⟩ | ⟨q,hq,h2⟩
  · obtain ⟨d,bs,hm2⟩:=pends_mem (hp.mem_iff.1 hi);have ha2:=asc_mem hk hm2;rw [ha] at ha2;injection ha2 with ha2;subst ha2;rw [h2];unfold pendB;rw [ha];rfl
  have ha2:=asc_mem hk (durs_mem (hys.mem_iff.1 hq));simp only at ha2;rw [ha] at ha2;injection ha2 with ha2;subst ha2;exact h2
end
end
end Go.Proofs.YteabgcollokgjaaGreatDoor
