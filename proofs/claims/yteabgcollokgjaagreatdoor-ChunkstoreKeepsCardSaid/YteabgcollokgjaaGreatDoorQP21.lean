/- Q -/
import Derived.Test.YteabgcollokgjaaGreatDoorQP20
set_option linter.unusedSimpArgs false
set_option linter.unusedVariables false
set_option maxRecDepth 100000
set_option maxHeartbeats 32000000
open Go.Lib (hid)
open List renaming mem_cons_of_mem → zA,getD_eq_getElem?_getD → zB,getElem?_eq_getElem → zC,take_succ_eq_append_getElem → zD,mem_of_mem_take → zE,setIfInBounds_toArray → zF
namespace Go.Proofs.YteabgcollokgjaaGreatDoor
section
open Go.RowKit Go.MapKept Go.ChangeMaps Go.Shelf Go.Sort
def rstep (D:List UInt8) (p:Chs×List UInt8) (y:Ent):Chs×List UInt8:=(setL p.1 y.1 (.at (0+p.2.length)),p.2++headB y.1 1 (0+p.2.length)++cutB D y.1 y.2)
def rfold (D:List UInt8) (M:Chs) (ys:List Ent):Chs×List UInt8:=ys.foldl (rstep D) (M,[])
def afold (C:Chs) (p:Chs×List UInt8) (ids:List ID):Chs×List UInt8:=ids.foldl (wstep 0 C) p
theorem rfold_snoc (D:List UInt8) (M:Chs) (ys:List Ent) (y:Ent):rfold D M (ys++[y])=rstep D (rfold D M ys) y:=by
 unfold rfold;rw [List.foldl_append];rfl
theorem afold_snoc (C:Chs) (p:Chs×List UInt8) (ids:List ID) (i:ID):afold C p (ids++[i])=wstep 0 C (afold C p ids) i:=by
 unfold afold;rw [List.foldl_append];rfl
theorem cutB_len {D:List UInt8} {i:ID} {o:Nat} (h1:0<=i.2) (h:(o:Int)+28+i.2<=D.length):(cutB D i o).length=i.2.toNat:=by
 unfold cutB;rw [List.length_take,List.length_drop];omega
theorem rfold_len (D:List UInt8) (M:Chs) (ys:List Ent) (h:∀ y∈ys,0<=y.1.2/\(y.2:Int)+28+y.1.2<=D.length):(rfold D M ys).2.length=entSum ys:=by
 have:∀ (ys:List Ent) (p:Chs×List UInt8),(∀ y∈ys,0<=y.1.2/\(y.2:Int)+28+y.1.2<=D.length)->(ys.foldl (rstep D) p).2.length=p.2.length+entSum ys:=by
  intro ys;induction ys with
  | nil=>intro p _;simp [entSum]
  | cons y ys ih=>
   intro p hp;rw [List.foldl_cons,ih _ (fun z hz=>hp z (by simp [hz]))];have h1:=hp y (by simp);unfold rstep;simp only [List.length_append,headB_len,cutB_len h1.1 h1.2];simp [entSum];omega
 have h2:=this ys (M,[]) h;simpa [rfold] using h2
theorem afold_len (C:Chs) (p:Chs×List UInt8) (ids:List ID) (h:∀ i∈ids,(pendB C i).length=i.2.toNat):(afold C p ids).2.length=p.2.length+frSum ids:=by
 unfold afold;induction ids generalizing p with
 | nil=>simp [frSum]
 | cons i ids ih=>
  rw [List.foldl_cons,ih _ (fun j hj=>h j (by simp [hj]))];unfold wstep;simp only [List.length_append,headB_len,h i (by simp)];simp [frSum];omega
theorem entSum_take_le (ys:List Ent) (k:Nat):entSum (ys.take k)<=entSum ys:=by
 have h:∀ a b:List Ent,entSum (a++b)=entSum a+entSum b:=fun a b=>by simp [entSum]
 have:=h (ys.take k) (ys.drop k);rw [List.take_append_drop] at this;omega
abbrev crOp (nm:ByteArray) (bs:List UInt8):POp:=⟨.create,freshN nm,ByteArray.empty,bs,true⟩
abbrev rnOp (nm:ByteArray):POp:=⟨.rename,freshN nm,fileN nm,[],false⟩
def rqE (s:St) (nm:ByteArray) (n1 n2:Nat) (bs:List UInt8):Int:=if reqE s n1 (crOp nm bs)=0 then reqE (reqS s n1 (crOp nm bs)) n2 (rnOp nm) else reqE s n1 (crOp nm bs)
def rqS (s:St) (nm:ByteArray) (n1 n2:Nat) (bs:List UInt8):St:=if reqE s n1 (crOp nm bs)=0 then reqS (reqS s n1 (crOp nm bs)) n2 (rnOp nm) else reqS s n1 (crOp nm bs)
structure RWS where
 pc:Nat
 SA:Option Addr
 sc:Nat
 A:Option Addr
 ac:Nat
 len:Int
 ids:List ID
 lv:Value
 mv:Nat
 M:Chs
 ys:List Ent
abbrev RWS.cs (q:RWS):Array Value:= #[.int .i64 1,.bool true,.slice q.SA q.ys.length q.sc,.slice q.A q.ids.length q.ac,.int .i64 q.len]
abbrev RWS.obs (q:RWS) (x:SR) (l:List Ob):List Ob:=cellOb q.pc 216 q.cs::chOb q.mv q.M::riOb q.A q.ids::rowOb 214 1 q.lv 1 [vPtr q.pc]::ebOb (.slice q.SA q.ys.length q.sc) q.ys::x.obs l
def RWPost (b:Nat) (w0:World) (q:RWS) (D:List UInt8) (x:SR) (l:List Ob) (e:Ending) (w':World):Prop:=
 ∃ n1 n2 r',Cnt x.s.now n1/\Cnt (reqS x.s n1 (crOp x.nm (afold x.C (rfold D q.M q.ys) q.ids).2)).now n2/\e= .returned (.int .i64 (rqE x.s x.nm n1 n2 (afold x.C (rfold D q.M q.ys) q.ids).2))/\
  SW b w0 (({ q with M:=(afold x.C (rfold D q.M q.ys) q.ids).1 }:RWS).obs { x with r:=r',s:=rqS x.s x.nm n1 n2 (afold x.C (rfold D q.M q.ys) q.ids).2 } l) w'
theorem fresh_ok {nm:ByteArray} (h:nm.size<=1000):okS (freshN nm):=by
 unfold okS freshN maxLen;rw [ByteArray.size_append];show nm.size+4<=_;omega
theorem okID_bounds {i:ID} (h:okID i):0<=i.1/\i.1<18446744073709551616:=by
 have:=h.1;simp [Lit.wf,IntKind.min,IntKind.max,IntKind.signed,IntKind.bits] at this;omega
theorem SW.addN {b:Nat} {w0 w w':World} {l:List Ob} (h:SW b w0 l w) (hb:Below w.heap.size w w') {o:Ob} (hh:o.holds w') (ho:∀ i,o.own i->w.heap.size<=i/\i<w'.heap.size) (hr:∀ i,o.rd i->w.heap.size<=i/\i<w'.heap.size):SW b w0 (o::l) w':=by
 have:=h.1.add hb hh ho (fun i hi=>(hr i hi).2) (fun i hi hlt=>by have:=(hr i hi).1;omega);exact ⟨this.1,h.2.trans this.2⟩
theorem SW.newBytes {b:Nat} {w0 w w':World} {l:List Ob} {d:BD} {bs:List UInt8} (h:SW b w0 l w) (hb:Below w.heap.size w w') (hr:RB w' d bs) (hn:∀ g,blk d=some g->w.heap.size<=g):SW b w0 (bufOb d bs::l) w':=
 h.addN hb hr (fun i hi=>⟨hn i hi,hr.lt hi⟩) (fun i hi=>hi.elim)
theorem SW.bufRs {b:Nat} {w0 w:World} {d:BD} {bs:List UInt8} {t:List Ob} (h:SW b w0 (bufOb d bs::t) w):SW b w0 (rsOb d.A bs::t) w:=by
 have hh:RB w d bs:=h.get 0 (o:=bufOb d bs) rfl;have ha:=List.pairwise_cons.1 h.1.apart
 have hrd:∀ i,(rsOb d.A bs).rd i->(bufOb d bs).own i:=by
  rintro i ⟨_,o,e⟩;show blk d=some i;unfold blk;rw [e];rfl
 refine ⟨⟨h.1.base,fun y hy=>?_,fun y hy i hi=>?_,fun y hy i hi=>?_,List.pairwise_cons.2 ⟨fun y hy=>⟨fun i hi=>hi.elim,fun i hi hr=>?_⟩,ha.2⟩⟩,h.2⟩
 · rcases List.mem_cons.1 hy with rfl | hy
   · exact hh.rs
   exact h.1.holds y (zA _ hy)
 · rcases List.mem_cons.1 hy with rfl | hy
   · exact hi.elim
   exact h.1.own y (zA _ hy) i hi
 · rcases List.mem_cons.1 hy with rfl | hy
   · exact (h.1.own _ (List.mem_cons_self ..) i (hrd i hi)).2
   exact h.1.rd y (zA _ hy) i hi
 exact ((ha.1 y hy).1 i (hrd i hr)).1 hi
theorem writeFileR_any {b:Nat} {w0 w:World} {q:RWS} {x:SR} {l:List Ob} (h:SW b w0 (q.obs x l) w) (D:List UInt8) (hrd:readE x.s (fileN x.nm)=0) (hD:readB x.s (fileN x.nm)=D) (hnm:x.nm.size<=1000)
 (hys:∀ y∈q.ys,okID y.1/\1<=y.1.2/\y.1.2<=8192/\(y.2:Int)+28+y.1.2<=D.length)
 (hids:∀ i∈q.ids,∃ d bs,asc x.C i=some (.pend d bs)/\i.2=(bs.length:Int)/\bs.length<=8192/\okID i) (hsum:entSum q.ys+frSum q.ids<=1048576) (hL:x.s.ops.length<=999990):
 Calls Tryz.prog 181 #[vPtr x.ps,vPtr q.pc,.map (some q.mv)] w (RWPost b w0 q D x l):=by
 obtain ⟨pc,SA,sc,A,ac,len,ids,lv,mv,M,ys⟩:=q;simp only at hids hys hsum;have hidl:ids.length<=1048576:=Nat.le_trans (len_le_frSum ids) (by omega)
 have hyl:ys.length<=1048576:=by
  have:ys.length<=entSum ys:=by
   clear hys hsum h;induction ys with
   | nil=>simp
   | cons y ys ih=>
    have:entSum (y::ys)=28+y.1.2.toNat+entSum ys:=by simp [entSum]
    rw [this,List.length_cons];omega
  omega
 have hDl:D.length<=4194304:=by
  rw [<- hD];exact readB_len (h.get 5 (o:=devOb x.p x.r x.s) rfl).ok _
 have hrl:∀ ks:List Ent,(∀ y∈ks,y∈ys)->(rfold D M ks).2.length=entSum ks:=fun ks hk=>rfold_len D M ks (fun y hy=>by
  have:=hys y (hk y hy);exact ⟨by omega,this.2.2.2⟩)
 have hpb:∀ j∈ids,(pendB x.C j).length=j.2.toNat:=fun j hj=>by
  obtain ⟨d',bs',h1,h2,_⟩:=hids j hj;unfold pendB;rw [h1,h2];simp
 have HBL:Hid ((afold x.C (rfold D M ys) ids).2.length<=1048576):=by
  rw [Hid,afold_len _ _ _ hpb,hrl ys (fun _ h=>h)];exact hsum
 have HRL:=hid hrl;have HPB0:=hid hpb;have HIDS:=hid hids;have HYS:=hid hys;have HE:=hid hrd;have HD:=hid hD;obtain ⟨fv,HFV⟩:∃ fv,Hid (flV x.F=fv):=⟨_,rfl⟩
 have S1:Hid (SW b w0 (cellOb (w.heap.size+1+1+1) 3 #[.int .i64 0]::cellOb (w.heap.size+1+1) 34 #[.slice none 0 0]::cellOb (w.heap.size+1) 128 #[.map (some mv)]::cellOb w.heap.size 214 #[vPtr pc]::cellOb pc 216 #[.int .i64 1,.bool true,.slice SA ys.length sc,.slice A ids.length ac,.int .i64 len]::chOb mv M::(riOb A ids::rowOb 214 1 lv 1 [vPtr pc]::ebOb (.slice SA ys.length sc) ys::x.obs l)) ((((w.alloc (.cells #[vPtr pc] 214)).alloc (.cells #[.map (some mv)] 128)).alloc (.cells #[.slice none 0 0] 34)).alloc (.cells #[.int .i64 0] 3))):=
  (((h.newCell 214 #[vPtr pc]).newCellAt 128 #[.map (some mv)] (by simp)).newCellAt 34 #[.slice none 0 0] (by simp)).newCellAt 3 #[.int .i64 0] (by simp)
 clear h hids hys hrd hD hrl hpb;go_enter Tryz.func181,Tryz.ntmps181;go_upto_region 4 with fail
 generalize (((w.alloc (.cells #[vPtr pc] 214)).alloc (.cells #[.map (some mv)] 128)).alloc (.cells #[.slice none 0 0] 34)).alloc (.cells #[.int .i64 0] 3)=W at S1 |-; generalize w.heap.size+1+1+1=bb at S1 |-; generalize w.heap.size+1+1=b4 at S1 |-; generalize w.heap.size+1=bm at S1 |-; generalize w.heap.size=bc at S1 |-; have S2:Hid (SW b w0 ((⟨bc,bb,b4,bm,pc, #[.int .i64 1,.bool true,.slice SA ys.length sc,.slice A ids.length ac,.int .i64 len],0,mv,M,⟨none,0,0⟩,[]⟩:FrS).obs (riOb A ids::rowOb 214 1 lv 1 [vPtr pc]::ebOb (.slice SA ys.length sc) ys::x.obs l)) W):=SW.front (pre:=[_,_,_,_,_,_,_]) (t:=(riOb A ids::rowOb 214 1 lv 1 [vPtr pc]::ebOb (.slice SA ys.length sc) ys::x.obs l)) S1.out.newBuf [4,1,2,3,5,6,0] (n:=7) rfl (by decide);have S3:=hid S2.out.drew;clear S1 S2;refine wp_region_held_tail [(0,true),(1,true),(2,true),(3,true),(4,true),(5,true),(6,true),(7,true),(8,true)] (SW b w0 ((⟨bc,bb,b4,bm,pc, #[.int .i64 1,.bool true,.slice SA ys.length sc,.slice A ids.length ac,.int .i64 len],0,mv,M,⟨none,0,0⟩,[]⟩:FrS).obs (riOb A ids::rowOb 214 1 lv 1 [vPtr pc]::ebOb (.slice SA ys.length sc) ys::x.obs l))) (by kernel_rfl) (fun _ _ d _ _ h=>by cases d<;>exact h) (by kernel_rfl) S3.out ?_;simp only [pk_];generalize W.drew=W2 at S3 |-
 have HC:=hid (fun (w':World) (h:SW b w0 ((⟨bc,bb,b4,bm,pc, #[.int .i64 1,.bool true,.slice SA ys.length sc,.slice A ids.length ac,.int .i64 len],0,mv,M,⟨none,0,0⟩,[]⟩:FrS).obs (riOb A ids::rowOb 214 1 lv 1 [vPtr pc]::ebOb (.slice SA ys.length sc) ys::x.obs l)) w')=>(⟨(h.cell 11 (g:=x.ps) (t:=131) (cs:=x.cells) rfl).cell 3,(h.cell 0 rfl).cell 0,(h.cell 4 rfl).cell 0,by
  rw [<- HFV.out];exact look_flV (h.get 13 (o:=flOb x.fm x.F) rfl).1⟩:w'.cell? ⟨x.ps,3,none⟩=some (.map (some x.fm))/\w'.cell? ⟨bc,0,none⟩=some (vPtr pc)/\w'.cell? ⟨pc,0,none⟩=some (.int .i64 1)/\(Instr.lookup 129 (.map (some x.fm)) (.int .i64 1) false).run Tryz.prog w'= .ok fv w'))
 iterate 9
  (refine wpHeld_take (v:=?_) (Or.inl ⟨by rfl,?_⟩) ?_
   rotate_left
   · (intro w' hSw;obtain ⟨h1,h2,h3,h4⟩:=HC.out w' hSw;go_simp;try with_reducible rfl)
   try simp only [Act.put,zF,List.set])
 refine wpHeld_nil ?_;simp only [dz_];clear HC;have c1:W2.cell? ⟨bc,0,none⟩=some (vPtr pc):=(S3.out.cell 0 rfl).cell 0;have c2:W2.cell? ⟨pc,1,none⟩=some (.bool true):=(S3.out.cell 4 rfl).cell 1;go_upto_region 6 with fail
 clear c1 c2;have S4:=hid S3.out.drew;have j0:W2.drew.cell? ⟨x.ps,0,none⟩=some (vPtr x.p):=(S4.out.cell 11 (g:=x.ps) (t:=131) (cs:=x.cells) rfl).cell 0;have j1:W2.drew.cell? ⟨bc,0,none⟩=some (vPtr pc):=(S4.out.cell 0 rfl).cell 0;have j2:W2.drew.cell? ⟨pc,0,none⟩=some (.int .i64 1):=(S4.out.cell 4 rfl).cell 0;have HJ:Hid (W2.drew.cell? ⟨x.ps,1,none⟩=some (.string x.nm)):=(S4.out.cell 11 (g:=x.ps) (t:=131) (cs:=x.cells) rfl).cell 1
 have hread:∀ W5,DV W5 x.p x.r x.s->Calls Tryz.prog 38 #[vPtr x.p,.string (fileN x.nm)] W5 (fun e w'=>∃ d,e= .returned (.tuple #[.slice d.A d.len d.cap,.int .i64 0])/\RB w' d D/\(∀ g,blk d=some g->W5.heap.size<=g)/\Below W5.heap.size W5 w'):=fun W5 hD5=>(Read_any x.p x.r x.s (fileN x.nm) W5 hD5 (file_ok hnm)).mono (by
  rintro e w1 ⟨d,rfl,hr,hd,hb⟩;rw [HE.out];rw [HD.out] at hr;exact ⟨d,rfl,hr,hd,hb⟩)
 have HRD:=hid hread;clear hread
 go_region_held (fun w'=>w'.cell? ⟨x.ps,0,none⟩=some (vPtr x.p)/\w'.cell? ⟨bc,0,none⟩=some (vPtr pc)/\w'.cell? ⟨pc,0,none⟩=some (.int .i64 1))
  (first | go_keep | exact K5.out | exact K6.out)
  (first
    | (go_at_call 101;(with_reducible refine (fileName_any x.ps x.nm _ HJ.out hnm).mono ?_);rintro e w5 ⟨rfl,q5,hw5⟩;have B5:=hid (after_draws hw5);have S5:=hid (S3.out.on B5.out);have D5:Hid (DV w5 x.p x.r x.s):=S5.out.get 10 (o:=devOb x.p x.r x.s) rfl;have K5:Hid (w5.cell? ⟨x.ps,0,none⟩=some (vPtr x.p)/\w5.cell? ⟨bc,0,none⟩=some (vPtr pc)/\w5.cell? ⟨pc,0,none⟩=some (.int .i64 1)):=⟨(S5.out.cell 11 (g:=x.ps) (t:=131) (cs:=x.cells) rfl).cell 0,(S5.out.cell 0 rfl).cell 0,(S5.out.cell 4 rfl).cell 0⟩;clear hw5)
    | (go_loud (go_at_call 38;(with_reducible refine (HRD.out w5 D5.out).mono ?_);rintro e w1 ⟨⟨dRA,dRn,dRc⟩,rfl,hr,hd,hb⟩;have S6:=hid (S5.out.newBytes hb hr hd);have K6:Hid (w1.cell? ⟨x.ps,0,none⟩=some (vPtr x.p)/\w1.cell? ⟨bc,0,none⟩=some (vPtr pc)/\w1.cell? ⟨pc,0,none⟩=some (.int .i64 1)):=⟨(S6.out.cell 12 (g:=x.ps) (t:=131) (cs:=x.cells) rfl).cell 0,(S6.out.cell 1 rfl).cell 0,(S6.out.cell 5 rfl).cell 0⟩;clear hr hd hb)))
 have S7:Hid (SW b w0 ((⟨bc,bb,b4,bm,pc, #[.int .i64 1,.bool true,.slice SA ys.length sc,.slice A ids.length ac,.int .i64 len],0,mv,M,⟨none,0,0⟩,[]⟩:FrS).obs (riOb A ids::rowOb 214 1 lv 1 [vPtr pc]::ebOb (.slice SA ys.length sc) ys::x.obs (bufOb ⟨dRA,dRn,dRc⟩ D::l))) w1):=SW.front (pre:=[_,_,_,_,_,_,_,_,_,_,_,_,_,_,_]) (t:=l) S6.out [1,2,3,4,5,6,7,8,9,10,11,12,13,14,0] (n:=15) rfl (by decide);clear S3 S4 S5 S6 D5 B5 K5 HRD HJ HE HD K6;try clear j0 j1 j2
 have c1:w1.cell? ⟨bc,0,none⟩=some (vPtr pc):=(S7.out.cell 0 rfl).cell 0;have c3:w1.cell? ⟨pc,2,none⟩=some (.slice SA ys.length sc):=(S7.out.cell 4 rfl).cell 2;have hrb0:RB w1 ⟨dRA,dRn,dRc⟩ D:=S7.out.get 14 (o:=bufOb ⟨dRA,dRn,dRc⟩ D) rfl;have hdn:D.length=dRn:=hrb0.1;have hdc:dRn<=dRc:=hrb0.2.1;subst hdn;clear hrb0;go_wp2_with fail
 go_loopw [55] (fun s55 wr=>∃ (k:Nat) (d:BD),k<=ys.length/\s55= .int .i64 (k:Int)/\SW b w0 ((⟨bc,bb,b4,bm,pc, #[.int .i64 1,.bool true,.slice SA ys.length sc,.slice A ids.length ac,.int .i64 len],0,mv,(rfold D M (ys.take k)).1,d,(rfold D M (ys.take k)).2⟩:FrS).obs (riOb A ids::rowOb 214 1 lv 1 [vPtr pc]::ebOb (.slice SA ys.length sc) ys::x.obs (bufOb ⟨dRA,D.length,dRc⟩ D::l))) wr) (fun s55 _=>ys.length-(intOf s55).toNat)
 case atStart=>exact ⟨0,⟨none,0,0⟩,Nat.zero_le _,rfl,S7.out⟩
 obtain ⟨k,d,hk,rfl,hs⟩:=hrel;have S8:=hid hs;clear hs S7 c1 c3;by_cases hlt:k<ys.length
 · have hne:ys≠[]:=by
    intro e;rw [e] at hlt;simp at hlt
   obtain ⟨g',c',e1,hgl',hcl'⟩:=(S8.out.get 9 (o:=ebOb (.slice SA ys.length sc) ys) rfl).2 hne;injection e1 with e1 _ e3;subst e1;subst e3;obtain ⟨y,hy⟩:∃ y,ys.getD k ent0=y:=⟨_,rfl⟩;obtain ⟨a0,a1,a2⟩:=hcl' k hlt;rw [hy] at a0 a1 a2
   have hmem:y∈ys:=by
    rw [<- hy,zB,zC hlt];exact List.getElem_mem hlt
   obtain ⟨hok,hy1,hy2,hy3⟩:=HYS.out y hmem
   have hts:ys.take (k+1)=ys.take k++[y]:=by
    rw [zD hlt, <- hy,zB,zC hlt];rfl
   have HTS:=hid hts;have HOK:=hid hok
   have HLEN:Hid ((rfold D M (ys.take k)).2.length<=1048576):=by
    rw [Hid,HRL.out _ (fun z hz=>zE hz)];have:=entSum_take_le ys k;omega
   have HCL:Hid ((cutB D y.1 y.2).length<=8192):=by
    rw [Hid,cutB_len (by omega) hy3];omega
   have HY1:=hid hy1;have HY3:=hid hy3;clear hcl' hgl' hy hmem hts hok hne hy1 hy2 hy3;obtain ⟨M1,HM1⟩:∃ M1,Hid ((rfold D M (ys.take k)).1=M1):=⟨_,rfl⟩;obtain ⟨bs1,HB1⟩:∃ bs1,Hid ((rfold D M (ys.take k)).2=bs1):=⟨_,rfl⟩;rw [HM1.out,HB1.out] at S8;rw [HB1.out] at HLEN;have S9:=hid ((S8.out.newCell 166 #[.int .u64 y.1.1,.int .i64 y.1.2,.int .i64 (y.2:Int)]).drew);clear S8;go_upto_region 12 with fail
   refine wp_region_held_tail [(0,true),(1,true),(2,true),(3,true),(4,true),(5,false)] (SW b w0 (cellOb wr.heap.size 166 #[.int .u64 y.1.1,.int .i64 y.1.2,.int .i64 (y.2:Int)]::(⟨bc,bb,b4,bm,pc, #[.int .i64 1,.bool true,.slice (some ⟨g',0,none⟩) ys.length sc,.slice A ids.length ac,.int .i64 len],0,mv,M1,d,bs1⟩:FrS).obs (riOb A ids::rowOb 214 1 lv 1 [vPtr pc]::ebOb (.slice (some ⟨g',0,none⟩) ys.length sc) ys::x.obs (bufOb ⟨dRA,D.length,dRc⟩ D::l)))) (by kernel_rfl) (fun _ _ d _ _ h=>by cases d<;>exact h) (by kernel_rfl) S9.out ?_;simp only [pk_];generalize (wr.alloc (.cells #[.int .u64 y.1.1,.int .i64 y.1.2,.int .i64 (y.2:Int)] 166)).drew=W5 at S9 |-; have HC:=hid (fun (w':World) (h:SW b w0 (cellOb wr.heap.size 166 #[.int .u64 y.1.1,.int .i64 y.1.2,.int .i64 (y.2:Int)]::(⟨bc,bb,b4,bm,pc, #[.int .i64 1,.bool true,.slice (some ⟨g',0,none⟩) ys.length sc,.slice A ids.length ac,.int .i64 len],0,mv,M1,d,bs1⟩:FrS).obs (riOb A ids::rowOb 214 1 lv 1 [vPtr pc]::ebOb (.slice (some ⟨g',0,none⟩) ys.length sc) ys::x.obs (bufOb ⟨dRA,D.length,dRc⟩ D::l))) w')=>(⟨(h.cell 0 rfl).cell 0,(h.cell 0 rfl).cell 1,(h.cell 0 rfl).cell 2⟩:w'.cell? ⟨wr.heap.size,0,none⟩=some (.int .u64 y.1.1)/\w'.cell? ⟨wr.heap.size,1,none⟩=some (.int .i64 y.1.2)/\w'.cell? ⟨wr.heap.size,2,none⟩=some (.int .i64 (y.2:Int))))
   iterate 5
    (refine wpHeld_take (v:=?_) (Or.inl ⟨by rfl,?_⟩) ?_
     rotate_left
     · (intro w' hSw;obtain ⟨h1,h2,h3⟩:=HC.out w' hSw;go_simp;try with_reducible rfl)
     try simp only [Act.put,zF,List.set])
   have HPA:=hid (part_any dRA dRc D y.1 y.2 W5 (S9.out.get 15 (o:=bufOb ⟨dRA,D.length,dRc⟩ D) rfl:RB W5 _ D).rs hDl hdc HY1.out HY3.out);refine wpHeld_run (fun K hK=>?_);go_simp;go_at_call 237
   (with_reducible refine HPA.out.mono ?_)
   rintro e w6 ⟨⟨dA,dn,dc⟩,rfl,hr6,hn6,hb6⟩;unfold vB;have hln:(cutB D y.1 y.2).length=dn:=hr6.1;subst hln;have S10:=hid (S9.out.newBytes hb6 hr6 hn6).bufRs;have S9b:=hid (S9.out.on hb6);go_wp2_with fail
   refine hK.out _ _ S9b.out ?_;clear hK K S9 S9b hr6 hn6 hb6 HPA;try simp only [Act.put,zF,List.set]
   refine wpHeld_nil ?_;simp only [dz_];clear HC
   have S11:Hid (SW b w0 ((⟨bc,bb,b4,bm,pc, #[.int .i64 1,.bool true,.slice (some ⟨g',0,none⟩) ys.length sc,.slice A ids.length ac,.int .i64 len],0,mv,M1,d,bs1⟩:FrS).obs (rsOb dA (cutB D y.1 y.2)::cellOb wr.heap.size 166 #[.int .u64 y.1.1,.int .i64 y.1.2,.int .i64 (y.2:Int)]::(riOb A ids::rowOb 214 1 lv 1 [vPtr pc]::ebOb (.slice (some ⟨g',0,none⟩) ys.length sc) ys::x.obs (bufOb ⟨dRA,D.length,dRc⟩ D::l)))) w6):=
    SW.front (pre:=[_,_,_,_,_,_,_,_,_]) (t:=(riOb A ids::rowOb 214 1 lv 1 [vPtr pc]::ebOb (.slice (some ⟨g',0,none⟩) ys.length sc) ys::x.obs (bufOb ⟨dRA,D.length,dRc⟩ D::l))) S10.out [2,3,4,5,6,7,8,0,1] (n:=9) rfl (by decide)
   have HFR:=hid (frame_any dA dc (cutB D y.1 y.2) y.1 S11.out.1 rfl HOK.out (by simp only [Nat.zero_add];exact Nat.le_trans HLEN.out (by omega)) HCL.out (okID_bounds HOK.out).1 (okID_bounds HOK.out).2);clear S10;go_wp2_with (go_at_call 236;(with_reducible refine HFR.out.mono ?_);rintro e w9 ⟨rfl,d9,hs9,hb9⟩)
   have S12:Hid (SW b w0 ((frOut (⟨bc,bb,b4,bm,pc, #[.int .i64 1,.bool true,.slice (some ⟨g',0,none⟩) ys.length sc,.slice A ids.length ac,.int .i64 len],0,mv,M1,d,bs1⟩:FrS) y.1 (cutB D y.1 y.2) d9).obs (riOb A ids::rowOb 214 1 lv 1 [vPtr pc]::ebOb (.slice (some ⟨g',0,none⟩) ys.length sc) ys::x.obs (bufOb ⟨dRA,D.length,dRc⟩ D::l))) w9):=
    (SW.front (pre:=[_,_,_,_,_,_,_,_,_]) (t:=(riOb A ids::rowOb 214 1 lv 1 [vPtr pc]::ebOb (.slice (some ⟨g',0,none⟩) ys.length sc) ys::x.obs (bufOb ⟨dRA,D.length,dRc⟩ D::l))) (⟨hs9,S11.out.2.trans hb9⟩:SW b w0 _ w9) [7,8,0,1,2,3,4,5,6] (n:=9) rfl (by decide)).tail.tail
   clear hs9 hb9 HFR S11;go_roundw
   case rel=>
    refine ⟨k+1,d9,by omega,by go_num,?_⟩;rw [HTS.out,rfold_snoc];unfold rstep;simp only;rw [HM1.out,HB1.out];exact S12.out
   simp [intOf];omega
 have hkn:k=ys.length:=by omega
 subst hkn;rw [List.take_length] at S8;clear hlt hk;have c1:wr.cell? ⟨bc,0,none⟩=some (vPtr pc):=(S8.out.cell 0 rfl).cell 0;have c3:wr.cell? ⟨pc,3,none⟩=some (.slice A ids.length ac):=(S8.out.cell 4 rfl).cell 3;rename World=>wa;go_wp2_with fail
 go_loopw [78] (fun s78 wr=>∃ (k:Nat) (d:BD),k<=ids.length/\s78= .int .i64 (k:Int)/\SW b w0 ((⟨bc,bb,b4,bm,pc, #[.int .i64 1,.bool true,.slice SA ys.length sc,.slice A ids.length ac,.int .i64 len],0,mv,(afold x.C (rfold D M ys) (ids.take k)).1,d,(afold x.C (rfold D M ys) (ids.take k)).2⟩:FrS).obs (riOb A ids::rowOb 214 1 lv 1 [vPtr pc]::ebOb (.slice SA ys.length sc) ys::x.obs (bufOb ⟨dRA,D.length,dRc⟩ D::l))) wr) (fun s78 _=>ids.length-(intOf s78).toNat)
 case atStart=>exact ⟨0,d,Nat.zero_le _,rfl,S8.out⟩
 obtain ⟨k,d,hk,rfl,hs⟩:=hrel;have S5:=hid hs;clear hs S8 c1 c3;by_cases hlt:k<ids.length
 · obtain ⟨i,hik⟩:∃ i,ids.getD k id0=i:=⟨_,rfl⟩;have hri:=S5.out.get 7 (o:=riOb A ids) rfl
   have hrow:∃ g,A=some ⟨g,0,none⟩/\RowI wr g ids:=by
    cases A with
    | none=>
     have h0:=hri.1 rfl;rw [h0] at hlt;simp at hlt
    | some ad=>
     obtain ⟨g,rfl,hr,_⟩:=hri.2 ad rfl;exact ⟨g,rfl,hr⟩
   obtain ⟨ag,rfl,hrow⟩:=hrow;obtain ⟨a0,a1,_,_⟩:=hrow.cells hlt hik
   have hm:i∈ids:=by
    rw [<- hik,zB,zC hlt];exact List.getElem_mem hlt
   have hts:ids.take (k+1)=ids.take k++[i]:=by
    rw [zD hlt, <- hik,zB,zC hlt];rfl
   have HTS:=hid hts;obtain ⟨⟨dA,dn,dc⟩,ch,hai,hi2,hch,hok⟩:=HIDS.out i hm;have HAI:=hid hai;have HOK:=hid hok
   have HPB:Hid (pendB x.C i=ch):=by
    rw [Hid];unfold pendB;rw [hai]
   have HLEN:Hid ((afold x.C (rfold D M ys) (ids.take k)).2.length<=1048576):=by
    rw [Hid,afold_len _ _ _ (fun j hj=>HPB0.out j (zE hj)),HRL.out _ (fun _ h=>h)];have:=frSum_take_le ids k;omega
   clear hik hts hm hai hok hi2 hri hrow;obtain ⟨M1,HM1⟩:∃ M1,Hid ((afold x.C (rfold D M ys) (ids.take k)).1=M1):=⟨_,rfl⟩;obtain ⟨bs1,HB1⟩:∃ bs1,Hid ((afold x.C (rfold D M ys) (ids.take k)).2=bs1):=⟨_,rfl⟩;rw [HM1.out,HB1.out] at S5;rw [HB1.out] at HLEN;have S6:=hid ((S5.out.newCell 31 #[.int .u64 i.1,.int .i64 i.2]).drew);go_upto_region 19 with fail
   refine wp_region_held_tail [(0,true),(1,true),(2,true),(3,true),(4,true),(5,true),(6,true),(7,true),(8,true)] (SW b w0 (cellOb wr.heap.size 31 #[.int .u64 i.1,.int .i64 i.2]::(⟨bc,bb,b4,bm,pc, #[.int .i64 1,.bool true,.slice SA ys.length sc,.slice (some ⟨ag,0,none⟩) ids.length ac,.int .i64 len],0,mv,M1,d,bs1⟩:FrS).obs (riOb (some ⟨ag,0,none⟩) ids::rowOb 214 1 lv 1 [vPtr pc]::ebOb (.slice SA ys.length sc) ys::x.obs (bufOb ⟨dRA,D.length,dRc⟩ D::l)))) (by kernel_rfl) (fun _ _ d _ _ h=>by cases d<;>exact h) (by kernel_rfl) S6.out ?_;simp only [pk_];generalize (wr.alloc (.cells #[.int .u64 i.1,.int .i64 i.2] 31)).drew=W5 at S6 |-; have hfd:=fun W=>field138 dA dn dc 0 0 W
   have HC:=hid (fun (w':World) (h:SW b w0 (cellOb wr.heap.size 31 #[.int .u64 i.1,.int .i64 i.2]::(⟨bc,bb,b4,bm,pc, #[.int .i64 1,.bool true,.slice SA ys.length sc,.slice (some ⟨ag,0,none⟩) ids.length ac,.int .i64 len],0,mv,M1,d,bs1⟩:FrS).obs (riOb (some ⟨ag,0,none⟩) ids::rowOb 214 1 lv 1 [vPtr pc]::ebOb (.slice SA ys.length sc) ys::x.obs (bufOb ⟨dRA,D.length,dRc⟩ D::l))) w')=>(⟨(h.cell 12 (g:=x.ps) (t:=131) (cs:=x.cells) rfl).cell 2,(h.cell 0 rfl).cell 0,(h.cell 0 rfl).cell 1,look_pend (h.get 13 (o:=chOb x.cm x.C) rfl).1 HOK.out HAI.out⟩:w'.cell? ⟨x.ps,2,none⟩=some (.map (some x.cm))/\w'.cell? ⟨wr.heap.size,0,none⟩=some (.int .u64 i.1)/\w'.cell? ⟨wr.heap.size,1,none⟩=some (.int .i64 i.2)/\(Instr.lookup 128 (.map (some x.cm)) (.agg #[.int .u64 i.1,.int .i64 i.2]) false).run Tryz.prog w'= .ok (.agg #[.slice dA dn dc,.int .i64 0,.int .i64 0]) w'))
   iterate 9
    (refine wpHeld_take (v:=?_) (Or.inl ⟨by rfl,?_⟩) ?_
     rotate_left
     · (intro w' hSw;obtain ⟨h1,h2,h3,h4⟩:=HC.out w' hSw;go_simp;try with_reducible rfl)
     try simp only [Act.put,zF,List.set])
   refine wpHeld_nil ?_;simp only [dz_];clear HC;have hmem:=mem_of_asc HAI.out;have hrb:RB W5 ⟨dA,dn,dc⟩ ch:=((S6.out.get 13 (o:=chOb x.cm x.C) rfl).2 i ⟨dA,dn,dc⟩ ch hmem).1;have hln:ch.length=dn:=hrb.1;subst hln;have S7:=(SW.front (pre:=[_,_,_,_,_,_,_,_,_,_,_,_,_,_]) (t:=flOb x.fm x.F::bufOb ⟨dRA,D.length,dRc⟩ D::l) S6.out [13,0,1,2,3,4,5,6,7,8,9,10,11,12] (n:=14) rfl (by decide))
   have S8:Hid (SW b w0 ((⟨bc,bb,b4,bm,pc, #[.int .i64 1,.bool true,.slice SA ys.length sc,.slice (some ⟨ag,0,none⟩) ids.length ac,.int .i64 len],0,mv,M1,d,bs1⟩:FrS).obs (rsOb dA ch::cellOb wr.heap.size 31 #[.int .u64 i.1,.int .i64 i.2]::chOb x.cm x.C::riOb (some ⟨ag,0,none⟩) ids::rowOb 214 1 lv 1 [vPtr pc]::ebOb (.slice SA ys.length sc) ys::devOb x.p x.r x.s::cellOb x.ps 131 x.cells::flOb x.fm x.F::bufOb ⟨dRA,D.length,dRc⟩ D::l)) W5):=
    SW.front (pre:=[_,_,_,_,_,_,_,_,_,_,_,_,_,_,_]) (t:=flOb x.fm x.F::bufOb ⟨dRA,D.length,dRc⟩ D::l) (SW.viewCh S7 hmem) [3,4,5,6,7,8,9,0,2,1,10,11,12,13,14] (n:=15) rfl (by decide)
   have HFR:=hid (frame_any dA dc ch i S8.out.1 rfl HOK.out (by simp only [Nat.zero_add];exact Nat.le_trans HLEN.out (by omega)) hch (okID_bounds HOK.out).1 (okID_bounds HOK.out).2);clear S7 hrb hmem;go_wp2_with (go_at_call 236;(with_reducible refine HFR.out.mono ?_);rintro e w9 ⟨rfl,d9,hs9,hb9⟩)
   have S9:Hid (SW b w0 ((frOut (⟨bc,bb,b4,bm,pc, #[.int .i64 1,.bool true,.slice SA ys.length sc,.slice (some ⟨ag,0,none⟩) ids.length ac,.int .i64 len],0,mv,M1,d,bs1⟩:FrS) i ch d9).obs (riOb (some ⟨ag,0,none⟩) ids::rowOb 214 1 lv 1 [vPtr pc]::ebOb (.slice SA ys.length sc) ys::x.obs (bufOb ⟨dRA,D.length,dRc⟩ D::l))) w9):=
    (SW.front (pre:=[_,_,_,_,_,_,_,_,_,_,_,_,_,_,_]) (t:=flOb x.fm x.F::bufOb ⟨dRA,D.length,dRc⟩ D::l) (⟨hs9,S8.out.2.trans hb9⟩:SW b w0 _ w9) [7,8,0,1,2,3,4,5,6,10,11,12,13,14,9] (n:=15) rfl (by decide)).tail.tail
   clear hs9 hb9 HFR S8 S6 S5;go_roundw
   case rel=>
    refine ⟨k+1,d9,by omega,by go_num,?_⟩;rw [HTS.out,afold_snoc];unfold wstep;simp only;rw [HM1.out,HB1.out,HPB.out];exact S9.out
   simp [intOf];omega
 have hkn:k=ids.length:=by omega
 subst hkn;rw [List.take_length] at S5;clear hlt hk HIDS HYS HRL HPB0;obtain ⟨M1,HM1⟩:∃ M1,Hid ((afold x.C (rfold D M ys) ids).1=M1):=⟨_,rfl⟩;obtain ⟨bs1,HB1⟩:∃ bs1,Hid ((afold x.C (rfold D M ys) ids).2=bs1):=⟨_,rfl⟩;rw [HM1.out,HB1.out] at S5;rw [HB1.out] at HBL;have hbl:=HBL.out;obtain ⟨dA,dn,dc⟩:=d;have hdn:bs1.length=dn:=(S5.out.get 6 (o:=bufOb ⟨dA,dn,dc⟩ bs1) rfl).1;subst hdn;have cps:wr.cell? ⟨x.ps,1,none⟩=some (.string x.nm):=(S5.out.cell 11 (g:=x.ps) (t:=131) (cs:=x.cells) rfl).cell 1;have cbc:wr.cell? ⟨bc,0,none⟩=some (vPtr pc):=(S5.out.cell 0 rfl).cell 0;have cpc:wr.cell? ⟨pc,0,none⟩=some (.int .i64 1):=(S5.out.cell 4 rfl).cell 0;have HFN:=hid (fileName_any x.ps x.nm wr cps hnm);go_upto_region 22 with (go_at_call 101;(with_reducible refine HFN.out.mono ?_);rintro e w5 ⟨rfl,qq,rfl⟩)
 have S9:Hid (SW b w0 ((⟨bc,bb,b4,bm,pc, #[.int .i64 1,.bool true,.slice SA ys.length sc,.slice A ids.length ac,.int .i64 len],0,mv,M1,⟨dA,bs1.length,dc⟩,bs1⟩:FrS).obs (riOb A ids::rowOb 214 1 lv 1 [vPtr pc]::ebOb (.slice SA ys.length sc) ys::x.obs (bufOb ⟨dRA,D.length,dRc⟩ D::l))) (wr.drewN qq)):=S5.out.on ⟨rfl,rfl,rfl,Nat.le_refl _,fun _ _=>rfl⟩;generalize wr.drewN qq=w5 at S9 |-; clear cps cbc cpc HFN S5;have cbc:w5.cell? ⟨bc,0,none⟩=some (vPtr pc):=(S9.out.cell 0 rfl).cell 0;have cpc:w5.cell? ⟨pc,1,none⟩=some (.bool true):=(S9.out.cell 4 rfl).cell 1;have S10:=hid S9.out.drew;go_upto_region 23 with fail
 refine wp_region_held_tail [(0,true),(1,true),(2,true),(3,true),(4,true),(6,true),(5,false)] (SW b w0 ((⟨bc,bb,b4,bm,pc, #[.int .i64 1,.bool true,.slice SA ys.length sc,.slice A ids.length ac,.int .i64 len],0,mv,M1,⟨dA,bs1.length,dc⟩,bs1⟩:FrS).obs (riOb A ids::rowOb 214 1 lv 1 [vPtr pc]::ebOb (.slice SA ys.length sc) ys::x.obs (bufOb ⟨dRA,D.length,dRc⟩ D::l)))) (by kernel_rfl) (fun _ _ d _ _ h=>by cases d<;>exact h) (by kernel_rfl) S10.out ?_;simp only [pk_];generalize w5.drew=W6 at S10 |-; have HC:=hid (fun (w':World) (h:SW b w0 ((⟨bc,bb,b4,bm,pc, #[.int .i64 1,.bool true,.slice SA ys.length sc,.slice A ids.length ac,.int .i64 len],0,mv,M1,⟨dA,bs1.length,dc⟩,bs1⟩:FrS).obs (riOb A ids::rowOb 214 1 lv 1 [vPtr pc]::ebOb (.slice SA ys.length sc) ys::x.obs (bufOb ⟨dRA,D.length,dRc⟩ D::l))) w')=>(⟨(h.cell 11 (g:=x.ps) (t:=131) (cs:=x.cells) rfl).cell 0,(h.cell 2 rfl).cell 0⟩:w'.cell? ⟨x.ps,0,none⟩=some (vPtr x.p)/\w'.cell? ⟨b4,0,none⟩=some (.slice dA bs1.length dc)))
 iterate 6
  (refine wpHeld_take (v:=?_) (Or.inl ⟨by rfl,?_⟩) ?_
   rotate_left
   · (intro w' hSw;obtain ⟨h1,h2⟩:=HC.out w' hSw;go_simp;try with_reducible rfl)
   try simp only [Act.put,zF,List.set])
 refine wpHeld_run (fun K hK=>?_);go_simp;go_at_call 179
 refine (fresh_any x.ps x.nm W6 ((S10.out.cell 11 (g:=x.ps) (t:=131) (cs:=x.cells) rfl).cell 1) hnm).mono ?_;rintro e w7 ⟨rfl,rfl⟩;go_wp2_with fail
 refine hK.out _ _ S10.out ?_;clear hK K;try simp only [Act.put,zF,List.set]
 refine wpHeld_nil ?_;simp only [dz_];clear HC;have HRQ:=hid (req_S (l:=((⟨bc,bb,b4,bm,pc, #[.int .i64 1,.bool true,.slice SA ys.length sc,.slice A ids.length ac,.int .i64 len],0,mv,M1,⟨dA,bs1.length,dc⟩,bs1⟩:FrS).obs (riOb A ids::rowOb 214 1 lv 1 [vPtr pc]::ebOb (.slice SA ys.length sc) ys::x.obs (bufOb ⟨dRA,D.length,dRc⟩ D::l)))) (k:=10) (Create_any x.p x.r x.s (freshN x.nm) dA dc bs1 W6 (S10.out.get 10 (o:=devOb x.p x.r x.s) rfl) (fresh_ok hnm) (RB.src (S10.out.get 6 (o:=bufOb ⟨dA,bs1.length,dc⟩ bs1) rfl)) (by omega) (by omega)) S10.out.1 rfl);clear cbc cpc;go_upto_if 113 with (go_at_call 238;(with_reducible refine HRQ.out.mono ?_);rintro e w9 ⟨cn,hcn,rfl,r9,hs9,hb9⟩;have HCN:=hid hcn;have S11:=hid (⟨hs9,S10.out.2.trans hb9⟩:SW b w0 _ w9);clear hcn hs9 hb9)
 obtain ⟨E,HEq⟩:∃ E,Hid (reqE x.s cn (crOp x.nm bs1)=E):=⟨_,rfl⟩;obtain ⟨s1,HS1⟩:∃ s1,Hid (reqS x.s cn (crOp x.nm bs1)=s1):=⟨_,rfl⟩;have e1:reqE x.s cn ⟨.create,freshN x.nm,ByteArray.empty,bs1,true⟩=E:=HEq.out;have e2:reqS x.s cn ⟨.create,freshN x.nm,ByteArray.empty,bs1,true⟩=s1:=HS1.out;rw [e2] at S11;rw [e1];clear e1 e2 HRQ;have S12:Hid (SW b w0 ((⟨bc,bb,b4,bm,pc, #[.int .i64 1,.bool true,.slice SA ys.length sc,.slice A ids.length ac,.int .i64 len],0,mv,M1,⟨dA,bs1.length,dc⟩,bs1⟩:FrS).obs (riOb A ids::rowOb 214 1 lv 1 [vPtr pc]::ebOb (.slice SA ys.length sc) ys::({ x with r:=r9,s:=s1 }:SR).obs (bufOb ⟨dRA,D.length,dRc⟩ D::l))) w9):=S11.out;clear S11 S9 S10;by_cases h0:E=0
 · have h0':(E !=0)=false:=by simpa using h0
   have H0:=hid h0;clear h0;have S13:=hid S12.out.drew;go_upto_region 26 with fail
   refine wp_region_held_tail [(0,true),(1,true),(2,true),(3,true),(4,true),(6,true),(5,false)] (SW b w0 ((⟨bc,bb,b4,bm,pc, #[.int .i64 1,.bool true,.slice SA ys.length sc,.slice A ids.length ac,.int .i64 len],0,mv,M1,⟨dA,bs1.length,dc⟩,bs1⟩:FrS).obs (riOb A ids::rowOb 214 1 lv 1 [vPtr pc]::ebOb (.slice SA ys.length sc) ys::({ x with r:=r9,s:=s1 }:SR).obs (bufOb ⟨dRA,D.length,dRc⟩ D::l)))) (by kernel_rfl) (fun _ _ d _ _ h=>by cases d<;>exact h) (by kernel_rfl) S13.out ?_;simp only [pk_];generalize w9.drew=W9 at S13 |-; have HC:=hid (fun (w':World) (h:SW b w0 ((⟨bc,bb,b4,bm,pc, #[.int .i64 1,.bool true,.slice SA ys.length sc,.slice A ids.length ac,.int .i64 len],0,mv,M1,⟨dA,bs1.length,dc⟩,bs1⟩:FrS).obs (riOb A ids::rowOb 214 1 lv 1 [vPtr pc]::ebOb (.slice SA ys.length sc) ys::({ x with r:=r9,s:=s1 }:SR).obs (bufOb ⟨dRA,D.length,dRc⟩ D::l))) w')=>((h.cell 11 (g:=x.ps) (t:=131) (cs:=x.cells) rfl).cell 0:w'.cell? ⟨x.ps,0,none⟩=some (vPtr x.p)))
   iterate 6
    (refine wpHeld_take (v:=?_) (Or.inl ⟨by rfl,?_⟩) ?_
     rotate_left
     · (intro w' hSw;have h1:=HC.out w' hSw;go_simp;try with_reducible rfl)
     try simp only [Act.put,zF,List.set])
   refine wpHeld_run (fun K hK=>?_);go_simp;go_at_call 179
   refine (fresh_any x.ps x.nm W9 ((S13.out.cell 11 (g:=x.ps) (t:=131) (cs:=x.cells) rfl).cell 1) hnm).mono ?_;rintro e w7 ⟨rfl,rfl⟩;go_wp2_with fail
   refine hK.out _ _ S13.out ?_;clear hK K;try simp only [Act.put,zF,List.set]
   refine wpHeld_nil ?_;simp only [dz_];clear HC
   have hops:s1.ops.length<=1000000:=by
    rw [<- HS1.out];have:=reqS_ops x.s cn (crOp x.nm bs1);omega
   have HRQ:=hid (req_S (l:=((⟨bc,bb,b4,bm,pc, #[.int .i64 1,.bool true,.slice SA ys.length sc,.slice A ids.length ac,.int .i64 len],0,mv,M1,⟨dA,bs1.length,dc⟩,bs1⟩:FrS).obs (riOb A ids::rowOb 214 1 lv 1 [vPtr pc]::ebOb (.slice SA ys.length sc) ys::({ x with r:=r9,s:=s1 }:SR).obs (bufOb ⟨dRA,D.length,dRc⟩ D::l)))) (k:=10) (Rename_any x.p r9 s1 (freshN x.nm) (fileN x.nm) W9 (S13.out.get 10 (o:=devOb x.p r9 s1) rfl) (fresh_ok hnm) (file_ok hnm) hops) S13.out.1 rfl);go_wp2_with (go_at_call 239;(with_reducible refine HRQ.out.mono ?_);rintro e w8 ⟨cm,hcm,rfl,r8,hs8,hb8⟩;have HCM:=hid hcm;have S14:=hid (⟨hs8,S13.out.2.trans hb8⟩:SW b w0 _ w8);clear hcm hs8 hb8)
   go_ret;unfold RWPost;simp only;rw [HB1.out,HM1.out];refine ⟨cn,cm,r8,HCN.out,by rw [HS1.out];exact HCM.out,?_,?_⟩
   · unfold rqE;rw [HEq.out,HS1.out,if_pos H0.out];rfl
   have e3:rqS x.s x.nm cn cm bs1=reqS s1 cm (rnOp x.nm):=by
    unfold rqS;rw [HEq.out,HS1.out,if_pos H0.out]
   rw [e3];exact (SW.front (pre:=[_,_,_,_,_,_,_,_,_,_,_,_,_,_,_]) (t:=l) S14.out [6,0,1,2,3,14,4,5,7,8,9,10,11,12,13] (n:=15) rfl (by decide)).tail.tail.tail.tail.tail.tail
 have h0':(E !=0)=true:=by simpa using h0
 have H0:=hid h0;clear h0;have HCM:Hid (Cnt s1.now r9.EN.length):=(S12.out.get 10 (o:=devOb x.p r9 s1) rfl:DV w9 x.p r9 s1).dev.cnt;go_wp2_with fail
 go_ret;unfold RWPost;simp only;rw [HB1.out,HM1.out];refine ⟨cn,r9.EN.length,r9,HCN.out,by rw [HS1.out];exact HCM.out,?_,?_⟩
 · unfold rqE;rw [HEq.out,if_neg H0.out];rfl
 have e3:rqS x.s x.nm cn r9.EN.length bs1=s1:=by
  unfold rqS;rw [HEq.out,HS1.out,if_neg H0.out]
 rw [e3];exact (SW.front (pre:=[_,_,_,_,_,_,_,_,_,_,_,_,_,_,_]) (t:=l) S12.out [6,0,1,2,3,14,4,5,7,8,9,10,11,12,13] (n:=15) rfl (by decide)).tail.tail.tail.tail.tail.tail
theorem writeR_any {b:Nat} {w0 w:World} {q:RWS} {x:SR} {l:List Ob} (h:SW b w0 (q.obs x l) w) (lg cap:Nat) (hlv:q.lv= .slice (some ⟨lg,0,none⟩) 1 cap) (hlen:q.len≠0) (D:List UInt8) (hrd:readE x.s (fileN x.nm)=0) (hD:readB x.s (fileN x.nm)=D) (hnm:x.nm.size<=1000)
 (hys:∀ y∈q.ys,okID y.1/\1<=y.1.2/\y.1.2<=8192/\(y.2:Int)+28+y.1.2<=D.length)
 (hids:∀ i∈q.ids,∃ d bs,asc x.C i=some (.pend d bs)/\i.2=(bs.length:Int)/\bs.length<=8192/\okID i) (hsum:entSum q.ys+frSum q.ids<=1048576) (hL:x.s.ops.length<=999990):
 Calls Tryz.prog 136 #[vPtr x.ps,.slice (some ⟨lg,0,none⟩) 1 cap,.map (some q.mv)] w (RWPost b w0 q D x l):=by
 have HWF:=hid (writeFileR_any h D hrd hD hnm hys hids hsum hL);have hq:(q.len==0)=false:=by simpa using hlen
 have h2:SW b w0 (cellOb q.pc 216 q.cs::chOb q.mv q.M::riOb q.A q.ids::rowOb 214 1 (.slice (some ⟨lg,0,none⟩) 1 cap) 1 [vPtr q.pc]::ebOb (.slice q.SA q.ys.length q.sc) q.ys::x.obs l) w:=by
  rw [<- hlv];exact h
 have cl:w.cell? ⟨lg,0,none⟩=some (vPtr q.pc):=lv_cell (k:=3) h2 rfl;have c4:w.cell? ⟨q.pc,4,none⟩=some (.int .i64 q.len):=(h2.cell 0 rfl).cell 4;clear h h2 hids hlv hlen hys hrd hD;go_enter Tryz.func136,Tryz.ntmps136;go_wp2_with fail
 refine wp_loop_rounds 2 ?_;rw [rounds_succ];go_wp2_with fail
 rw [rounds_succ];go_wp2_with fail
 refine wp_loop_rounds 2 ?_;rw [rounds_succ];go_wp2_with (go_at_call 181;(with_reducible refine HWF.out.mono ?_);refine halt_ ?_)
 rintro e w1 ⟨n1,n2,r',hc1,hc2,rfl,hs⟩;obtain ⟨E,HE⟩:∃ E,Hid (rqE x.s x.nm n1 n2 (afold x.C (rfold D q.M q.ys) q.ids).2=E):=⟨_,rfl⟩;rw [HE.out];have HC1:=hid hc1;have HC2:=hid hc2;have HS:=hid hs;clear hc1 hc2 hs HWF;by_cases h0:E=0
 · have h0':(E !=0)=false:=by simpa using h0
   have H0:=hid h0;clear h0;go_wp2_with fail
   rw [rounds_succ];go_wp2_with fail
   go_ret;exact ⟨n1,n2,r',HC1.out,HC2.out,by rw [HE.out,H0.out];rfl,HS.out⟩
 have h0':(E !=0)=true:=by simpa using h0
 have H0:=hid h0;clear h0;go_wp2_with fail
 go_ret;exact ⟨n1,n2,r',HC1.out,HC2.out,by rw [HE.out];rfl,HS.out⟩
end
end Go.Proofs.YteabgcollokgjaaGreatDoor
