/- Q -/
import Derived.Test.YteabgcollokgjaaGreatDoorQP16
set_option linter.unusedSimpArgs false
set_option linter.unusedVariables false
set_option maxRecDepth 100000
set_option maxHeartbeats 32000000
open Go.Lib (hid)
open List renaming getD_eq_getElem?_getD → zA,length_append → zB,getElem?_eq_getElem → zC,setIfInBounds_toArray → zD
open Nat renaming le_refl → zE,zero_add → zF
namespace Go.Proofs.YteabgcollokgjaaGreatDoor
section
open Go.RowKit Go.MapKept Go.ChangeMaps Go.Shelf Go.Sort
def pendB (C:Chs) (i:ID):List UInt8:=match asc C i with | some (.pend _ bs)=>bs | _=>[]
def wstep (base:Nat) (C:Chs) (p:Chs×List UInt8) (i:ID):Chs×List UInt8:=(setL p.1 i (.at (base+p.2.length)),p.2++headB i 1 (base+p.2.length)++pendB C i)
def wfold (base:Nat) (C:Chs) (M:Chs) (ids:List ID):Chs×List UInt8:=ids.foldl (wstep base C) (M,[])
theorem wfold_snoc (base:Nat) (C:Chs) (M:Chs) (ids:List ID) (i:ID):wfold base C M (ids++[i])=wstep base C (wfold base C M ids) i:=by
 unfold wfold;rw [List.foldl_append];rfl
theorem wfold_len (base:Nat) (C:Chs) (M:Chs) (ids:List ID) (h:∀ i∈ids,(pendB C i).length=i.2.toNat):(wfold base C M ids).2.length=frSum ids:=by
 have:∀ (ids:List ID) (p:Chs×List UInt8),(∀ i∈ids,(pendB C i).length=i.2.toNat)->(ids.foldl (wstep base C) p).2.length=p.2.length+frSum ids:=by
  intro ids;induction ids with
  | nil=>intro p _;simp [frSum]
  | cons i ids ih=>
   intro p hp;rw [List.foldl_cons,ih _ (fun j hj=>hp j (by simp [hj]))];unfold wstep;simp only [zB,headB_len,hp i (by simp)];simp [frSum];omega
 have h2:=this ids (M,[]) h;simpa [wfold] using h2
theorem len_le_frSum (ids:List ID):ids.length<=frSum ids:=by
 induction ids with
 | nil=>simp
 | cons i ids ih=>
  have:frSum (i::ids)=28+i.2.toNat+frSum ids:=by simp [frSum]
  rw [this,List.length_cons];omega
def wfOp (F:Option FR) (nm:ByteArray) (bs:List UInt8):POp:=match F with
 | none=>⟨.create,fileN nm,ByteArray.empty,bs,true⟩
 | some _=>⟨.add,fileN nm,ByteArray.empty,bs,true⟩
structure WFS where
 pc:Nat
 SA:Option Addr
 sn:Nat
 sc:Nat
 av:Value
 len:Int
 ids:List ID
 lv:Value
 mv:Nat
 M:Chs
 ys:List Ent
abbrev WFS.cs (q:WFS):Array Value:= #[.int .i64 1,.bool false,.slice q.SA q.sn q.sc,q.av,.int .i64 q.len]
abbrev WFS.rest (q:WFS) (x:SR) (l:List Ob):List Ob:=rowOb 31 2 q.av q.ids.length (q.ids.flatMap encID)::rowOb 214 1 q.lv 1 [vPtr q.pc]::ebOb (.slice q.SA q.sn q.sc) q.ys::x.obs l
abbrev WFS.obs (q:WFS) (x:SR) (l:List Ob):List Ob:=cellOb q.pc 216 q.cs::chOb q.mv q.M::q.rest x l
def WFPost (b:Nat) (w0:World) (q:WFS) (x:SR) (l:List Ob) (e:Ending) (w':World):Prop:=
 ∃ n r',Cnt x.s.now n/\e= .returned (.int .i64 (reqE x.s n (wfOp x.F x.nm (wfold (flen x.F) x.C q.M q.ids).2)))/\
  SW b w0 (({ q with M:=(wfold (flen x.F) x.C q.M q.ids).1 }:WFS).obs { x with r:=r',s:=reqS x.s n (wfOp x.F x.nm (wfold (flen x.F) x.C q.M q.ids).2) } l) w'
theorem SW.newBuf {b:Nat} {w0 w:World} {l:List Ob} (h:SW b w0 l w):SW b w0 (bufOb ⟨none,0,0⟩ []::l) w:=by
 refine ⟨⟨h.1.base,fun y hy=>?_,fun y hy i hi=>?_,fun y hy i hi=>?_,List.pairwise_cons.2 ⟨fun y hy=>⟨fun i hi=>?_,fun i hi hi'=>?_⟩,h.1.apart⟩⟩,h.2⟩
 · rcases List.mem_cons.1 hy with rfl | hy
   · exact rb_nil w
   exact h.1.holds y hy
 · rcases List.mem_cons.1 hy with rfl | hy
   · cases hi
   exact h.1.own y hy i hi
 · rcases List.mem_cons.1 hy with rfl | hy
   · cases hi
   exact h.1.rd y hy i hi
 · cases hi
 cases hi'
theorem SW.viewCh {b:Nat} {w0 w:World} {cm:Nat} {C:Chs} {t:List Ob} (h:SW b w0 (chOb cm C::t) w) {i:ID} {d:BD} {bs:List UInt8} (hm:(i,Pl.pend d bs)∈C):SW b w0 (rsOb d.A bs::chOb cm C::t) w:=by
 have hh:=h.get 0 (o:=chOb cm C) rfl;refine ⟨h.1.view (o':=rsOb d.A bs) (hh.2 i d bs hm).1.rs (fun _ h=>h) (fun j hj=>?_) (fun j hj hr=>?_),h.2⟩
 · obtain ⟨_,o,e⟩:=hj;refine ⟨i,d,bs,hm,?_⟩;unfold blk;rw [e];rfl
 have e:j=cm:=hj;subst e;obtain ⟨id,d',bs',hm',hb⟩:=hr;exact RB.ne_mapM hh.1 (hh.2 id d' bs' hm').1 hb
def flV:Option FR->Value | none=> .pointer none | some f=>vPtr f.fb
theorem look_flV {w:World} {fm:Nat} {F:Option FR} (h:MapIs okN vN vPtr w fm (fL F)):(Instr.lookup 129 (.map (some fm)) (.int .i64 1) false).run Tryz.prog w= .ok (flV F) w:=by
 cases F with
 | none=>exact look_f0 h rfl
 | some f=>exact look_f1 h rfl
theorem flV_neq (F:Option FR) (W:World):(binOp .neq 146 (flV F) (.pointer none)).run Tryz.prog W= .ok (.bool F.isSome) W:=by
 cases F with
 | none=>kernel_rfl
 | some f=>kernel_rfl
theorem flV_grd (F:Option FR) (a c:Operand) (W:World):(eqGuard BinOp.neq 146 a c (flV F) (.pointer none)).run Tryz.prog W= .ok () W:=by
 cases F with
 | none=>kernel_rfl
 | some f=>kernel_rfl
theorem field138 (A:Option Addr) (n c:Nat) (x y:Int) (W:World):(Instr.field 138 (.agg #[.slice A n c,.int .i64 x,.int .i64 y]) 0).run Tryz.prog W= .ok (.slice A n c) W:=by kernel_rfl
theorem look_pend {w:World} {cm:Nat} {C:Chs} (h:MapIs okID vID vPl w cm C) {i:ID} (hi:okID i) {d:BD} {bs:List UInt8} (ha:asc C i=some (.pend d bs)):(Instr.lookup 128 (.map (some cm)) (.agg #[.int .u64 i.1,.int .i64 i.2]) false).run Tryz.prog w= .ok (.agg #[.slice d.A d.len d.cap,.int .i64 0,.int .i64 0]) w:=by
 have:=MapIs.look mkI Tryz.underlying128 (zero138 w) h hi false;rw [ha] at this;exact this
theorem writeFile_any {b:Nat} {w0 w:World} {q:WFS} {x:SR} {l:List Ob} (h:SW b w0 (q.obs x l) w) (hcl:∀ f,x.F=some f->f.clean=true) (hnm:x.nm.size<=1000)
 (hids:∀ i∈q.ids,∃ d bs,asc x.C i=some (.pend d bs)/\i.2=(bs.length:Int)/\bs.length<=8192/\okID i/\0<=i.1/\i.1<18446744073709551616) (hn:0<q.ids.length) (hsum:flen x.F+frSum q.ids<=1048576) (hL:x.s.ops.length<=1000000):
 Calls Tryz.prog 181 #[vPtr x.ps,vPtr q.pc,.map (some q.mv)] w (WFPost b w0 q x l):=by
 obtain ⟨pc,SA,sn,sc,av,len,ids,lv,mv,M,ys⟩:=q;simp only at hids hn hsum;obtain ⟨ag,ac,rfl⟩:=own_some (h.get 2 (o:=rowOb 31 2 av ids.length (ids.flatMap encID)) rfl) (by omega);have hidl:ids.length<=1048576:=Nat.le_trans (len_le_frSum ids) (by omega)
 have HBL:Hid ((wfold (flen x.F) x.C M ids).2.length<=1048576):=by
  rw [Hid,wfold_len _ _ _ _ (fun j hj=>by
   obtain ⟨d',bs',h1,h2,_⟩:=hids j hj;unfold pendB;rw [h1,h2];simp)]
  omega
 have HCL:=hid hcl;have HIDS:=hid hids;obtain ⟨fv,HFV⟩:∃ fv,Hid (flV x.F=fv):=⟨_,rfl⟩;have qn:∀ W,(binOp .neq 146 fv (.pointer none)).run Tryz.prog W= .ok (.bool x.F.isSome) W:=fun W=>by rw [<- HFV.out];exact flV_neq x.F W
 have qg:∀ W,(eqGuard BinOp.neq 146 (.tmp 67) (.const (.pointer none)) fv (.pointer none)).run Tryz.prog W= .ok () W:=fun W=>by rw [<- HFV.out];exact flV_grd x.F _ _ W
 have qg2:∀ W,(eqGuard BinOp.neq 146 (.tmp 124) (.const (.pointer none)) fv (.pointer none)).run Tryz.prog W= .ok () W:=fun W=>by rw [<- HFV.out];exact flV_grd x.F _ _ W
 have S1:Hid (SW b w0 (cellOb (w.heap.size+1+1+1) 3 #[.int .i64 0]::cellOb (w.heap.size+1+1) 34 #[.slice none 0 0]::cellOb (w.heap.size+1) 128 #[.map (some mv)]::cellOb w.heap.size 214 #[vPtr pc]::cellOb pc 216 #[.int .i64 1,.bool false,.slice SA sn sc,.slice (some ⟨ag,0,none⟩) ids.length ac,.int .i64 len]::chOb mv M::(rowOb 31 2 (.slice (some ⟨ag,0,none⟩) ids.length ac) ids.length (ids.flatMap encID)::rowOb 214 1 lv 1 [vPtr pc]::ebOb (.slice SA sn sc) ys::x.obs l)) ((((w.alloc (.cells #[vPtr pc] 214)).alloc (.cells #[.map (some mv)] 128)).alloc (.cells #[.slice none 0 0] 34)).alloc (.cells #[.int .i64 0] 3))):=
  (((h.newCell 214 #[vPtr pc]).newCellAt 128 #[.map (some mv)] (by simp)).newCellAt 34 #[.slice none 0 0] (by simp)).newCellAt 3 #[.int .i64 0] (by simp)
 clear h hcl hids;go_enter Tryz.func181,Tryz.ntmps181;go_upto_region 4 with fail
 generalize (((w.alloc (.cells #[vPtr pc] 214)).alloc (.cells #[.map (some mv)] 128)).alloc (.cells #[.slice none 0 0] 34)).alloc (.cells #[.int .i64 0] 3)=W at S1 |-; generalize w.heap.size+1+1+1=bb at S1 |-; generalize w.heap.size+1+1=b4 at S1 |-; generalize w.heap.size+1=bm at S1 |-; generalize w.heap.size=bc at S1 |-; have S2:Hid (SW b w0 ((⟨bc,bb,b4,bm,pc, #[.int .i64 1,.bool false,.slice SA sn sc,.slice (some ⟨ag,0,none⟩) ids.length ac,.int .i64 len],0,mv,M,⟨none,0,0⟩,[]⟩:FrS).obs (rowOb 31 2 (.slice (some ⟨ag,0,none⟩) ids.length ac) ids.length (ids.flatMap encID)::rowOb 214 1 lv 1 [vPtr pc]::ebOb (.slice SA sn sc) ys::x.obs l)) W):=SW.front (pre:=[_,_,_,_,_,_,_]) (t:=(rowOb 31 2 (.slice (some ⟨ag,0,none⟩) ids.length ac) ids.length (ids.flatMap encID)::rowOb 214 1 lv 1 [vPtr pc]::ebOb (.slice SA sn sc) ys::x.obs l)) S1.out.newBuf [4,1,2,3,5,6,0] (n:=7) rfl (by decide);have S3:=hid S2.out.drew;clear S1 S2
 refine wp_region_held_tail [(0,true),(1,true),(2,true),(3,true),(4,true),(5,true),(6,true),(7,true),(8,true)] (SW b w0 ((⟨bc,bb,b4,bm,pc, #[.int .i64 1,.bool false,.slice SA sn sc,.slice (some ⟨ag,0,none⟩) ids.length ac,.int .i64 len],0,mv,M,⟨none,0,0⟩,[]⟩:FrS).obs (rowOb 31 2 (.slice (some ⟨ag,0,none⟩) ids.length ac) ids.length (ids.flatMap encID)::rowOb 214 1 lv 1 [vPtr pc]::ebOb (.slice SA sn sc) ys::x.obs l))) (by kernel_rfl) (fun _ _ d _ _ h=>by cases d<;>exact h) (by kernel_rfl) S3.out ?_;simp only [pk_];generalize W.drew=W2 at S3 |-
 have HC:=hid (fun (w':World) (h:SW b w0 ((⟨bc,bb,b4,bm,pc, #[.int .i64 1,.bool false,.slice SA sn sc,.slice (some ⟨ag,0,none⟩) ids.length ac,.int .i64 len],0,mv,M,⟨none,0,0⟩,[]⟩:FrS).obs (rowOb 31 2 (.slice (some ⟨ag,0,none⟩) ids.length ac) ids.length (ids.flatMap encID)::rowOb 214 1 lv 1 [vPtr pc]::ebOb (.slice SA sn sc) ys::x.obs l)) w')=>(⟨(h.cell 11 (g:=x.ps) (t:=131) (cs:=x.cells) rfl).cell 3,(h.cell 0 rfl).cell 0,(h.cell 4 rfl).cell 0,by
  rw [<- HFV.out];exact look_flV (h.get 13 (o:=flOb x.fm x.F) rfl).1⟩:w'.cell? ⟨x.ps,3,none⟩=some (.map (some x.fm))/\w'.cell? ⟨bc,0,none⟩=some (vPtr pc)/\w'.cell? ⟨pc,0,none⟩=some (.int .i64 1)/\(Instr.lookup 129 (.map (some x.fm)) (.int .i64 1) false).run Tryz.prog w'= .ok fv w'))
 iterate 9
  (refine wpHeld_take (v:=?_) (Or.inl ⟨by rfl,?_⟩) ?_
   rotate_left
   · (intro w' hSw;obtain ⟨h1,h2,h3,h4⟩:=HC.out w' hSw;go_simp;try with_reducible rfl)
   try simp only [Act.put,zD,List.set])
 refine wpHeld_nil ?_;simp only [dz_];clear HC;have c1:W2.cell? ⟨bc,0,none⟩=some (vPtr pc):=(S3.out.cell 0 rfl).cell 0;have c2:W2.cell? ⟨pc,1,none⟩=some (.bool false):=(S3.out.cell 4 rfl).cell 1;go_upto_if 68 with fail
 go_cut [] from 19 (fun w'=>SW b w0 ((⟨bc,bb,b4,bm,pc, #[.int .i64 1,.bool false,.slice SA sn sc,.slice (some ⟨ag,0,none⟩) ids.length ac,.int .i64 len],(flen x.F),mv,M,⟨none,0,0⟩,[]⟩:FrS).obs (rowOb 31 2 (.slice (some ⟨ag,0,none⟩) ids.length ac) ids.length (ids.flatMap encID)::rowOb 214 1 lv 1 [vPtr pc]::ebOb (.slice SA sn sc) ys::x.obs l)) w')
 case first=>
  cases hF:x.F with
  | none=>
   have e0:flen x.F=0:=by rw [hF];rfl
   have HE0:=hid e0;clear e0 hF;simp only [Option.isSome_none];go_wp2_with fail
   go_meet;rw [HE0.out];exact S3.out
  | some f=>
   have e0:flen x.F=f.len:=by rw [hF];rfl
   have e1:vPtr f.fb=fv:=by rw [<- HFV.out,hF];rfl
   subst e1;have k0:W2.cell? ⟨f.fb,0,none⟩=some (.int .i64 (f.len:Int)):=((S3.out.get 13 (o:=flOb x.fm x.F) rfl).2 f hF).1.cell 0;have kz:W2.frozen? ⟨bb,0,none⟩=false:=(S3.out.cell 1 rfl).frozen 0;have kb:W2.cell? ⟨bb,0,none⟩=some (.int .i64 0):=(S3.out.cell 1 rfl).cell 0;have HE0:=hid e0;clear e0 hF;simp only [Option.isSome_some];go_wp2_with fail
   go_meet;rw [HE0.out];exact S3.out.setAt 1 rfl 0 (.int .i64 (f.len:Int))
 clear S3 c1 c2 qg qn;have S4:=hid hcut;clear hcut;have c1:wc.cell? ⟨bc,0,none⟩=some (vPtr pc):=(S4.out.cell 0 rfl).cell 0;have c3:wc.cell? ⟨pc,3,none⟩=some (.slice (some ⟨ag,0,none⟩) ids.length ac):=(S4.out.cell 4 rfl).cell 3;have HRI:=hid (fun (wr:World) (base:Nat) (M':Chs) (d':BD) (bs':List UInt8) (h:SW b w0 ((⟨bc,bb,b4,bm,pc, #[.int .i64 1,.bool false,.slice SA sn sc,.slice (some ⟨ag,0,none⟩) ids.length ac,.int .i64 len],base,mv,M',d',bs'⟩:FrS).obs (rowOb 31 2 (.slice (some ⟨ag,0,none⟩) ids.length ac) ids.length (ids.flatMap encID)::rowOb 214 1 lv 1 [vPtr pc]::ebOb (.slice SA sn sc) ys::x.obs l)) wr)=>(own_rowI (h.get 7 (o:=rowOb 31 2 (.slice (some ⟨ag,0,none⟩) ids.length ac) ids.length (ids.flatMap encID)) rfl)).2.1);go_wp2_with fail
 go_loopw [78] (fun s78 wr=>∃ (k:Nat) (d:BD),k<=ids.length/\s78= .int .i64 (k:Int)/\SW b w0 ((⟨bc,bb,b4,bm,pc, #[.int .i64 1,.bool false,.slice SA sn sc,.slice (some ⟨ag,0,none⟩) ids.length ac,.int .i64 len],(flen x.F),mv,(wfold (flen x.F) x.C M (ids.take k)).1,d,(wfold (flen x.F) x.C M (ids.take k)).2⟩:FrS).obs (rowOb 31 2 (.slice (some ⟨ag,0,none⟩) ids.length ac) ids.length (ids.flatMap encID)::rowOb 214 1 lv 1 [vPtr pc]::ebOb (.slice SA sn sc) ys::x.obs l)) wr) (fun s78 _=>ids.length-(intOf s78).toNat)
 case atStart=>exact ⟨0,⟨none,0,0⟩,Nat.zero_le _,rfl,S4.out⟩
 obtain ⟨k,d,hk,rfl,hs⟩:=hrel;have S5:=hid hs;clear hs S4 c1 c3;by_cases hlt:k<ids.length
 · obtain ⟨i,hik⟩:∃ i,ids.getD k id0=i:=⟨_,rfl⟩;obtain ⟨a0,a1,_,_⟩:=(HRI.out _ _ _ _ _ S5.out).cells hlt hik
   have hm:i∈ids:=by
    rw [<- hik,zA,zC hlt];exact List.getElem_mem hlt
   have hts:ids.take (k+1)=ids.take k++[i]:=by
    rw [List.take_succ_eq_append_getElem hlt, <- hik,zA,zC hlt];rfl
   have HTS:=hid hts;obtain ⟨⟨dA,dn,dc⟩,ch,hai,hi2,hch,hok,hi0,hi1⟩:=HIDS.out i hm;have HAI:=hid hai;have HOK:=hid hok;have HI2:=hid hi2
   have HPB:Hid (pendB x.C i=ch):=by
    rw [Hid];unfold pendB;rw [hai]
   have hlen:flen x.F+(wfold (flen x.F) x.C M (ids.take k)).2.length<=1048576:=by
    rw [wfold_len _ _ _ _ (fun j hj=>by
     obtain ⟨d',bs',h1,h2,_⟩:=HIDS.out j (List.mem_of_mem_take hj);unfold pendB;rw [h1,h2];simp)]
    have:=frSum_take_le ids k;omega
   have HLEN:=hid hlen;clear hik hts hm hai hok hi2 hlen;obtain ⟨M1,HM1⟩:∃ M1,Hid ((wfold (flen x.F) x.C M (ids.take k)).1=M1):=⟨_,rfl⟩;obtain ⟨bs1,HB1⟩:∃ bs1,Hid ((wfold (flen x.F) x.C M (ids.take k)).2=bs1):=⟨_,rfl⟩;rw [HM1.out,HB1.out] at S5;rw [HB1.out] at HLEN;obtain ⟨base,HBS⟩:∃ base,Hid (flen x.F=base):=⟨_,rfl⟩;rw [HBS.out] at S5 HLEN;have S6:=hid ((S5.out.newCell 31 #[.int .u64 i.1,.int .i64 i.2]).drew);go_upto_region 19 with fail
   refine wp_region_held_tail [(0,true),(1,true),(2,true),(3,true),(4,true),(5,true),(6,true),(7,true),(8,true)] (SW b w0 (cellOb wr.heap.size 31 #[.int .u64 i.1,.int .i64 i.2]::(⟨bc,bb,b4,bm,pc, #[.int .i64 1,.bool false,.slice SA sn sc,.slice (some ⟨ag,0,none⟩) ids.length ac,.int .i64 len],base,mv,M1,d,bs1⟩:FrS).obs (rowOb 31 2 (.slice (some ⟨ag,0,none⟩) ids.length ac) ids.length (ids.flatMap encID)::rowOb 214 1 lv 1 [vPtr pc]::ebOb (.slice SA sn sc) ys::x.obs l))) (by kernel_rfl) (fun _ _ d _ _ h=>by cases d<;>exact h) (by kernel_rfl) S6.out ?_;simp only [pk_];generalize (wr.alloc (.cells #[.int .u64 i.1,.int .i64 i.2] 31)).drew=W5 at S6 |-; have hfd:=fun W=>field138 dA dn dc 0 0 W
   have HC:=hid (fun (w':World) (h:SW b w0 (cellOb wr.heap.size 31 #[.int .u64 i.1,.int .i64 i.2]::(⟨bc,bb,b4,bm,pc, #[.int .i64 1,.bool false,.slice SA sn sc,.slice (some ⟨ag,0,none⟩) ids.length ac,.int .i64 len],base,mv,M1,d,bs1⟩:FrS).obs (rowOb 31 2 (.slice (some ⟨ag,0,none⟩) ids.length ac) ids.length (ids.flatMap encID)::rowOb 214 1 lv 1 [vPtr pc]::ebOb (.slice SA sn sc) ys::x.obs l)) w')=>(⟨(h.cell 12 (g:=x.ps) (t:=131) (cs:=x.cells) rfl).cell 2,(h.cell 0 rfl).cell 0,(h.cell 0 rfl).cell 1,look_pend (h.get 13 (o:=chOb x.cm x.C) rfl).1 HOK.out HAI.out⟩:w'.cell? ⟨x.ps,2,none⟩=some (.map (some x.cm))/\w'.cell? ⟨wr.heap.size,0,none⟩=some (.int .u64 i.1)/\w'.cell? ⟨wr.heap.size,1,none⟩=some (.int .i64 i.2)/\(Instr.lookup 128 (.map (some x.cm)) (.agg #[.int .u64 i.1,.int .i64 i.2]) false).run Tryz.prog w'= .ok (.agg #[.slice dA dn dc,.int .i64 0,.int .i64 0]) w'))
   iterate 9
    (refine wpHeld_take (v:=?_) (Or.inl ⟨by rfl,?_⟩) ?_
     rotate_left
     · (intro w' hSw;obtain ⟨h1,h2,h3,h4⟩:=HC.out w' hSw;go_simp;try with_reducible rfl)
     try simp only [Act.put,zD,List.set])
   refine wpHeld_nil ?_;simp only [dz_];clear HC;have hmem:=mem_of_asc HAI.out;have hrb:RB W5 ⟨dA,dn,dc⟩ ch:=((S6.out.get 13 (o:=chOb x.cm x.C) rfl).2 i ⟨dA,dn,dc⟩ ch hmem).1;have hln:ch.length=dn:=hrb.1;subst hln;have S7:=(SW.front (pre:=[_,_,_,_,_,_,_,_,_,_,_,_,_,_]) (t:=flOb x.fm x.F::l) S6.out [13,0,1,2,3,4,5,6,7,8,9,10,11,12] (n:=14) rfl (by decide))
   have S8:Hid (SW b w0 ((⟨bc,bb,b4,bm,pc, #[.int .i64 1,.bool false,.slice SA sn sc,.slice (some ⟨ag,0,none⟩) ids.length ac,.int .i64 len],base,mv,M1,d,bs1⟩:FrS).obs (rsOb dA ch::cellOb wr.heap.size 31 #[.int .u64 i.1,.int .i64 i.2]::chOb x.cm x.C::rowOb 31 2 (.slice (some ⟨ag,0,none⟩) ids.length ac) ids.length (ids.flatMap encID)::rowOb 214 1 lv 1 [vPtr pc]::ebOb (.slice SA sn sc) ys::devOb x.p x.r x.s::cellOb x.ps 131 x.cells::flOb x.fm x.F::l)) W5):=
    SW.front (pre:=[_,_,_,_,_,_,_,_,_,_,_,_,_,_,_]) (t:=flOb x.fm x.F::l) (SW.viewCh S7 hmem) [3,4,5,6,7,8,9,0,2,1,10,11,12,13,14] (n:=15) rfl (by decide)
   have HFR:=hid (frame_any dA dc ch i S8.out.1 rfl HOK.out (Nat.le_trans HLEN.out (by omega)) hch hi0 hi1);clear S7 hrb hmem;go_wp2_with (go_at_call 236;(with_reducible refine HFR.out.mono ?_);rintro e w9 ⟨rfl,d9,hs9,hb9⟩)
   have S9:Hid (SW b w0 ((frOut (⟨bc,bb,b4,bm,pc, #[.int .i64 1,.bool false,.slice SA sn sc,.slice (some ⟨ag,0,none⟩) ids.length ac,.int .i64 len],base,mv,M1,d,bs1⟩:FrS) i ch d9).obs (rowOb 31 2 (.slice (some ⟨ag,0,none⟩) ids.length ac) ids.length (ids.flatMap encID)::rowOb 214 1 lv 1 [vPtr pc]::ebOb (.slice SA sn sc) ys::x.obs l)) w9):=
    (SW.front (pre:=[_,_,_,_,_,_,_,_,_,_,_,_,_,_,_]) (t:=flOb x.fm x.F::l) (⟨hs9,S8.out.2.trans hb9⟩:SW b w0 _ w9) [7,8,0,1,2,3,4,5,6,10,11,12,13,14,9] (n:=15) rfl (by decide)).tail.tail
   clear hs9 hb9 HFR S8 S6 S5;go_roundw
   case rel=>
    refine ⟨k+1,d9,by omega,by go_num,?_⟩;rw [HTS.out,wfold_snoc];unfold wstep;simp only;rw [HM1.out,HB1.out,HPB.out,HBS.out];exact S9.out
   simp [intOf];omega
 have hkn:k=ids.length:=by omega
 subst hkn;rw [List.take_length] at S5;clear hlt hk HRI HIDS;obtain ⟨M1,HM1⟩:∃ M1,Hid ((wfold (flen x.F) x.C M ids).1=M1):=⟨_,rfl⟩;obtain ⟨bs1,HB1⟩:∃ bs1,Hid ((wfold (flen x.F) x.C M ids).2=bs1):=⟨_,rfl⟩;rw [HM1.out,HB1.out] at S5;rw [HB1.out] at HBL;have hbl:=HBL.out;obtain ⟨dA,dn,dc⟩:=d;have hdn:bs1.length=dn:=(S5.out.get 6 (o:=bufOb ⟨dA,dn,dc⟩ bs1) rfl).1;subst hdn;obtain ⟨base,HBS⟩:∃ base,Hid (flen x.F=base):=⟨_,rfl⟩;rw [HBS.out] at S5;have cps:wr.cell? ⟨x.ps,1,none⟩=some (.string x.nm):=(S5.out.cell 11 (g:=x.ps) (t:=131) (cs:=x.cells) rfl).cell 1;have cbc:wr.cell? ⟨bc,0,none⟩=some (vPtr pc):=(S5.out.cell 0 rfl).cell 0;have cpc:wr.cell? ⟨pc,0,none⟩=some (.int .i64 1):=(S5.out.cell 4 rfl).cell 0;have HFN:=hid (fileName_any x.ps x.nm wr cps hnm);have qn:∀ W,(binOp .neq 146 fv (.pointer none)).run Tryz.prog W= .ok (.bool x.F.isSome) W:=fun W=>by rw [<- HFV.out];exact flV_neq x.F W
 go_upto_region 22 with (go_at_call 101;(with_reducible refine HFN.out.mono ?_);rintro e w5 ⟨rfl,qq,rfl⟩)
 have S9:Hid (SW b w0 ((⟨bc,bb,b4,bm,pc, #[.int .i64 1,.bool false,.slice SA sn sc,.slice (some ⟨ag,0,none⟩) ids.length ac,.int .i64 len],base,mv,M1,⟨dA,bs1.length,dc⟩,bs1⟩:FrS).obs (rowOb 31 2 (.slice (some ⟨ag,0,none⟩) ids.length ac) ids.length (ids.flatMap encID)::rowOb 214 1 lv 1 [vPtr pc]::ebOb (.slice SA sn sc) ys::x.obs l)) (wr.drewN qq)):=S5.out.on ⟨rfl,rfl,rfl,zE _,fun _ _=>rfl⟩;generalize wr.drewN qq=w5 at S9 |-; clear cps cbc cpc HFN S5;have cbc:w5.cell? ⟨bc,0,none⟩=some (vPtr pc):=(S9.out.cell 0 rfl).cell 0;have cpc:w5.cell? ⟨pc,1,none⟩=some (.bool false):=(S9.out.cell 4 rfl).cell 1;obtain ⟨FF,hFF⟩:∃ FF,x.F=FF:=⟨_,rfl⟩;rw [hFF] at qn;have hF0:=hid hFF;clear hFF;cases FF with
 | none=>
  simp only [Option.isSome_none] at qn;have S10:=hid S9.out.drew;go_upto_region 29 with fail
  refine wp_region_held_tail [(0,true),(1,true),(2,true),(3,true),(4,true),(5,true)] (SW b w0 ((⟨bc,bb,b4,bm,pc, #[.int .i64 1,.bool false,.slice SA sn sc,.slice (some ⟨ag,0,none⟩) ids.length ac,.int .i64 len],base,mv,M1,⟨dA,bs1.length,dc⟩,bs1⟩:FrS).obs (rowOb 31 2 (.slice (some ⟨ag,0,none⟩) ids.length ac) ids.length (ids.flatMap encID)::rowOb 214 1 lv 1 [vPtr pc]::ebOb (.slice SA sn sc) ys::x.obs l))) (by kernel_rfl) (fun _ _ d _ _ h=>by cases d<;>exact h) (by kernel_rfl) S10.out ?_;simp only [pk_];generalize w5.drew=W6 at S10 |-; have HC:=hid (fun (w':World) (h:SW b w0 ((⟨bc,bb,b4,bm,pc, #[.int .i64 1,.bool false,.slice SA sn sc,.slice (some ⟨ag,0,none⟩) ids.length ac,.int .i64 len],base,mv,M1,⟨dA,bs1.length,dc⟩,bs1⟩:FrS).obs (rowOb 31 2 (.slice (some ⟨ag,0,none⟩) ids.length ac) ids.length (ids.flatMap encID)::rowOb 214 1 lv 1 [vPtr pc]::ebOb (.slice SA sn sc) ys::x.obs l)) w')=>(⟨(h.cell 11 (g:=x.ps) (t:=131) (cs:=x.cells) rfl).cell 0,(h.cell 2 rfl).cell 0⟩:w'.cell? ⟨x.ps,0,none⟩=some (vPtr x.p)/\w'.cell? ⟨b4,0,none⟩=some (.slice dA bs1.length dc)))
  iterate 6
   (refine wpHeld_take (v:=?_) (Or.inl ⟨by rfl,?_⟩) ?_
    rotate_left
    · (intro w' hSw;obtain ⟨h1,h2⟩:=HC.out w' hSw;go_simp;try with_reducible rfl)
    try simp only [Act.put,zD,List.set])
  refine wpHeld_nil ?_;simp only [dz_];clear HC;have HRQ:=hid (req_S (l:=((⟨bc,bb,b4,bm,pc, #[.int .i64 1,.bool false,.slice SA sn sc,.slice (some ⟨ag,0,none⟩) ids.length ac,.int .i64 len],base,mv,M1,⟨dA,bs1.length,dc⟩,bs1⟩:FrS).obs (rowOb 31 2 (.slice (some ⟨ag,0,none⟩) ids.length ac) ids.length (ids.flatMap encID)::rowOb 214 1 lv 1 [vPtr pc]::ebOb (.slice SA sn sc) ys::x.obs l))) (k:=10) (Create_any x.p x.r x.s (fileN x.nm) dA dc bs1 W6 (S10.out.get 10 (o:=devOb x.p x.r x.s) rfl) (file_ok hnm) (RB.src (S10.out.get 6 (o:=bufOb ⟨dA,bs1.length,dc⟩ bs1) rfl)) hL (by omega)) S10.out.1 rfl);go_wp2_with (go_at_call 238;(with_reducible refine HRQ.out.mono ?_);rintro e w9 ⟨cn,hcn,rfl,r9,hs9,hb9⟩;have HCN:=hid hcn;have S11:=hid (⟨hs9,S10.out.2.trans hb9⟩:SW b w0 _ w9);clear hcn hs9 hb9)
  go_ret;have ho:wfOp x.F x.nm bs1=⟨.create,fileN x.nm,ByteArray.empty,bs1,true⟩:=by rw [hF0.out];rfl
  unfold WFPost;simp only;rw [HB1.out,HM1.out,ho];refine ⟨cn,r9,HCN.out,rfl,?_⟩;exact (SW.front (pre:=[_,_,_,_,_,_,_]) (t:=_) S11.out [0,1,2,3,6,4,5] (n:=7) rfl (by decide)).tail.tail.tail.tail.tail
 | some f=>
  simp only [Option.isSome_some] at qn;have S10:=hid S9.out.drew;go_upto_region 28 with fail
  refine wp_region_held_tail [(0,true),(1,true),(2,true),(3,true),(4,true),(5,true)] (SW b w0 ((⟨bc,bb,b4,bm,pc, #[.int .i64 1,.bool false,.slice SA sn sc,.slice (some ⟨ag,0,none⟩) ids.length ac,.int .i64 len],base,mv,M1,⟨dA,bs1.length,dc⟩,bs1⟩:FrS).obs (rowOb 31 2 (.slice (some ⟨ag,0,none⟩) ids.length ac) ids.length (ids.flatMap encID)::rowOb 214 1 lv 1 [vPtr pc]::ebOb (.slice SA sn sc) ys::x.obs l))) (by kernel_rfl) (fun _ _ d _ _ h=>by cases d<;>exact h) (by kernel_rfl) S10.out ?_;simp only [pk_];generalize w5.drew=W6 at S10 |-; have HC:=hid (fun (w':World) (h:SW b w0 ((⟨bc,bb,b4,bm,pc, #[.int .i64 1,.bool false,.slice SA sn sc,.slice (some ⟨ag,0,none⟩) ids.length ac,.int .i64 len],base,mv,M1,⟨dA,bs1.length,dc⟩,bs1⟩:FrS).obs (rowOb 31 2 (.slice (some ⟨ag,0,none⟩) ids.length ac) ids.length (ids.flatMap encID)::rowOb 214 1 lv 1 [vPtr pc]::ebOb (.slice SA sn sc) ys::x.obs l)) w')=>(⟨(h.cell 11 (g:=x.ps) (t:=131) (cs:=x.cells) rfl).cell 0,(h.cell 2 rfl).cell 0⟩:w'.cell? ⟨x.ps,0,none⟩=some (vPtr x.p)/\w'.cell? ⟨b4,0,none⟩=some (.slice dA bs1.length dc)))
  iterate 6
   (refine wpHeld_take (v:=?_) (Or.inl ⟨by rfl,?_⟩) ?_
    rotate_left
    · (intro w' hSw;obtain ⟨h1,h2⟩:=HC.out w' hSw;go_simp;try with_reducible rfl)
    try simp only [Act.put,zD,List.set])
  refine wpHeld_nil ?_;simp only [dz_];clear HC;have HRQ:=hid (req_S (l:=((⟨bc,bb,b4,bm,pc, #[.int .i64 1,.bool false,.slice SA sn sc,.slice (some ⟨ag,0,none⟩) ids.length ac,.int .i64 len],base,mv,M1,⟨dA,bs1.length,dc⟩,bs1⟩:FrS).obs (rowOb 31 2 (.slice (some ⟨ag,0,none⟩) ids.length ac) ids.length (ids.flatMap encID)::rowOb 214 1 lv 1 [vPtr pc]::ebOb (.slice SA sn sc) ys::x.obs l))) (k:=10) (Append_any x.p x.r x.s (fileN x.nm) dA dc bs1 W6 (S10.out.get 10 (o:=devOb x.p x.r x.s) rfl) (file_ok hnm) (RB.src (S10.out.get 6 (o:=bufOb ⟨dA,bs1.length,dc⟩ bs1) rfl)) hL (by omega)) S10.out.1 rfl);go_wp2_with (go_at_call 240;(with_reducible refine HRQ.out.mono ?_);rintro e w9 ⟨cn,hcn,rfl,r9,hs9,hb9⟩;have HCN:=hid hcn;have S11:=hid (⟨hs9,S10.out.2.trans hb9⟩:SW b w0 _ w9);clear hcn hs9 hb9)
  go_ret;have ho:wfOp x.F x.nm bs1=⟨.add,fileN x.nm,ByteArray.empty,bs1,true⟩:=by rw [hF0.out];rfl
  unfold WFPost;simp only;rw [HB1.out,HM1.out,ho];refine ⟨cn,r9,HCN.out,rfl,?_⟩;exact (SW.front (pre:=[_,_,_,_,_,_,_]) (t:=_) S11.out [0,1,2,3,6,4,5] (n:=7) rfl (by decide)).tail.tail.tail.tail.tail
end
section
open Go.RowKit Go.MapKept Go.ChangeMaps
def RdS (w:World) (A:Option Addr) (ns:List ByteArray):Prop:=0<ns.length->∃ b,A=some ⟨b,0,none⟩/\b<w.heap.size/\∀ j,j<ns.length->w.cell? ⟨b,j,none⟩=some (.string (ns.getD j ByteArray.empty))
theorem RdS.on {w w':World} {A:Option Addr} {ns:List ByteArray} (h:RdS w A ns) (hb:Below w.heap.size w w'):RdS w' A ns:=by
 intro hp;obtain ⟨b,e,h1,h2⟩:=h hp;exact ⟨b,e,Nat.lt_of_lt_of_le h1 hb.size,fun j hj=>(hb.cell (p:=⟨b,j,none⟩) h1).trans (h2 j hj)⟩
abbrev bl (n:ByteArray):List UInt8:=n.data.toList
structure Listed (N:FF) (ns:List ByteArray):Prop where
 nodup:ns.Nodup
 mem:∀ m,m∈ns↔(N m).isSome=true
 asc:(ns.map bl).Pairwise (fun a b=>a<=b)
def NamesPost (N:FF) (w:World) (e:Ending) (w':World):Prop:=∃ A c ns,e= .returned (.slice A ns.length c)/\Listed N ns/\RdS w' A ns/\Below w.heap.size w w'
theorem info9:(Tryz.prog.info? 9).map (fun i=>(i.zero,i.size,i.bytes))=some (some (.string ByteArray.empty),1,16):=by kernel_rfl
theorem bl_inj {a b:ByteArray} (h:bl a=bl b):a=b:=by
 cases a;cases b
 simp only [bl] at h;congr 1
 exact Array.toList_inj.1 h
theorem listed_sort {N:FF} {l:List ByteArray} (hn:l.Nodup) (hm:∀ m,m∈l↔(N m).isSome=true):Listed N (((l.map bl).mergeSort (fun x y=>decide (x<=y))).map (fun x=>⟨x.toArray⟩)):=by
 have hp:((l.map bl).mergeSort (fun x y=>decide (x<=y))).Perm (l.map bl):=List.mergeSort_perm _ _;have hb:∀ x:List UInt8,bl ⟨x.toArray⟩=x:=fun x=>by simp [bl]
 have hmap:(((l.map bl).mergeSort (fun x y=>decide (x<=y))).map (fun x=>(⟨x.toArray⟩:ByteArray))).Perm l:=by
  have h1:=hp.map (fun x=>(⟨x.toArray⟩:ByteArray));rw [List.map_map] at h1
  have h2:l.map ((fun x=>(⟨x.toArray⟩:ByteArray)) ∘ bl)=l:=by
   conv=>rhs;rw [<- List.map_id l]
   apply List.map_congr_left
   intro x _;exact bl_inj (by simp [bl])
  rwa [h2] at h1
 refine ⟨hmap.nodup_iff.2 hn,fun m=>hmap.mem_iff.trans (hm m),?_⟩;rw [List.map_map]
 have h3:(bl ∘ fun x=>(⟨x.toArray⟩:ByteArray))=id:=by
  funext x
  exact hb x
 rw [h3,List.map_id]
 have:=List.pairwise_mergeSort (le:=fun x y:List UInt8=>decide (x<=y)) (fun a b c h1 h2=>by
  simp only [decide_eq_true_eq] at *; exact List.le_trans h1 h2) (fun a b=>by
  simp only [Bool.or_eq_true,decide_eq_true_eq];exact List.le_total a b) (l.map bl)
 exact this.imp (fun h=>by simpa using h)
theorem below_sort {α:Type} [Inhabited α] {enc:α->Value} {w wr:World} {g n off:Nat} {d:Array α} {os:Array Obj} (hb:Below w.heap.size w wr) (hg:w.heap.size<=g):Below w.heap.size w (Sort.grow (Sort.putRow enc (Sort.ahead wr n) g off d) os):=by
 have hsz:=hb.size;refine ⟨hb.os,hb.tape,hb.output,by simp;omega,fun i hi=>?_⟩;rw [Sort.heap_grow_old _ _ (by simp;omega)];show (wr.heap.modify g _)[i]? =_;rw [Array.getElem?_modify,if_neg (by omega)];exact hb.block i hi
theorem Names_any (p:Nat) (r:Rp) (s:St) (w:World) (h:DV w p r s):Calls Tryz.prog 37 #[.pointer (some ⟨p,0,none⟩)] w (NamesPost s.now w):=by
 have H:=hid h;have hplt:=h.dev.cells.lt;have k1:w.cell? ⟨p,1,none⟩=some (.map (some r.nb)):=(h.dev.cells.cell 1).trans rfl;have hnb:=h.dev.now.1.lt
 have hEN:r.EN.length<=256:=by
  obtain ⟨_,c,hc,hc2⟩:=h.ok.now;have:=hc2.uniq h.dev.cnt;omega
 clear h;obtain ⟨i0,hi,hz0,hz1,hz2⟩:=info_parts info9;go_enter Tryz.func37,Tryz.ntmps37;go_wp2_with (at_range;refine wpList_range_is _ rfl _ 133 rfl 9 34 Tryz.underlying133 r.nb r.EN rfl H.out.dev.now.1 ?_;intro w0 hrg0 hg0 hs0)
 have Hrg0:=hid hrg0;have Hb0:Hid (Below w.heap.size w w0):=(Below.refl w.heap.size w).grown hg0 (zE _) (by simp);have hs0':w.heap.size+1<=w0.heap.size:=by omega
 clear hrg0 hg0 hs0 k1;go_frame
 go_loopw [3] (fun v wr=>∃ (done:Files) (cnt:Nat),RIs okS kS vE wr r.nb w.heap.size r.EN done cnt/\wr.ownsRow (w.heap.size+1) 9 1 v done.length (done.map (fun c=>Value.string c.1))/\w.heap.size+1<=wr.heap.size/\done.length+cnt<=r.EN.length/\Below w.heap.size w wr) (fun _ wr=>wr.rangeLeft r.nb w.heap.size)
 case atStart=>exact ⟨[],_,Hrg0.out,World.ownsRow_nil _ _ _ _,hs0',by simp,Hb0.out⟩
 obtain ⟨done,cnt,hrg,hown,hsz,hdl,hb⟩:=hrel;obtain ⟨A3,c3,rfl⟩:=own_slice hown;have Hleft:=hid hrg.left_eq;have Hrg:=hid hrg;have HO:=hid hown;have Hb:=hid hb;clear hrg hown hb
 go_wp2_with (first
  | (at_next;refine wpList_next_fs _ rfl _ rfl r.nb w.heap.size r.EN done cnt rfl Hrg.out (fun hp=>?_) (fun s d bs w1 cnt1 hc hrg1 hlt1 hg1 hs1 hen=>?_))
  | (at_builtin;refine halt_ ?_))
 · have Hp:=hid hp;clear hp
   have Hsub:Hid ((done.map (·.1)).Nodup/\∀ m,m∈done.map (·.1)↔(s.now m).isSome=true):=by
    have hk:(done.map (·.1)).Perm (r.EN.map (·.1)):=Hp.out.map _;refine ⟨hk.nodup_iff.2 H.out.dev.now.1.nodup,fun m=>hk.mem_iff.trans ?_⟩;rw [<- H.out.dev.has m];constructor
    · intro hm;obtain ⟨c,hc,rfl⟩:=List.mem_map.1 hm;rw [asc_mem H.out.dev.now.1.nodup hc];rfl
    intro hm;cases ha:asc r.EN m with
    | none=>rw [ha] at hm;cases hm
    | some v=>exact List.mem_map.2 ⟨_,mem_of_asc ha,rfl⟩
   by_cases hz:done.length=0
   · have Hz:Hid (done=[]):=List.eq_nil_of_length_eq_zero hz;rw [hz];clear hz;go_wp2_with fail
     refine (Tryz.slices_Sort_string_none A3 c3 _).mono ?_;rintro e w2 ⟨rfl,hw2⟩;subst hw2;go_wp2_with fail
     go_ret;refine ⟨A3,c3,[],rfl,⟨by simp,fun m=>?_,by simp⟩,fun hp=>absurd hp (by simp),Hb.out⟩;have:=Hsub.out.2 m;rw [Hz.out] at this;exact this
   obtain ⟨g,cap,hv,hgb,hgl⟩:=HO.out.form (by omega);injection hv with hv1 hv2 hv3;subst hv1;subst hv3;clear hv2;have HO':=HO.out
   have HH:Hid (Sort.Holds Go.Proofs.encStr wr g 0 ((done.map (fun c=>bl c.1)).toArray)):=fun j hj=>by
    have hj':j<done.length:=by simpa using hj
    have hcell:=HO'.cellAt j (by omega)
    have hd:((done.map (fun c=>bl c.1)).toArray)[j]! =bl (done[j]).1:=by
     rw [getElem!_pos _ j (by simpa using hj')];simp
    refine ⟨?_,?_⟩
    · rw [zF,hcell,List.getElem?_map,zC hj',hd];show some (Value.string _)=some (Value.string _);congr 2
    obtain ⟨cur,hcur⟩:∃ cur,IsB wr g 9 cur:=by
     rcases HO'.2 with ⟨hv,_⟩ | ⟨g',cap',cur,hv,_,hh,_⟩
     · cases hv
     injection hv with e1 e2 e3;injection e1 with e1;injection e1 with e1;subst e1;exact ⟨cur,hh⟩
    exact hcur.frozen _
   have HS:=Tryz.slices_Sort_string g 0 c3 (done.map (fun c=>bl c.1)) wr HH.out hgl (by rw [List.length_map];omega);rw [List.length_map] at HS;have HS':=hid HS;clear HS HO';go_wp2_with fail
   refine HS'.out.mono ?_;rintro e w2 ⟨rfl,n,os,hw2⟩
   have FIN:Hid (NamesPost s.now w (.returned (.slice (some ⟨g,0,none⟩) done.length c3)) w2):=by
    have hL:=listed_sort Hsub.out.1 Hsub.out.2;rw [List.map_map] at hL;have hfun:(bl ∘ fun x:ByteArray×En=>x.1)=(fun c=>bl c.1):=rfl;rw [hfun] at hL;have hlen:(((done.map (fun c=>bl c.1)).mergeSort (fun x y=>decide (x<=y))).map (fun x=>(⟨x.toArray⟩:ByteArray))).length=done.length:=by simp
    have hput:=Sort.holds_putRow Go.Proofs.encStr (Sort.ahead wr n) g 0 _ (((done.map (fun c=>bl c.1)).mergeSort (fun x y=>decide (x<=y))).toArray) (Sort.holds_ahead _ _ _ _ _ _ HH.out) (by simp);have hgr:=Sort.holds_grow Go.Proofs.encStr _ os g 0 _ (by simp;exact hgl) hput;rw [<- hw2] at hgr;refine ⟨some ⟨g,0,none⟩,c3,((done.map (fun c=>bl c.1)).mergeSort (fun x y=>decide (x<=y))).map (fun x=>(⟨x.toArray⟩:ByteArray)),by rw [hlen],hL,fun _=>⟨g,rfl,?_,fun j hj=>?_⟩,?_⟩
    · rw [hw2];simp;omega
    · rw [hlen] at hj;have h1:=(hgr j (by simp;exact hj)).1;rw [zF] at h1;rw [h1,getElem!_pos _ j (by simp;exact hj),zA,List.getElem?_map,zC (by simp;exact hj)];simp
    rw [hw2];exact below_sort Hb.out (by omega)
   clear hw2;go_wp2_with fail
   go_ret;exact FIN.out
 have Hrg1:=hid hrg1;have Hlt1:=hid hlt1;have Hb1:Hid (Below w.heap.size w w1):=Hb.out.grown hg1 (by omega) (by simp)
 have HO1:=hid (HO.out.kept hg1 (by
  cases hv:(Value.slice A3 done.length c3).ownBlock with
  | none=>exact .inl rfl
  | some k=>exact .inr (fun e=>by injection e with e;have:=(HO.out.lt k hv).1;omega)))
 have hsz1:w.heap.size+1<=w1.heap.size:=by rw [hs1.out];exact hsz
 clear hc hrg1 hg1 hs1;go_wp2_with (at_builtin;refine halt_ ?_)
 refine wpList_append_own _ rfl _ _ 60 rfl (w.heap.size+1) 9 i0 _ 1 16 Tryz.underlying60 hi hz0 hz1 hz2 rfl (by decide) (.slice A3 done.length c3) done.length _ rfl (HO1.out.alloc _) ⟨w1.heap.size,0,none⟩ 1 1 [.string s] rfl rfl (fun j u hu=>by rw [lit_add,zF,new_cell _ _ _ _ rfl];simpa using hu) (fun u hu=>by simp at hu;subst hu;rfl) (by unfold maxLen;omega) (by omega) (by simp;omega) ?_;intro v2 w2 ho2 hg2 _
 have HO2:Hid (w2.ownsRow (w.heap.size+1) 9 1 v2 (done++[(s,d,bs)]).length ((done++[(s,d,bs)]).map (fun c=>Value.string c.1))):=by
  rw [Hid,List.map_append,zB];exact ho2
 have hblk:∀ k,some k=(Value.slice A3 done.length c3).ownBlock->w.heap.size+1<=k:=fun k hk=>(HO.out.lt k hk.symm).1;have Hrg2:Hid (RIs okS kS vE w2 r.nb w.heap.size r.EN (done++[(s,d,bs)]) cnt1):=(Hrg1.out.alloc _).kept hg2 (fun e=>by have:=hblk _ e;omega) (fun e=>by have:=hblk _ e;omega);have Hb2:Hid (Below w.heap.size w w2):=(Hb1.out.alloc (by omega) _).grown hg2 (by simp;omega) (fun k hk=>by have:=hblk k hk.symm;omega);have hsz2:w.heap.size+1<=w2.heap.size:=by have:=hg2.size;simp at this;omega
 have hdl2:(done++[(s,d,bs)]).length+cnt1<=r.EN.length:=by rw [zB];simp only [List.length_cons,List.length_nil];omega
 have HDL:=hid hdl2;clear ho2 hg2 hblk hdl2;go_wp2_with fail
 go_roundw
 case rel=>exact ⟨_,_,Hrg2.out,HO2.out,hsz2,HDL.out,Hb2.out⟩
 rw [Hrg2.out.left_eq,Hleft.out];exact Hlt1.out
end
section
open Go.RowKit Go.MapKept Go.ChangeMaps Go.Shelf Go.Sort
theorem Listed.cnt {N:FF} {ns:List ByteArray} (h:Listed N ns):Cnt N ns.length:=⟨ns,h.nodup,h.mem,rfl⟩
theorem flV_eql (F:Option FR) (W:World):(binOp .eql 146 (flV F) (.pointer none)).run Tryz.prog W= .ok (.bool (!F.isSome)) W:=by
 cases F with
 | none=>kernel_rfl
 | some f=>kernel_rfl
theorem flV_grdE (F:Option FR) (a c:Operand) (W:World):(eqGuard BinOp.eql 146 a c (flV F) (.pointer none)).run Tryz.prog W= .ok () W:=by
 cases F with
 | none=>kernel_rfl
 | some f=>kernel_rfl
def BoolPost (v:Bool) (w:World) (e:Ending) (w':World):Prop:=e= .returned (.bool v)/\Below w.heap.size w w'
theorem has_name (ns:List ByteArray) (A:Option Addr) (c:Nat) (nm:ByteArray) (w:World) (h:RdS w A ns) (hn:ns.length<=1000000):Calls Tryz.prog 178 #[.slice A ns.length c,.string nm] w (fun e w'=>∃ v,e= .returned (.bool v)/\w'=w):=by
 by_cases h0:ns.length=0
 · rw [h0];exact (Tryz.slices_Contains_string_empty A c nm w).mono (fun e w' h=>⟨_,h.1,h.2⟩)
 obtain ⟨g,rfl,hg,hc⟩:=h (by omega);exact (Tryz.slices_Contains_string g 0 ns.length c ns nm w (zE _) (by omega) (fun j hj=>by rw [zF];exact hc j hj)).mono (fun e w' h=>⟨_,h.1,h.2⟩)
theorem h2c {b:Nat} {w:World} {x:SR} {l:List Ob} (h:Sto b w x l):w.cell? ⟨x.ps,1,none⟩=some (.string x.nm):=h.scell.cell 1
theorem crowded_any {b:Nat} {w:World} {x:SR} {l:List Ob} (h:Sto b w x l) (lg cap pc:Nat) (rn:Bool) (len:Int) (hlg:w.cell? ⟨lg,0,none⟩=some (vPtr pc)) (hp0:w.cell? ⟨pc,0,none⟩=some (.int .i64 1)) (hp1:w.cell? ⟨pc,1,none⟩=some (.bool rn)) (hp4:w.cell? ⟨pc,4,none⟩=some (.int .i64 len)) (hnm:x.nm.size<=1000) (hcn:∀ n,Cnt x.s.now n->n<=200):
 Calls Tryz.prog 135 #[vPtr x.ps,.slice (some ⟨lg,0,none⟩) 1 cap] w (BoolPost false w):=by
 have H:=hid h;have hll:lg<w.heap.size:=World.block_lt_of_cell? _ _ hlg;have hpl:pc<w.heap.size:=World.block_lt_of_cell? _ _ hp0;have HN:=hid (Names_any x.p x.r x.s w h.sdv);have HCN:=hid hcn;have k0:w.cell? ⟨x.ps,0,none⟩=some (vPtr x.p):=h.scell.cell 0;have G0:=hid hlg;have G1:=hid hp0;have G2:=hid hp1;have G3:=hid hp4;clear h hcn hlg hp0 hp1 hp4;go_enter Tryz.func135,Tryz.ntmps135;go_upto_block 0 with (go_at_call 37;(with_reducible refine HN.out.mono ?_);refine halt_ ?_)
 rintro e w1 ⟨A,c,ns,rfl,hls,hrd,hb1⟩;have hnl:ns.length<=200:=HCN.out _ hls.cnt;have HRD:=hid hrd;have HB1:=hid hb1;have hlg:w1.cell? ⟨lg,0,none⟩=some (vPtr pc):=(hb1.cell (p:=⟨lg,0,none⟩) hll).trans G0.out;have hp0:w1.cell? ⟨pc,0,none⟩=some (.int .i64 1):=(hb1.cell (p:=⟨pc,0,none⟩) hpl).trans G1.out;have hp1:w1.cell? ⟨pc,1,none⟩=some (.bool rn):=(hb1.cell (p:=⟨pc,1,none⟩) hpl).trans G2.out;have hp4:w1.cell? ⟨pc,4,none⟩=some (.int .i64 len):=(hb1.cell (p:=⟨pc,4,none⟩) hpl).trans G3.out;have H1:=hid (H.out.on hb1);have k3:w1.cell? ⟨x.ps,3,none⟩=some (.map (some x.fm)):=H1.out.scell.cell 3;obtain ⟨fv,HFV⟩:∃ fv,Hid (flV x.F=fv):=⟨_,rfl⟩
 have hlk:∀ n,(Instr.lookup 129 (.map (some x.fm)) (.int .i64 1) false).run Tryz.prog (w1.drewN n)= .ok fv (w1.drewN n):=fun n=>by
  rw [<- HFV.out];exact look_flV (H1.out.on ⟨rfl,rfl,rfl,zE _,fun _ _=>rfl⟩).sfl
 have qe:∀ W,(binOp .eql 146 fv (.pointer none)).run Tryz.prog W= .ok (.bool (!x.F.isSome)) W:=fun W=>by rw [<- HFV.out];exact flV_eql x.F W
 have qg:∀ W,(eqGuard BinOp.eql 146 (.tmp 45) (.const (.pointer none)) fv (.pointer none)).run Tryz.prog W= .ok () W:=fun W=>by rw [<- HFV.out];exact flV_grdE x.F _ _ W
 clear hls hrd hb1 HN k0;go_upto_block 0 with fail
 go_cut [6,7] from 8 (fun s6 s7 w'=>∃ (z:Int) (r:Bool) (q:Nat), -1<=z/\z<=201/\s6= .int .i64 z/\s7= .bool r/\w'=w1.drewN q)
 case first=>
  go_wp2_with fail
  refine wp_loop_rounds 2 ?_;rw [rounds_succ];by_cases hl0:len=0
  · have hq:(len==0)=true:=by simpa using hl0
    have HL0:=hid hl0;clear hl0;go_wp2_with fail
    rw [rounds_succ];go_wp2_with fail
    go_meet;exact ⟨_,false,0,by omega,by omega,rfl,rfl,rfl⟩
  have hq:(len==0)=false:=by simpa using hl0
  have HL0:=hid hl0;clear hl0;cases rn with
  | true=>
   go_wp2_with fail
   rw [rounds_succ];go_wp2_with fail
   go_meet;exact ⟨_,true,0,by omega,by omega,rfl,rfl,rfl⟩
  | false=>
   cases hF:x.F with
   | none=>
    rw [hF] at qe;simp only [Option.isSome_none,Bool.not_false] at qe;clear hF;go_wp2_with fail
    go_quiet (fail)
    go_wp2_with fail
    rw [rounds_succ];go_wp2_with fail
    go_meet;exact ⟨_,false,_,by omega,by omega,rfl,rfl,rfl⟩
   | some f=>
    rw [hF] at qe;simp only [Option.isSome_some,Bool.not_true] at qe;clear hF;go_wp2_with fail
    go_quiet (fail)
    go_wp2_with fail
    rw [rounds_succ];go_wp2_with fail
    go_meet;exact ⟨_,false,_,by omega,by omega,rfl,rfl,rfl⟩
 obtain ⟨z,r,q,hz1,hz2,rfl,rfl,rfl⟩:=hcut;have BQ:Hid (Below w.heap.size w (w1.drewN q)):=HB1.out.trans ⟨rfl,rfl,rfl,zE _,fun _ _=>rfl⟩;have H2:Sto b (w1.drewN q) x l:=Sep.on H1.out ⟨rfl,rfl,rfl,zE _,fun _ _=>rfl⟩;have HF:=hid (fresh_any x.ps x.nm (w1.drewN q) (h2c H2) hnm);clear H2;have HRD2:=hid (HRD.out.on (⟨rfl,rfl,rfl,zE _,fun _ _=>rfl⟩:Below w1.heap.size w1 (w1.drewN q)));have HHN:=hid (has_name ns A c (freshN x.nm) (w1.drewN q) HRD2.out (by omega));clear hlk qe qg k3 hlg hp0 hp1 hp4 HRD HB1 H H1 G0 G1 G2 G3;generalize w1.drewN q=w2 at *; cases r with
 | false=>
  go_wp2_with fail
  go_ret;refine ⟨?_,BQ.out⟩;simp;omega
 | true=>
  go_wp2_with (first | (go_at_call 179;(with_reducible refine HF.out.mono ?_);rintro e w3 ⟨rfl,rfl⟩) | (go_at_call 178;(with_reducible refine HHN.out.mono ?_);rintro e w3 ⟨vb,rfl,rfl⟩))
  all_goals (
   go_ret;refine ⟨?_,BQ.out⟩;simp;omega)
end
end Go.Proofs.YteabgcollokgjaaGreatDoor
