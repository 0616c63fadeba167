/- Q -/
import Derived.Test.YteabgcollokgjaaGreatDoorQP18
set_option linter.unusedSimpArgs false
set_option linter.unusedVariables false
set_option maxRecDepth 100000
set_option maxHeartbeats 32000000
open Go.Lib (hid)
open List renaming sublist_cons_self → zA,setIfInBounds_toArray → zB
namespace Go.Proofs.YteabgcollokgjaaGreatDoor
section
open Go.RowKit Go.MapKept Go.ChangeMaps Go.Shelf Go.Sort
structure CFS where
 pc:Nat
 SA:Option Addr
 sn:Nat
 sc:Nat
 av:Value
 len:Nat
 ids:List ID
 lg:Nat
 cap:Nat
 ys:List Ent
abbrev CFS.cs (q:CFS):Array Value:= #[.int .i64 1,.bool false,.slice q.SA q.sn q.sc,q.av,.int .i64 (q.len:Int)]
abbrev CFS.lv (q:CFS):Value:=.slice (some ⟨q.lg,0,none⟩) 1 q.cap
abbrev CFS.obs (q:CFS) (l:List Ob):List Ob:=cellOb q.pc 216 q.cs::rowOb 31 2 q.av q.ids.length (q.ids.flatMap encID)::rowOb 214 1 q.lv 1 [vPtr q.pc]::ebOb (.slice q.SA q.sn q.sc) q.ys::l
def movedS (x:SR) (r:Rp) (s:St) (ids:List ID) (len:Nat) (done:Chs) (f:FR):SR:=
 { x with r:=r,s:=s,C:=updAll x.C done,wait:=x.wait-(done.length:Int),F:=some f }
def CarryPost (b:Nat) (w0:World) (q:CFS) (x:SR) (l:List Ob) (e:Ending) (w':World):Prop:=
 ∃ n r',Cnt x.s.now n/\∃ E,e= .returned (.int .i64 E)/\
  ((E≠0/\E=reqE x.s n (wfOp x.F x.nm (wfold (flen x.F) x.C [] q.ids).2)/\SW b w0 (({ x with r:=r',s:=reqS x.s n (wfOp x.F x.nm (wfold (flen x.F) x.C [] q.ids).2),dead:=E==303 }:SR).obs l) w')∨
   (E≠0/\reqE x.s n (wfOp x.F x.nm (wfold (flen x.F) x.C [] q.ids).2)=0/\E=syncE (reqS x.s n (wfOp x.F x.nm (wfold (flen x.F) x.C [] q.ids).2))/\SW b w0 (({ x with r:=r',s:=syncS (reqS x.s n (wfOp x.F x.nm (wfold (flen x.F) x.C [] q.ids).2)),dead:=E==303 }:SR).obs l) w')∨
   (E=0/\reqE x.s n (wfOp x.F x.nm (wfold (flen x.F) x.C [] q.ids).2)=0/\syncE (reqS x.s n (wfOp x.F x.nm (wfold (flen x.F) x.C [] q.ids).2))=0/\∃ done f,done.Perm (wfold (flen x.F) x.C [] q.ids).1/\f.len=q.len/\f.clean=true/\f.T=(match x.F with | none=>[] | some g=>g.T)/\
    SW b w0 ((movedS x r' (syncS (reqS x.s n (wfOp x.F x.nm (wfold (flen x.F) x.C [] q.ids).2))) q.ids q.len done f).obs l) w'))
theorem carry_any {b:Nat} {w0 w:World} {q:CFS} {x:SR} {l:List Ob} (h:SW b w0 (q.obs (x.obs l)) w) (hlen:q.len≠0) (hlen2:q.len<=1048576) (hcl:∀ f,x.F=some f->f.clean=true) (hnm:x.nm.size<=1000)
 (hids:∀ i∈q.ids,∃ d bs,asc x.C i=some (.pend d bs)/\i.2=(bs.length:Int)/\bs.length<=8192/\okID i/\0<=i.1/\i.1<18446744073709551616) (hn:0<q.ids.length) (hsum:flen x.F+frSum q.ids<=1048576) (hL:x.s.ops.length<=999990) (hcn:∀ n,Cnt x.s.now n->n<=200) (hw0:0<=x.wait) (hw1:x.wait<=1099511627776) (hCl:x.C.length<=1000000):
 Calls Tryz.prog 88 #[vPtr x.ps,q.lv] w (CarryPost b w0 q x l):=by
 obtain ⟨pc,SA,sn,sc,av,len,ids,lg,cap,ys⟩:=q;simp only at hlen hlen2 hids hn hsum;have H:=hid h;have HCR:=hid (crowded_any (l:=l) (h.1.sub (by simp only [CFS.obs];exact ((zA _ _).trans ((zA _ _).trans ((zA _ _).trans (zA _ _)))))) lg cap pc false (len:Int) (lv_cell (k:=2) h rfl) ((h.cell 0 rfl).cell 0) ((h.cell 0 rfl).cell 1) ((h.cell 0 rfl).cell 4) hnm hcn);have HCL:=hid hcl;have HIDS:=hid hids;clear h hcl hids hcn;show Calls Tryz.prog 88 #[vPtr x.ps,.slice (some ⟨lg,0,none⟩) 1 cap] w _;go_enter Tryz.func88,Tryz.ntmps88;go_upto_region 5 with (go_at_call 135;(with_reducible refine HCR.out.mono ?_);rintro e w1 ⟨rfl,hb1⟩)
 have S1:=hid (H.out.on hb1);have hmk:(Instr.makeMap 128 none).run Tryz.prog w1= .ok (.map (some w1.heap.size)) (w1.alloc (.map #[] 0)):=by simp [Instr.makeMap,run_underlying Tryz.underlying128]
 have S2:Hid (SW b w0 ((⟨pc,SA,sn,sc,av,(len:Int),ids,.slice (some ⟨lg,0,none⟩) 1 cap,w1.heap.size,[],ys⟩:WFS).obs x l) (w1.alloc (.map #[] 0))):=SW.front (pre:=[_,_]) (t:=_::_::_::x.obs l) S1.out.newMap [1,0] (n:=2) rfl (by decide);have HWR:=hid (write_any S2.out lg cap rfl (by simp only;omega) HCL.out hnm HIDS.out hn hsum (by omega));clear hb1 HCR H S1 S2;generalize hmv:w1.heap.size=mv at HWR hmk;clear hmv;go_upto_if 24 with (go_at_call 136;(with_reducible refine HWR.out.mono ?_);refine halt_ ?_)
 rintro e w2 ⟨n,r1,hcn,rfl,hs2⟩;have HCN:=hid hcn;obtain ⟨op,HOP⟩:∃ op,Hid (wfOp x.F x.nm (wfold (flen x.F) x.C [] ids).2=op):=⟨_,rfl⟩;obtain ⟨M,HM⟩:∃ M,Hid ((wfold (flen x.F) x.C [] ids).1=M):=⟨_,rfl⟩;simp only at hs2 |-; rw [HOP.out] at hs2 |-; rw [HM.out] at hs2;obtain ⟨E1,HE1⟩:∃ E1,Hid (reqE x.s n op=E1):=⟨_,rfl⟩;rw [HE1.out];obtain ⟨s1,HS1⟩:∃ s1,Hid (reqS x.s n op=s1):=⟨_,rfl⟩;rw [HS1.out] at hs2
 have hops:s1.ops.length<=1000000:=by
  rw [<- HS1.out];have:=reqS_ops x.s n op;omega
 have S3:Hid (SW b w0 (cellOb pc 216 #[.int .i64 1,.bool false,.slice SA sn sc,av,.int .i64 (len:Int)]::chOb mv M::rowOb 31 2 av ids.length (ids.flatMap encID)::rowOb 214 1 (.slice (some ⟨lg,0,none⟩) 1 cap) 1 [vPtr pc]::ebOb (.slice SA sn sc) ys::({ x with r:=r1,s:=s1 }:SR).obs l) w2):=hs2;clear hs2 hcn HWR hmk;by_cases h0:E1=0
 · have q1:(E1==0)=true:=by simpa using h0
   have H0:=hid h0;clear h0;have k0:w2.cell? ⟨x.ps,0,none⟩=some (vPtr x.p):=(S3.out.cell 6 rfl).cell 0;have HSY:=hid (goes_S (l:=(cellOb pc 216 #[.int .i64 1,.bool false,.slice SA sn sc,av,.int .i64 (len:Int)]::chOb mv M::rowOb 31 2 av ids.length (ids.flatMap encID)::rowOb 214 1 (.slice (some ⟨lg,0,none⟩) 1 cap) 1 [vPtr pc]::ebOb (.slice SA sn sc) ys::({ x with r:=r1,s:=s1 }:SR).obs l)) (k:=5) (Sync_any x.p r1 s1 w2 (S3.out.get 5 (o:=devOb x.p r1 s1) rfl) hops) S3.out.1 rfl);go_upto_if 31 with (go_at_call 137;(with_reducible refine HSY.out.mono ?_);rintro e w3 ⟨rfl,r2,hs3,hb3⟩;have S4:=hid (⟨hs3,S3.out.2.trans hb3⟩:SW b w0 _ w3);clear hs3 hb3)
   clear k0 HSY S3;have S5:Hid (SW b w0 (cellOb pc 216 #[.int .i64 1,.bool false,.slice SA sn sc,av,.int .i64 (len:Int)]::chOb mv M::rowOb 31 2 av ids.length (ids.flatMap encID)::rowOb 214 1 (.slice (some ⟨lg,0,none⟩) 1 cap) 1 [vPtr pc]::ebOb (.slice SA sn sc) ys::({ x with r:=r2,s:=syncS s1 }:SR).obs l) w3):=S4.out;clear S4;obtain ⟨E2,HE2⟩:∃ E2,Hid (syncE s1=E2):=⟨_,rfl⟩;rw [HE2.out];by_cases h2:E2=0
   · have q2:(E2 !=0)=false:=by simpa using h2
     have H2:=hid h2;clear h2;have HMI:=hid (S5.out.get 1 (o:=chOb mv M) rfl).1;go_wp2_with (at_range;(with_reducible refine wpList_range_is _ rfl _ 128 rfl 31 138 Tryz.underlying128 mv M rfl HMI.out ?_);intro w4 hrg hg hs;have RI0:=hid hrg;have SWr:=hid (S5.out.range 1 rfl hrg hg);clear hrg hg hs)
     have HMK:=hid (wfold_keys (flen x.F) x.C ids);rw [HM.out] at HMK
     have hml:M.length<=1048576:=by
      rw [<- HM.out];exact Nat.le_trans (wfold_mlen _ _ _) (Nat.le_trans (len_le_frSum ids) (by omega))
     obtain ⟨r,Hr⟩:∃ r,Hid (w3.heap.size=r):=⟨_,rfl⟩;rw [Hr.out] at SWr;rw [Hr.out];clear Hr RI0 HMI S5;go_frame
     go_loopw [] (fun wr=>∃ (done:Chs) (cnt:Nat),SW b w0 (cellOb pc 216 #[.int .i64 1,.bool false,.slice SA sn sc,av,.int .i64 (len:Int)]::itOb mv r M done cnt::rowOb 31 2 av ids.length (ids.flatMap encID)::rowOb 214 1 (.slice (some ⟨lg,0,none⟩) 1 cap) 1 [vPtr pc]::ebOb (.slice SA sn sc) ys::({ x with r:=r2,s:=syncS s1,C:=updAll x.C done,wait:=x.wait-(done.length:Int) }:SR).obs l) wr) (fun wr=>wr.rangeLeft mv r)
     case atStart=>exact ⟨[],M.length,by simpa [updAll] using SWr.out⟩
     obtain ⟨done,cnt,hs⟩:=hrel;have S6:=hid hs;have HRI:=hid (hs.get 1 (o:=itOb mv r M done cnt) rfl:RIs okID vID vPl wr mv r M done cnt);have Hleft:=hid HRI.out.left_eq;clear hs SWr;go_wp2_with (at_next;(refine wpList_next_ch _ rfl _ rfl mv r M done cnt rfl HRI.out (fun hp=>?_) (fun i pl w5 cnt1 hc1 hrg1 hlt1 hg1 hs1 hen=>halt_ ?_)))
     · rename World=>wa;have S12:Hid (SW b w0 (cellOb pc 216 #[.int .i64 1,.bool false,.slice SA sn sc,av,.int .i64 (len:Int)]::itOb mv r M done cnt::rowOb 31 2 av ids.length (ids.flatMap encID)::rowOb 214 1 (.slice (some ⟨lg,0,none⟩) 1 cap) 1 [vPtr pc]::ebOb (.slice SA sn sc) ys::({ x with r:=r2,s:=syncS s1,C:=updAll x.C done,wait:=x.wait-(done.length:Int) }:SR).obs l) wa):=S6;clear S6 Hleft HRI;have cl:wa.cell? ⟨lg,0,none⟩=some (vPtr pc):=lv_cell (k:=3) S12.out rfl;have c4:wa.cell? ⟨pc,4,none⟩=some (.int .i64 (len:Int)):=(S12.out.cell 0 rfl).cell 4;have q4:((len:Int)==0)=false:=by simpa using hlen
       obtain ⟨F,HXF⟩:∃ F,Hid (x.F=F):=⟨_,rfl⟩;rw [HXF.out] at HCL;cases F with
       | none=>
        have S13:Hid (SW b w0 (cellOb pc 216 #[.int .i64 1,.bool false,.slice SA sn sc,av,.int .i64 (len:Int)]::itOb mv r M done cnt::rowOb 31 2 av ids.length (ids.flatMap encID)::rowOb 214 1 (.slice (some ⟨lg,0,none⟩) 1 cap) 1 [vPtr pc]::ebOb (.slice SA sn sc) ys::({ x with r:=r2,s:=syncS s1,C:=updAll x.C done,wait:=x.wait-(done.length:Int),F:=none }:SR).obs l) wa):=by
         rw [Hid, <- HXF.out];exact S12.out
        clear S12;go_wp2_with fail
        refine wp_loop_rounds 2 ?_;rw [rounds_succ];go_upto_region 23 with fail
        refine wp_region_held_tail [(0,true),(1,true),(2,true),(3,true),(4,true),(5,true),(6,true),(7,true),(8,true)] (SW b w0 (cellOb pc 216 #[.int .i64 1,.bool false,.slice SA sn sc,av,.int .i64 (len:Int)]::itOb mv r M done cnt::rowOb 31 2 av ids.length (ids.flatMap encID)::rowOb 214 1 (.slice (some ⟨lg,0,none⟩) 1 cap) 1 [vPtr pc]::ebOb (.slice SA sn sc) ys::({ x with r:=r2,s:=syncS s1,C:=updAll x.C done,wait:=x.wait-(done.length:Int),F:=none }:SR).obs l)) (by kernel_rfl) (fun _ _ d _ _ h=>by cases d<;>exact h) (by kernel_rfl) S13.out.drew ?_;simp only [pk_];have S13d:=hid S13.out.drew;generalize wa.drew=W8 at S13d |-
        have HC:=hid (fun (w':World) (h:SW b w0 (cellOb pc 216 #[.int .i64 1,.bool false,.slice SA sn sc,av,.int .i64 (len:Int)]::itOb mv r M done cnt::rowOb 31 2 av ids.length (ids.flatMap encID)::rowOb 214 1 (.slice (some ⟨lg,0,none⟩) 1 cap) 1 [vPtr pc]::ebOb (.slice SA sn sc) ys::({ x with r:=r2,s:=syncS s1,C:=updAll x.C done,wait:=x.wait-(done.length:Int),F:=none }:SR).obs l) w')=>(⟨(h.cell 6 rfl).cell 3,(h.cell 0 rfl).cell 0,look_f0 (h.get 8 (o:=flOb x.fm none) rfl).1 rfl⟩:w'.cell? ⟨x.ps,3,none⟩=some (.map (some x.fm))/\w'.cell? ⟨pc,0,none⟩=some (.int .i64 1)/\(Instr.lookup 129 (.map (some x.fm)) (.int .i64 1) false).run Tryz.prog w'= .ok (.pointer none) w'))
        iterate 9
         (refine wpHeld_take (v:=?_) (Or.inl ⟨by rfl,?_⟩) ?_
          rotate_left
          · (intro w' hSw;obtain ⟨h1,h2,h3⟩:=HC.out w' hSw;go_simp;try with_reducible rfl)
          try simp only [Act.put,zB,List.set])
        refine wpHeld_nil ?_;simp only [dz_];clear HC S13;have hmk:(Instr.makeMap 143 none).run Tryz.prog W8= .ok (.map (some W8.heap.size)) (W8.alloc (.map #[] 0)):=by simp [Instr.makeMap,run_underlying Tryz.underlying143]
        go_upto_region 26 with fail
        have S14:=hid (((S13d.out.alloc (.map #[] 0)).alloc (.cells #[.int .i64 0,.bool true,.map (some W8.heap.size)] 145)).drew);obtain ⟨W10,HW10⟩:∃ W10,Hid ((((W8.alloc (.map #[] 0)).alloc (.cells #[.int .i64 0,.bool true,.map (some W8.heap.size)] 145)).drew)=W10):=⟨_,rfl⟩;refine wp_region_held_tail [(0,true),(1,true),(2,true),(3,true),(4,true),(5,true),(6,true),(7,true),(8,true)] (SW b w0 (cellOb pc 216 #[.int .i64 1,.bool false,.slice SA sn sc,av,.int .i64 (len:Int)]::itOb mv r M done cnt::rowOb 31 2 av ids.length (ids.flatMap encID)::rowOb 214 1 (.slice (some ⟨lg,0,none⟩) 1 cap) 1 [vPtr pc]::ebOb (.slice SA sn sc) ys::({ x with r:=r2,s:=syncS s1,C:=updAll x.C done,wait:=x.wait-(done.length:Int),F:=none }:SR).obs l)) (by kernel_rfl) (fun _ _ d _ _ h=>by cases d<;>exact h) (by kernel_rfl) S14.out ?_;simp only [pk_];rw [HW10.out] at S14 |-
        have HC:=hid (fun (w':World) (h:SW b w0 (cellOb pc 216 #[.int .i64 1,.bool false,.slice SA sn sc,av,.int .i64 (len:Int)]::itOb mv r M done cnt::rowOb 31 2 av ids.length (ids.flatMap encID)::rowOb 214 1 (.slice (some ⟨lg,0,none⟩) 1 cap) 1 [vPtr pc]::ebOb (.slice SA sn sc) ys::({ x with r:=r2,s:=syncS s1,C:=updAll x.C done,wait:=x.wait-(done.length:Int),F:=none }:SR).obs l) w')=>(⟨(h.cell 6 rfl).cell 3,(h.cell 0 rfl).cell 0⟩:w'.cell? ⟨x.ps,3,none⟩=some (.map (some x.fm))/\w'.cell? ⟨pc,0,none⟩=some (.int .i64 1)))
        iterate 9
         (refine wpHeld_take (v:=?_) (Or.inl ⟨by rfl,?_⟩) ?_
          rotate_left
          · (intro w' hSw;obtain ⟨h1,h2⟩:=HC.out w' hSw;go_simp;try with_reducible rfl)
          try simp only [Act.put,zB,List.set])
        refine wpHeld_nil ?_;simp only [dz_];clear HC hmk;obtain ⟨w11,hu,hm11,hg11,hz11⟩:=MapIs.update mkN Tryz.underlying129 (S14.out.get 8 (o:=flOb x.fm none) rfl).1 okN1 (W8.heap.size+1);have hu':(Instr.mapUpdate 129 (.map (some x.fm)) (.int .i64 1) (.pointer (some ⟨W8.heap.size+1,0,none⟩))).run Tryz.prog W10= .ok () w11:=hu;have S15:=hid (S13d.out.newFile 8 (w2:=w11) rfl hm11 (by rw [<- HW10.out] at hg11;exact ⟨hg11.os,hg11.tape,hg11.output,hg11.size,hg11.block⟩));clear hu hm11 hg11 hz11 S14 S13d HW10 cl c4;have c4':w11.cell? ⟨pc,4,none⟩=some (.int .i64 (len:Int)):=(S15.out.cell 0 rfl).cell 4;have cf:w11.cell? ⟨W8.heap.size+1,0,none⟩=some (.int .i64 0):=((S15.out.get 8 (o:=flOb x.fm (some ⟨W8.heap.size+1,W8.heap.size,0,true,[]⟩)) rfl).2 _ rfl).1.cell 0;have cz:w11.frozen? ⟨W8.heap.size+1,0,none⟩=false:=((S15.out.get 8 (o:=flOb x.fm (some ⟨W8.heap.size+1,W8.heap.size,0,true,[]⟩)) rfl).2 _ rfl).1.frozen 0;have S16:=hid (S15.out.fileLen 8 rfl len);clear S15;go_wp2_with fail
        rw [rounds_succ];go_wp2_with fail
        go_ret;unfold CarryPost;simp only;rw [HOP.out,HM.out];refine ⟨n,r2,HCN.out,0,rfl,.inr (.inr ⟨rfl,by rw [HE1.out,H0.out],by rw [HS1.out,HE2.out,H2.out],done,⟨W8.heap.size+1,W8.heap.size,len,true,[]⟩,hp,rfl,rfl,?_,?_⟩)⟩
        · rw [HXF.out]
        rw [HS1.out];exact S16.out.tail.tail.tail.tail.tail
       | some f=>
        have hfc:f.clean=true:=HCL.out f rfl
        have S13:Hid (SW b w0 (cellOb pc 216 #[.int .i64 1,.bool false,.slice SA sn sc,av,.int .i64 (len:Int)]::itOb mv r M done cnt::rowOb 31 2 av ids.length (ids.flatMap encID)::rowOb 214 1 (.slice (some ⟨lg,0,none⟩) 1 cap) 1 [vPtr pc]::ebOb (.slice SA sn sc) ys::({ x with r:=r2,s:=syncS s1,C:=updAll x.C done,wait:=x.wait-(done.length:Int),F:=some f }:SR).obs l) wa):=by
         rw [Hid, <- HXF.out];exact S12.out
        clear S12;go_wp2_with fail
        refine wp_loop_rounds 2 ?_;rw [rounds_succ];go_upto_region 23 with fail
        refine wp_region_held_tail [(0,true),(1,true),(2,true),(3,true),(4,true),(5,true),(6,true),(7,true),(8,true)] (SW b w0 (cellOb pc 216 #[.int .i64 1,.bool false,.slice SA sn sc,av,.int .i64 (len:Int)]::itOb mv r M done cnt::rowOb 31 2 av ids.length (ids.flatMap encID)::rowOb 214 1 (.slice (some ⟨lg,0,none⟩) 1 cap) 1 [vPtr pc]::ebOb (.slice SA sn sc) ys::({ x with r:=r2,s:=syncS s1,C:=updAll x.C done,wait:=x.wait-(done.length:Int),F:=some f }:SR).obs l)) (by kernel_rfl) (fun _ _ d _ _ h=>by cases d<;>exact h) (by kernel_rfl) S13.out.drew ?_;simp only [pk_];have S13d:=hid S13.out.drew;generalize wa.drew=W8 at S13d |-
        have HC:=hid (fun (w':World) (h:SW b w0 (cellOb pc 216 #[.int .i64 1,.bool false,.slice SA sn sc,av,.int .i64 (len:Int)]::itOb mv r M done cnt::rowOb 31 2 av ids.length (ids.flatMap encID)::rowOb 214 1 (.slice (some ⟨lg,0,none⟩) 1 cap) 1 [vPtr pc]::ebOb (.slice SA sn sc) ys::({ x with r:=r2,s:=syncS s1,C:=updAll x.C done,wait:=x.wait-(done.length:Int),F:=some f }:SR).obs l) w')=>(⟨(h.cell 6 rfl).cell 3,(h.cell 0 rfl).cell 0,look_f1 (h.get 8 (o:=flOb x.fm (some f)) rfl).1 rfl⟩:w'.cell? ⟨x.ps,3,none⟩=some (.map (some x.fm))/\w'.cell? ⟨pc,0,none⟩=some (.int .i64 1)/\(Instr.lookup 129 (.map (some x.fm)) (.int .i64 1) false).run Tryz.prog w'= .ok (vPtr f.fb) w'))
        iterate 9
         (refine wpHeld_take (v:=?_) (Or.inl ⟨by rfl,?_⟩) ?_
          rotate_left
          · (intro w' hSw;obtain ⟨h1,h2,h3⟩:=HC.out w' hSw;go_simp;try with_reducible rfl)
          try simp only [Act.put,zB,List.set])
        refine wpHeld_nil ?_;simp only [dz_];clear HC S13;have c1:W8.cell? ⟨pc,1,none⟩=some (.bool false):=(S13d.out.cell 0 rfl).cell 1;have c4':W8.cell? ⟨pc,4,none⟩=some (.int .i64 (len:Int)):=(S13d.out.cell 0 rfl).cell 4;have cf:W8.cell? ⟨f.fb,0,none⟩=some (.int .i64 (f.len:Int)):=((S13d.out.get 8 (o:=flOb x.fm (some f)) rfl).2 f rfl).1.cell 0;have cz:W8.frozen? ⟨f.fb,0,none⟩=false:=((S13d.out.get 8 (o:=flOb x.fm (some f)) rfl).2 f rfl).1.frozen 0;have S14:=hid (S13d.out.fileLen 8 rfl len);clear S13d cl c4;go_wp2_with fail
        rw [rounds_succ];go_wp2_with fail
        go_ret;unfold CarryPost;simp only;rw [HOP.out,HM.out];refine ⟨n,r2,HCN.out,0,rfl,.inr (.inr ⟨rfl,by rw [HE1.out,H0.out],by rw [HS1.out,HE2.out,H2.out],done,{ f with len:=len },hp,rfl,hfc,?_,?_⟩)⟩
        · rw [HXF.out]
        rw [HS1.out];exact S14.out.tail.tail.tail.tail.tail
     obtain ⟨o,rfl⟩:∃ o,pl=Pl.at o:=HMK.out.1 _ hc1;have hmem:i∈ids:=(HMK.out.2 i).1 (List.mem_map.2 ⟨_,hc1,rfl⟩);obtain ⟨⟨dA,dn,dc⟩,bs,hai,hi2,hch,hok,hi0,hi1⟩:=HIDS.out i hmem;have S7:=hid (S6.out.next 1 rfl hrg1 hg1);have hdl:done.length<=1048576:=Nat.le_trans HRI.out.len hml
     have hac:asc (updAll x.C done) i=some (.pend ⟨dA,dn,dc⟩ bs):=by
      have hk:=hrg1.keysN;rw [List.map_append,List.nodup_append] at hk;rw [updAll_asc _ _ hk.1,asc_none (fun c hc e=>hk.2.2 c.1 (List.mem_map.2 ⟨c,hc,rfl⟩) i (by simp) e)];exact hai
     have hrb:=(S7.out.get 7 (o:=chOb x.cm (updAll x.C done)) rfl).2 i ⟨dA,dn,dc⟩ bs (mem_of_asc hac)
     have hdA:∃ ad,dA=some ad:=by
      cases dA with
      | some ad=>exact ⟨ad,rfl⟩
      | none=>
       have:=hrb.1.1;have:=hrb.1.2.1;have:=hrb.1.2.2.1 rfl;omega
     obtain ⟨ad,rfl⟩:=hdA;have HAC:=hid hac;have HOK:=hid hok;have hfd:=fun W=>field138 (some ad) dn dc 0 0 W;have Hlt:=hid hlt1;have S8:Hid (SW b w0 (cellOb (w5.heap.size+1) 138 #[.slice none 0 0,.int .i64 1,.int .i64 (o:Int)]::cellOb w5.heap.size 31 #[.int .u64 i.1,.int .i64 i.2]::cellOb pc 216 #[.int .i64 1,.bool false,.slice SA sn sc,av,.int .i64 (len:Int)]::itOb mv r M (done++[(i,.at o)]) cnt1::rowOb 31 2 av ids.length (ids.flatMap encID)::rowOb 214 1 (.slice (some ⟨lg,0,none⟩) 1 cap) 1 [vPtr pc]::ebOb (.slice SA sn sc) ys::({ x with r:=r2,s:=syncS s1,C:=updAll x.C done,wait:=x.wait-(done.length:Int) }:SR).obs l) ((w5.alloc (.cells #[.int .u64 i.1,.int .i64 i.2] 31)).alloc (.cells #[.slice none 0 0,.int .i64 1,.int .i64 (o:Int)] 138))):=(S7.out.newCell 31 _).newCellAt 138 _ (by simp);simp only [Pl.A,Pl.len,Pl.cap,Pl.f,Pl.o] at hen;clear hc1 hmem hai hi2 hch hi0 hi1 hrg1 hlt1 hg1 hs1 hac hrb hok S6 S7 HRI;refine hid ?_;go_upto_region 15 with fail
     refine wp_region_held_tail [(0,true),(1,true),(2,true),(3,true),(4,true),(5,true),(6,true)] (SW b w0 (cellOb (w5.heap.size+1) 138 #[.slice none 0 0,.int .i64 1,.int .i64 (o:Int)]::cellOb w5.heap.size 31 #[.int .u64 i.1,.int .i64 i.2]::cellOb pc 216 #[.int .i64 1,.bool false,.slice SA sn sc,av,.int .i64 (len:Int)]::itOb mv r M (done++[(i,.at o)]) cnt1::rowOb 31 2 av ids.length (ids.flatMap encID)::rowOb 214 1 (.slice (some ⟨lg,0,none⟩) 1 cap) 1 [vPtr pc]::ebOb (.slice SA sn sc) ys::({ x with r:=r2,s:=syncS s1,C:=updAll x.C done,wait:=x.wait-(done.length:Int) }:SR).obs l)) (by kernel_rfl) (fun _ _ d _ _ h=>by cases d<;>exact h) (by kernel_rfl) S8.out.drew ?_;simp only [pk_];have S9:=hid S8.out.drew;clear S8;generalize ((w5.alloc (.cells #[.int .u64 i.1,.int .i64 i.2] 31)).alloc (.cells #[.slice none 0 0,.int .i64 1,.int .i64 (o:Int)] 138)).drew=W5 at S9 |-
     have HC:=hid (fun (w':World) (h:SW b w0 (cellOb (w5.heap.size+1) 138 #[.slice none 0 0,.int .i64 1,.int .i64 (o:Int)]::cellOb w5.heap.size 31 #[.int .u64 i.1,.int .i64 i.2]::cellOb pc 216 #[.int .i64 1,.bool false,.slice SA sn sc,av,.int .i64 (len:Int)]::itOb mv r M (done++[(i,.at o)]) cnt1::rowOb 31 2 av ids.length (ids.flatMap encID)::rowOb 214 1 (.slice (some ⟨lg,0,none⟩) 1 cap) 1 [vPtr pc]::ebOb (.slice SA sn sc) ys::({ x with r:=r2,s:=syncS s1,C:=updAll x.C done,wait:=x.wait-(done.length:Int) }:SR).obs l) w')=>(⟨(h.cell 8 rfl).cell 2,(h.cell 1 rfl).cell 0,(h.cell 1 rfl).cell 1,look_pend (h.get 9 (o:=chOb x.cm (updAll x.C done)) rfl).1 HOK.out HAC.out⟩:w'.cell? ⟨x.ps,2,none⟩=some (.map (some x.cm))/\w'.cell? ⟨w5.heap.size,0,none⟩=some (.int .u64 i.1)/\w'.cell? ⟨w5.heap.size,1,none⟩=some (.int .i64 i.2)/\(Instr.lookup 128 (.map (some x.cm)) (.agg #[.int .u64 i.1,.int .i64 i.2]) false).run Tryz.prog w'= .ok (.agg #[.slice (some ad) dn dc,.int .i64 0,.int .i64 0]) w'))
     iterate 7
      (refine wpHeld_take (v:=?_) (Or.inl ⟨by rfl,?_⟩) ?_
       rotate_left
       · (intro w' hSw;obtain ⟨h1,h2,h3,h4⟩:=HC.out w' hSw;go_simp;try with_reducible rfl)
       try simp only [Act.put,zB,List.set])
     refine wpHeld_nil ?_;simp only [dz_];clear HC hfd;have k4:W5.cell? ⟨x.ps,4,none⟩=some (.int .i64 (x.wait-(done.length:Int))):=(S9.out.cell 8 rfl).cell 4;have kz:W5.frozen? ⟨x.ps,4,none⟩=false:=(S9.out.cell 8 rfl).frozen 4;have hsum1:IntKind.i64.wrap (x.wait-(done.length:Int)-1)=x.wait-(done.length:Int)-1:=IntWalk.i64_in _ (by omega);go_upto_region 17 with fail
     clear k4 kz hsum1;obtain ⟨wt,Hwt⟩:∃ wt,Hid (x.wait-(done.length:Int)-1=wt):=⟨_,rfl⟩;rw [Hwt.out];have S10:Hid (SW b w0 (cellOb (w5.heap.size+1) 138 #[.slice none 0 0,.int .i64 1,.int .i64 (o:Int)]::cellOb w5.heap.size 31 #[.int .u64 i.1,.int .i64 i.2]::cellOb pc 216 #[.int .i64 1,.bool false,.slice SA sn sc,av,.int .i64 (len:Int)]::itOb mv r M (done++[(i,.at o)]) cnt1::rowOb 31 2 av ids.length (ids.flatMap encID)::rowOb 214 1 (.slice (some ⟨lg,0,none⟩) 1 cap) 1 [vPtr pc]::ebOb (.slice SA sn sc) ys::({ x with r:=r2,s:=syncS s1,C:=updAll x.C done,wait:=wt }:SR).obs l) (W5.setCell ⟨x.ps,4,none⟩ (.int .i64 wt)).drew):=(S9.out.setAt 8 rfl 4 (.int .i64 wt)).drew;clear S9;refine wp_region_held_tail [(0,true),(1,true),(2,true),(3,true),(4,true),(5,true)] (SW b w0 (cellOb (w5.heap.size+1) 138 #[.slice none 0 0,.int .i64 1,.int .i64 (o:Int)]::cellOb w5.heap.size 31 #[.int .u64 i.1,.int .i64 i.2]::cellOb pc 216 #[.int .i64 1,.bool false,.slice SA sn sc,av,.int .i64 (len:Int)]::itOb mv r M (done++[(i,.at o)]) cnt1::rowOb 31 2 av ids.length (ids.flatMap encID)::rowOb 214 1 (.slice (some ⟨lg,0,none⟩) 1 cap) 1 [vPtr pc]::ebOb (.slice SA sn sc) ys::({ x with r:=r2,s:=syncS s1,C:=updAll x.C done,wait:=wt }:SR).obs l)) (by kernel_rfl) (fun _ _ d _ _ h=>by cases d<;>exact h) (by kernel_rfl) S10.out ?_
     simp only [pk_];generalize (W5.setCell ⟨x.ps,4,none⟩ (.int .i64 wt)).drew=W6 at S10 |-; have HC:=hid (fun (w':World) (h:SW b w0 (cellOb (w5.heap.size+1) 138 #[.slice none 0 0,.int .i64 1,.int .i64 (o:Int)]::cellOb w5.heap.size 31 #[.int .u64 i.1,.int .i64 i.2]::cellOb pc 216 #[.int .i64 1,.bool false,.slice SA sn sc,av,.int .i64 (len:Int)]::itOb mv r M (done++[(i,.at o)]) cnt1::rowOb 31 2 av ids.length (ids.flatMap encID)::rowOb 214 1 (.slice (some ⟨lg,0,none⟩) 1 cap) 1 [vPtr pc]::ebOb (.slice SA sn sc) ys::({ x with r:=r2,s:=syncS s1,C:=updAll x.C done,wait:=wt }:SR).obs l) w')=>(⟨(h.cell 8 rfl).cell 2,(h.cell 1 rfl).cell 0,(h.cell 1 rfl).cell 1,(h.cell 0 rfl).cell 0,(h.cell 0 rfl).cell 1,(h.cell 0 rfl).cell 2⟩:w'.cell? ⟨x.ps,2,none⟩=some (.map (some x.cm))/\w'.cell? ⟨w5.heap.size,0,none⟩=some (.int .u64 i.1)/\w'.cell? ⟨w5.heap.size,1,none⟩=some (.int .i64 i.2)/\w'.cell? ⟨w5.heap.size+1,0,none⟩=some (.slice none 0 0)/\w'.cell? ⟨w5.heap.size+1,1,none⟩=some (.int .i64 1)/\w'.cell? ⟨w5.heap.size+1,2,none⟩=some (.int .i64 (o:Int))))
     iterate 6
      (refine wpHeld_take (v:=?_) (Or.inl ⟨by rfl,?_⟩) ?_
       rotate_left
       · (intro w' hSw;obtain ⟨h1,h2,h3,h4,h5,h6⟩:=HC.out w' hSw;go_simp;try with_reducible rfl)
       try simp only [Act.put,zB,List.set])
     refine wpHeld_nil ?_;simp only [dz_];clear HC;obtain ⟨w7,hu,hm7,hg7,hz7⟩:=MapIs.update mkI Tryz.underlying128 (S10.out.get 9 (o:=chOb x.cm (updAll x.C done)) rfl).1 HOK.out (Pl.at o);have hu':(Instr.mapUpdate 128 (.map (some x.cm)) (.agg #[.int .u64 i.1,.int .i64 i.2]) (.agg #[.slice none 0 0,.int .i64 1,.int .i64 (o:Int)])).run Tryz.prog W6= .ok () w7:=hu;have S11:=hid (S10.out.note 9 (cm:=x.cm) (C:=updAll x.C done) rfl hm7 hg7).tail.tail;clear hu hm7 hg7 hz7 S10;go_wp2_with fail
     go_roundw
     case rel=>
      refine ⟨done++[(i,.at o)],cnt1,?_⟩;rw [updAll_snoc]
      have e1:x.wait-(((done++[(i,Pl.at o)]).length:Nat):Int)=wt:=by
       rw [<- Hwt.out];simp;omega
      rw [e1];exact S11.out
     have h1:RIs okID vID vPl w7 mv r M (done++[(i,Pl.at o)]) cnt1:=S11.out.get 1 rfl;rw [h1.left_eq,Hleft.out];exact Hlt.out
   have q2:(E2 !=0)=true:=by simpa using h2
   have H2:=hid h2;clear h2;have kd:w3.cell? ⟨x.ps,6,none⟩=some (.bool x.dead):=(S5.out.cell 6 rfl).cell 6;have kz:w3.frozen? ⟨x.ps,6,none⟩=false:=(S5.out.cell 6 rfl).frozen 6;go_wp2_with fail
   go_ret;unfold CarryPost;simp only;rw [HOP.out,HM.out];exact ⟨n,r2,HCN.out,E2,rfl,.inr (.inl ⟨H2.out,by rw [HE1.out,H0.out],by rw [HS1.out,HE2.out],by rw [HS1.out];exact (S5.out.setAt 6 rfl 6 (.bool (E2==303))).tail.tail.tail.tail.tail⟩)⟩
 have q1:(E1==0)=false:=by simpa using h0
 have q2:(E1 !=0)=true:=by simpa using h0
 have H0:=hid h0;clear h0;have kd:w2.cell? ⟨x.ps,6,none⟩=some (.bool x.dead):=(S3.out.cell 6 rfl).cell 6;have kz:w2.frozen? ⟨x.ps,6,none⟩=false:=(S3.out.cell 6 rfl).frozen 6;go_wp2_with fail
 go_ret;unfold CarryPost;simp only;rw [HOP.out,HM.out];exact ⟨n,r1,HCN.out,E1,rfl,.inl ⟨H0.out,by rw [HE1.out],by rw [HS1.out];exact (S3.out.setAt 6 rfl 6 (.bool (E1==303))).tail.tail.tail.tail.tail⟩⟩
structure WH (x:SR):Prop extends WF x where
 whole:∀ f,x.F=some f->f.clean=true
 own:∀ i d bs,(i,Pl.pend d bs)∈x.C->i=fpOf bs/\bs.length<=8192
 ops:x.s.ops.length<=900000
 files:∀ n,Cnt x.s.now n->n<=200
 ids8:∀ c∈x.C,1<=c.1.2/\c.1.2<=8192
 wait0:0<=x.wait
 wait1:x.wait<=1099511627776
theorem pends_mem {C:Chs} {i:ID} (h:i∈pends C):∃ d bs,(i,Pl.pend d bs)∈C:=by
 unfold pends at h;obtain ⟨c,hc,rfl⟩:=List.mem_map.1 h;obtain ⟨h1,h2⟩:=List.mem_filter.1 hc;obtain ⟨i,pl⟩:=c;cases pl with
 | pend d bs=>exact ⟨d,bs,h1⟩
 | «at» o=>simp [Pl.A] at h2
def FlushPost (b:Nat) (x:SR) (l:List Ob) (w:World) (e:Ending) (w':World):Prop:=
 ∃ q:CFS,q.ids.Perm (pends x.C)/\SortedI q.ids/\q.len=flen x.F+frSum q.ids/\CarryPost b w q x l e w'
theorem Flush_idle {b:Nat} {w:World} {x:SR} {l:List Ob} (h:Sto b w x l) (hl:x.dead=false) (hd:x.s.dn=false) (h0:x.wait=0):Calls Tryz.prog 35 #[vPtr x.ps] w (fun e w'=>e= .returned (.int .i64 0)/\w=w'):=by
 have HRD:=hid (ready_live h hl hd);have k4:w.cell? ⟨x.ps,4,none⟩=some (.int .i64 0):=by rw [<- h0];exact h.scell.cell 4
 clear h hl hd h0;go_enter Tryz.func35,Tryz.ntmps35;go_wp2_with (go_at_call 84;(with_reducible refine HRD.out.mono ?_);rintro e w1 ⟨rfl,rfl⟩)
 go_ret;exact ⟨rfl,rfl⟩
theorem Flush_any {b:Nat} {w:World} {x:SR} {l:List Ob} (h:Sto b w x l) (hw:WH x) (h0:x.wait≠0) (hp:pends x.C≠[]) (hp2:(pends x.C).length<=49) (hsum:flen x.F+frSum (pends x.C)<=1048576):Calls Tryz.prog 35 #[vPtr x.ps] w (FlushPost b x l w):=by
 have HRD:=hid (ready_live h hw.live hw.up);have k4:w.cell? ⟨x.ps,4,none⟩=some (.int .i64 x.wait):=h.scell.cell 4;have hq:(x.wait==0)=false:=by simpa using h0
 have hid8:∀ c∈x.C,1<=c.1.2/\c.1.2<=8192:=hw.ids8;have HPL:=hid (planFlush_any h hw.whole hw.few hid8 hp hp2 hsum);have H:=hid h;have HW:=hid hw;have HS:=hid hsum;have HP:=hid hp;clear h hw h0 hp hp2 hsum hid8;go_enter Tryz.func35,Tryz.ntmps35;go_wp2_with (first | (go_at_call 84;(with_reducible refine HRD.out.mono ?_);rintro e w1 ⟨rfl,rfl⟩) | (go_at_call 93;(with_reducible refine HPL.out.mono ?_);refine halt_ ?_))
 rintro e w1 ⟨lg,cap,pc,av,SA,sn,sc,ys,ids,rfl,hperm,hsrt,hnw,hs1⟩;have hw:=HW.out;have hri:∀ i,(ebOb (.slice SA sn sc) ys).rd i->w.heap.size<=i:=hnw
 have hj:=Sep.join H.out hs1.2 hs1.1 (fun o ho i hi=>by
  simp only [List.mem_cons,List.not_mem_nil,or_false] at ho;rcases ho with rfl | rfl | rfl | rfl
  · exact hi.elim
  · exact hi.elim
  · exact hi.elim
  exact hri i hi)
 obtain ⟨q,Hq⟩:∃ q:CFS,Hid (q=⟨pc,SA,sn,sc,av,flen x.F+frSum ids,ids,lg,cap,ys⟩):=⟨_,rfl⟩
 have hsw:SW b w (q.obs (x.obs l)) w1:=by
  rw [Hq.out];exact ⟨hj,hs1.2.mono H.out.base⟩
 have hne:0<ids.length:=by
  rw [hperm.length_eq];exact List.length_pos_iff.2 HP.out
 have hlen0:0<frSum ids:=Nat.lt_of_lt_of_le hne (len_le_frSum ids)
 have hle:flen x.F+frSum ids<=1048576:=by
  rw [frSum_perm hperm];exact HS.out
 have hC:=hw.few;have hops:=hw.ops
 have HCA:=hid (carry_any hsw (by rw [Hq.out];simp only;omega) (by rw [Hq.out];exact hle) hw.whole hw.name (fun i hi=>by
  rw [Hq.out] at hi;obtain ⟨d,bs,hm⟩:=pends_mem (hperm.mem_iff.1 hi);obtain ⟨he,hb⟩:=hw.own i d bs hm;have hlt:=fpSum_lt bs;unfold pP at hlt;refine ⟨d,bs,asc_mem H.out.sch.nodup hm,by rw [he];rfl,hb,by rw [he];exact okID_fp bs (by omega),?_,?_⟩
  · rw [he];simp [fpOf]
  rw [he];simp only [fpOf];omega) (by rw [Hq.out];exact hne) (by rw [Hq.out];exact hle) (by omega) hw.files hw.wait0 hw.wait1 (by omega))
 have HPR:=hid hperm;have HSR:=hid hsrt;have hlv:q.lv= .slice (some ⟨lg,0,none⟩) 1 cap:=by rw [Hq.out]
 rw [hlv] at HCA;clear hs1 hj hsw hw hri hnw hperm hsrt hle hlen0 hne hC hops hlv;go_wp2_with (go_at_call 88;(with_reducible refine HCA.out.mono ?_);refine halt_ ?_)
 intro e w2 hc;have HC:=hid hc;obtain ⟨n,r',hcn,E,rfl,_⟩:=hc;clear hcn;go_wp2_with fail
 go_ret;exact ⟨q,by rw [Hq.out];exact HPR.out,by rw [Hq.out];exact HSR.out,by rw [Hq.out],HC.out⟩
end
end Go.Proofs.YteabgcollokgjaaGreatDoor
