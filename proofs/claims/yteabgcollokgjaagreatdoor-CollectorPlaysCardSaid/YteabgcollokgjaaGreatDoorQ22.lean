/- RG in one text. -/
import Derived.Test.YteabgcollokgjaaGreatDoorQ21
set_option linter.unusedSimpArgs false
set_option linter.unusedVariables false
set_option maxRecDepth 100000
set_option maxHeartbeats 32000000
open Go.Lib (hid)
namespace Go.Proofs.YteabgcollokgjaaGreatDoor
section
open Go.RowKit Go.MapKept Go.ChangeMaps Go.Shelf Go.Sort
theorem SW.delFile {b:Nat} {w0 w w2:World} {l:List Ob} (h:SW b w0 l w) (k:Nat) {fm:Nat} {f:FR} (hk:l[k]? =some (flOb fm (some f))) (hm:MapIs okN vN vPtr w2 fm []) (hg:w.grownBy w2 (some fm)):SW b w0 (l.set k (flOb fm none)) w2:=by
 have:=h.1.stepAt k hk (w':=w2) (o':=flOb fm none) (Fr.grown hg (Or.inl rfl) (fun i hi=>by
  rcases hi with hi | ⟨_,e,_⟩
  · exact .inl (.inl hi)
  · cases e)) (fun i hi=>hi.elim) ⟨hm,fun _ e=>by cases e⟩ (fun i hi=>by
  rcases hi with (hi | ⟨_,e,_⟩) | hi
  · rw [hi];exact hm.lt
  · cases e
  exact hi.elim)
 exact ⟨this.1,h.2.trans this.2⟩
theorem carry_nil (v:Value) (w:World):Calls Tryz.prog 88 #[v,.slice none 0 0] w (fun e w'=>e= .returned (.int .i64 0)/\w=w'):=by
 go_enter Tryz.func88,Tryz.ntmps88;go_wp2_with fail
 go_ret;exact ⟨rfl,rfl⟩
def CarryDel (b:Nat) (w0:World) (x:SR) (l:List Ob) (e:Ending) (w':World):Prop:=
 ∃ n r',Cnt x.s.now n/\∃ E,e= .returned (.int .i64 E)/\
  ((E≠0/\E=reqE x.s n (delOp x.nm)/\SW b w0 (({ x with r:=r',s:=reqS x.s n (delOp x.nm),dead:=E==303 }:SR).obs l) w')∨
   (E≠0/\reqE x.s n (delOp x.nm)=0/\E=syncE (reqS x.s n (delOp x.nm))/\SW b w0 (({ x with r:=r',s:=syncS (reqS x.s n (delOp x.nm)),dead:=E==303 }:SR).obs l) w')∨
   (E=0/\reqE x.s n (delOp x.nm)=0/\syncE (reqS x.s n (delOp x.nm))=0/\SW b w0 (({ x with r:=r',s:=syncS (reqS x.s n (delOp x.nm)),F:=none }:SR).obs l) w'))
theorem carryDel_any {b:Nat} {w0 w:World} {q:RFS} {x:SR} {l:List Ob} (h:SW b w0 (q.obs (x.obs l)) w) (hlen:q.len=0) (hF:∃ f,x.F=some f) (hnm:x.nm.size<=1000) (hL:x.s.ops.length<=999990) (hcn:∀ n,Cnt x.s.now n->n<=200):
 Calls Tryz.prog 88 #[vPtr x.ps,q.lv] w (CarryDel b w0 x l):=by
 obtain ⟨pc,sv,len,xs,lg,cap⟩:=q;simp only at hlen;subst hlen;have H:=hid h;have HCR:=hid (crowded_any (l:=l) (h.1.sub (by simp only [RFS.obs];exact ((List.sublist_cons_self _ _).trans ((List.sublist_cons_self _ _).trans (List.sublist_cons_self _ _))))) lg cap pc true 0 (lv_cell (k:=2) h rfl) ((h.cell 0 rfl).cell 0) ((h.cell 0 rfl).cell 1) ((h.cell 0 rfl).cell 4) hnm hcn);obtain ⟨f,hF⟩:=hF;have HF:=hid hF;clear h hcn hF;show Calls Tryz.prog 88 #[vPtr x.ps,.slice (some ⟨lg,0,none⟩) 1 cap] w _;go_enter Tryz.func88,Tryz.ntmps88;go_upto_region 5 with (go_at_call 135;(with_reducible refine HCR.out.mono ?_);rintro e w1 ⟨rfl,hb1⟩)
 have S1:=hid (H.out.on hb1);have hmk:(Instr.makeMap 128 none).run Tryz.prog w1= .ok (.map (some w1.heap.size)) (w1.alloc (.map #[] 0)):=by simp [Instr.makeMap,run_underlying Tryz.underlying128]
 have HWR:=hid (writeDel_any (q:=⟨pc,sv,0,xs,lg,cap⟩) S1.out.newMap rfl hnm (by omega));clear hb1 HCR H S1;generalize hmv:w1.heap.size=mv at HWR hmk;clear hmv;go_upto_if 24 with (go_at_call 136;(with_reducible refine HWR.out.mono ?_);refine halt_ ?_)
 rintro e w2 ⟨n,r1,hcn,rfl,hs2⟩;have HCN:=hid hcn;obtain ⟨E1,HE1⟩:∃ E1,Hid (reqE x.s n (delOp x.nm)=E1):=⟨_,rfl⟩;rw [HE1.out];obtain ⟨s1,HS1⟩:∃ s1,Hid (reqS x.s n (delOp x.nm)=s1):=⟨_,rfl⟩;rw [HS1.out] at hs2
 have hops:s1.ops.length<=1000000:=by
  rw [<- HS1.out];have:=reqS_ops x.s n (delOp x.nm);omega
 have S3:Hid (SW b w0 (chOb mv []::(⟨pc,sv,0,xs,lg,cap⟩:RFS).obs (({ x with r:=r1,s:=s1 }:SR).obs l)) w2):=hs2;clear hs2 hcn HWR hmk;by_cases h0:E1=0
 · have q1:(E1==0)=true:=by simpa using h0
   have H0:=hid h0;clear h0;have k0:w2.cell? ⟨x.ps,0,none⟩=some (vPtr x.p):=(S3.out.cell 5 rfl).cell 0;have HSY:=hid (goes_S (l:=(chOb mv []::(⟨pc,sv,0,xs,lg,cap⟩:RFS).obs (({ x with r:=r1,s:=s1 }:SR).obs l))) (k:=4) (Sync_any x.p r1 s1 w2 (S3.out.get 4 (o:=devOb x.p r1 s1) rfl) hops) S3.out.1 rfl);go_upto_if 31 with (go_at_call 137;(with_reducible refine HSY.out.mono ?_);rintro e w3 ⟨rfl,r2,hs3,hb3⟩;have S4:=hid (⟨hs3,S3.out.2.trans hb3⟩:SW b w0 _ w3);clear hs3 hb3)
   clear k0 HSY S3;have S5:Hid (SW b w0 (chOb mv []::(⟨pc,sv,0,xs,lg,cap⟩:RFS).obs (({ x with r:=r2,s:=syncS s1 }:SR).obs l)) w3):=S4.out;clear S4;obtain ⟨E2,HE2⟩:∃ E2,Hid (syncE s1=E2):=⟨_,rfl⟩;rw [HE2.out];by_cases h2:E2=0
   · have q2:(E2 !=0)=false:=by simpa using h2
     have H2:=hid h2;clear h2;have HMI:=hid (S5.out.get 0 (o:=chOb mv []) rfl).1;go_wp2_with (at_range;(with_reducible refine wpList_range_is _ rfl _ 128 rfl 31 138 Tryz.underlying128 mv [] rfl HMI.out ?_);intro w4 hrg hg hs;have RI0:=hid hrg;have S6:=hid (S5.out.on (below_of_none hg));clear hrg hg hs)
     refine wp_loop_rounds 1 ?_;rw [rounds_succ];have cl:w4.cell? ⟨lg,0,none⟩=some (vPtr pc):=lv_cell (k:=3) S6.out rfl;have c4:w4.cell? ⟨pc,4,none⟩=some (.int .i64 0):=(S6.out.cell 1 rfl).cell 4;go_wp2_with (at_next;(refine wpList_next_ch _ rfl _ rfl mv w3.heap.size [] [] 0 rfl RI0.out (fun hp=>?_) (fun i pl w5 cnt1 hc1 hrg1 hlt1 hg1 hs1 hen=>absurd hc1 (by simp))))
     refine wp_loop_rounds 2 ?_;rw [rounds_succ]
     have S7:Hid (SW b w0 (chOb mv []::(⟨pc,sv,0,xs,lg,cap⟩:RFS).obs (({ x with r:=r2,s:=syncS s1,F:=some f }:SR).obs l)) w4):=by
      rw [Hid, <- HF.out];exact S6.out
     clear S6 S5 HMI RI0;go_upto_region 22 with fail
     refine wp_region_held_tail [(0,true),(1,true),(2,true),(3,true),(4,true),(5,true),(6,true),(7,true)] (SW b w0 (chOb mv []::(⟨pc,sv,0,xs,lg,cap⟩:RFS).obs (({ x with r:=r2,s:=syncS s1,F:=some f }:SR).obs l))) (by kernel_rfl) (fun _ _ d _ _ h=>by cases d<;>exact h) (by kernel_rfl) S7.out.drew ?_;simp only [picked,List.map_cons,List.map_nil,List.getD_cons_succ,List.getD_cons_zero];have S8:=hid S7.out.drew;clear S7 cl c4;generalize w4.drew=W4 at S8 |-; have HC:=hid (fun (w':World) (h:SW b w0 (chOb mv []::(⟨pc,sv,0,xs,lg,cap⟩:RFS).obs (({ x with r:=r2,s:=syncS s1,F:=some f }:SR).obs l)) w')=>(⟨(h.cell 5 (g:=x.ps) (t:=131) rfl).cell 3,(h.cell 1 rfl).cell 0⟩:w'.cell? ⟨x.ps,3,none⟩=some (.map (some x.fm))/\w'.cell? ⟨pc,0,none⟩=some (.int .i64 1)))
     iterate 8
      (refine wpHeld_take (v:=?_) (Or.inl ⟨by rfl,?_⟩) ?_
       rotate_left
       · (intro w' hSw;obtain ⟨h1,h2⟩:=HC.out w' hSw;go_simp;try with_reducible rfl)
       try simp only [Act.put,List.setIfInBounds_toArray,List.set])
     refine wpHeld_nil ?_;simp only [List.length_cons,List.length_nil,List.drop_succ_cons,List.drop_zero];clear HC;obtain ⟨w6,hrun,hm6,hg6,hz6⟩:=MapIs.delete mkN Tryz.underlying129 (S8.out.get 7 (o:=flOb x.fm (some f)) rfl).1 okN1 3 0;have hrun':∀ ty,(Builtin.delete_ #[129,3] ty #[.map (some x.fm),.int .i64 1]).run Tryz.prog W4= .ok (.tuple #[]) w6:=fun _=>hrun;have S9:=hid (S8.out.delFile 7 (w2:=w6) rfl hm6 hg6);clear hrun hm6 hg6 hz6 S8;go_wp2_with fail
     rw [rounds_succ];go_wp2_with fail
     go_ret;exact ⟨n,r2,HCN.out,0,rfl,.inr (.inr ⟨rfl,by rw [HE1.out,H0.out],by rw [HS1.out,HE2.out,H2.out],by rw [HS1.out];exact S9.out.tail.tail.tail.tail⟩)⟩
   have q2:(E2 !=0)=true:=by simpa using h2
   have H2:=hid h2;clear h2;have kd:w3.cell? ⟨x.ps,6,none⟩=some (.bool x.dead):=(S5.out.cell 5 rfl).cell 6;have kz:w3.frozen? ⟨x.ps,6,none⟩=false:=(S5.out.cell 5 rfl).frozen 6;go_wp2_with fail
   go_ret;exact ⟨n,r2,HCN.out,E2,rfl,.inr (.inl ⟨H2.out,by rw [HE1.out,H0.out],by rw [HS1.out,HE2.out],by rw [HS1.out];exact (S5.out.setAt 5 rfl 6 (.bool (E2==303))).tail.tail.tail.tail⟩)⟩
 have q1:(E1==0)=false:=by simpa using h0
 have q2:(E1 !=0)=true:=by simpa using h0
 have H0:=hid h0;clear h0;have kd:w2.cell? ⟨x.ps,6,none⟩=some (.bool x.dead):=(S3.out.cell 5 rfl).cell 6;have kz:w2.frozen? ⟨x.ps,6,none⟩=false:=(S3.out.cell 5 rfl).frozen 6;go_wp2_with fail
 go_ret;exact ⟨n,r1,HCN.out,E1,rfl,.inl ⟨H0.out,by rw [HE1.out],by rw [HS1.out];exact (S3.out.setAt 5 rfl 6 (.bool (E1==303))).tail.tail.tail.tail⟩⟩
end
end Go.Proofs.YteabgcollokgjaaGreatDoor
