/- Q -/
import Derived.Test.YteabgcollokgjaaGreatDoorQP22
set_option linter.unusedSimpArgs false
set_option linter.unusedVariables false
set_option maxRecDepth 100000
set_option maxHeartbeats 32000000
open Go.Lib (hid)
open List renaming mem_cons_of_mem → zA,getD_eq_getElem?_getD → zB,mem_cons_self → zC,map_cons → zD,getElem?_eq_getElem → zE,length_filter_le → zF,setIfInBounds_toArray → zG
open Nat renaming le_trans → zH
namespace Go.Proofs.YteabgcollokgjaaGreatDoor
section
open Go.RowKit Go.MapKept Go.ChangeMaps Go.Shelf Go.Sort
inductive After (x:SR) (G:List (ID×Bool)):SR->Prop where
 | none:anyAt x.C G=false->After x G x
 | del (n:Nat) (r:Rp):anyAt x.C G=true->Cnt x.s.now n->reqE x.s n (delOp x.nm)=0->syncE (reqS x.s n (delOp x.nm))=0->(∀ ys:List Ent,ys.Perm (durs x.C)->stays G ys=[])->After x G { x with r:=r,s:=syncS (reqS x.s n (delOp x.nm)),F:=Option.none }
 | ren (n1 n2:Nat) (r:Rp) (ys:List Ent) (done:Chs) (f:FR):anyAt x.C G=true->ys.Perm (durs x.C)->ys.Pairwise (fun a b=>a.2<=b.2)->stays G ys≠[]->Cnt x.s.now n1->Cnt (reqS x.s n1 (crOp x.nm (rfold (readB x.s (fileN x.nm)) [] (stays G ys)).2)).now n2->
  rqE x.s x.nm n1 n2 (rfold (readB x.s (fileN x.nm)) [] (stays G ys)).2=0->syncE (rqS x.s x.nm n1 n2 (rfold (readB x.s (fileN x.nm)) [] (stays G ys)).2)=0->done.Perm (rfold (readB x.s (fileN x.nm)) [] (stays G ys)).1->f.len=entSum (stays G ys)->f.clean=true->f.T=[]->
  After x G { x with r:=r,s:=syncS (rqS x.s x.nm n1 n2 (rfold (readB x.s (fileN x.nm)) [] (stays G ys)).2),C:=updAll x.C done,wait:=x.wait-pdN x.C done,F:=some f }
inductive Fails (x:SR) (G:List (ID×Bool)):Int->SR->Prop where
 | req (n:Nat) (r:Rp) (E:Int):anyAt x.C G=true->Cnt x.s.now n->E=reqE x.s n (delOp x.nm)->E≠0->Fails x G E { x with r:=r,s:=reqS x.s n (delOp x.nm),dead:=E==303 }
 | sync (n:Nat) (r:Rp) (E:Int):anyAt x.C G=true->Cnt x.s.now n->reqE x.s n (delOp x.nm)=0->E=syncE (reqS x.s n (delOp x.nm))->E≠0->(∀ ys:List Ent,ys.Perm (durs x.C)->stays G ys=[])->Fails x G E { x with r:=r,s:=syncS (reqS x.s n (delOp x.nm)),dead:=E==303 }
 | rreq (n1 n2:Nat) (r:Rp) (ys:List Ent) (E:Int):anyAt x.C G=true->ys.Perm (durs x.C)->ys.Pairwise (fun a b=>a.2<=b.2)->Cnt x.s.now n1->Cnt (reqS x.s n1 (crOp x.nm (rfold (readB x.s (fileN x.nm)) [] (stays G ys)).2)).now n2->
  E=rqE x.s x.nm n1 n2 (rfold (readB x.s (fileN x.nm)) [] (stays G ys)).2->E≠0->Fails x G E { x with r:=r,s:=rqS x.s x.nm n1 n2 (rfold (readB x.s (fileN x.nm)) [] (stays G ys)).2,dead:=E==303 }
 | rsync (n1 n2:Nat) (r:Rp) (ys:List Ent) (E:Int):anyAt x.C G=true->ys.Perm (durs x.C)->ys.Pairwise (fun a b=>a.2<=b.2)->Cnt x.s.now n1->Cnt (reqS x.s n1 (crOp x.nm (rfold (readB x.s (fileN x.nm)) [] (stays G ys)).2)).now n2->
  rqE x.s x.nm n1 n2 (rfold (readB x.s (fileN x.nm)) [] (stays G ys)).2=0->E=syncE (rqS x.s x.nm n1 n2 (rfold (readB x.s (fileN x.nm)) [] (stays G ys)).2)->E≠0->Fails x G E { x with r:=r,s:=syncS (rqS x.s x.nm n1 n2 (rfold (readB x.s (fileN x.nm)) [] (stays G ys)).2),dead:=E==303 }
def PCPost (b:Nat) (w0:World) (x:SR) (G:List (ID×Bool)) (l:List Ob) (e:Ending) (w':World):Prop:=
 ∃ E,e= .returned (.int .i64 E)/\((E≠0/\∃ x1,Fails x G E x1/\SW b w0 (x1.obs l) w')∨(E=0/\∃ x1,After x G x1/\SW b w0 (x1.obs l) w'))
theorem entSum_perm {a b:List Ent} (h:a.Perm b):entSum a=entSum b:=by
 induction h with
 | nil=>rfl
 | cons x _ ih=>simp only [entSum,zD,List.sum_cons] at *; rw [ih]
 | swap x y l=>simp only [entSum,zD,List.sum_cons];omega
 | trans _ _ ih1 ih2=>exact ih1.trans ih2
theorem entSum_filter (p:Ent->Bool) (ys:List Ent):entSum (ys.filter p)<=entSum ys:=by
 induction ys with
 | nil=>simp
 | cons y ys ih=>
  have h1:entSum (y::ys)=28+y.1.2.toNat+entSum ys:=by simp [entSum]
  rw [List.filter_cons];split
  · have h2:entSum (y::ys.filter p)=28+y.1.2.toNat+entSum (ys.filter p):=by simp [entSum]
    omega
  omega
theorem entSum_pos {ys:List Ent} (h:ys≠[]):entSum ys≠0:=by
 cases ys with
 | nil=>exact absurd rfl h
 | cons y ys=>
  have h1:entSum (y::ys)=28+y.1.2.toNat+entSum ys:=by simp [entSum]
  omega
theorem stays_perm {G:List (ID×Bool)} {a b:List Ent} (h:a.Perm b):(stays G a).Perm (stays G b):=h.filter _
theorem updAll_out (C:Chs) (done:Chs) (i:ID) (h:i ∉ done.map (·.1)):Go.Proofs.YteabgcollokgjaaGreatDoor.asc (updAll C done) i=Go.Proofs.YteabgcollokgjaaGreatDoor.asc C i:=by
 induction done generalizing C with
 | nil=>rfl
 | cons c done ih=>
  rw [zD,List.mem_cons] at h;show Go.Proofs.YteabgcollokgjaaGreatDoor.asc (updAll (setL C c.1 c.2) done) i=_;rw [ih _ (fun hh=>h (.inr hh)),asc_setL,if_neg (fun e=>h (.inl e.symm))]
theorem ents_row {w:World} {v:Value} {ys:List Ent} (hne:ys≠[]) (h:w.ownsRow 0 166 3 v ys.length (ys.flatMap encE)):EntsAt w v ys:=by
 rcases h.2 with ⟨hv,hx⟩ | ⟨g,cap,cur,hv,h0,hh,hc1,hcs,hcs2,htk⟩
 · exact absurd (List.eq_nil_of_length_eq_zero hx) hne
 have hi:IsB w g 166 cur:=hh;refine ⟨fun e=>absurd e hne,fun _=>⟨g,cap,hv,(h.lt g (by rw [hv];rfl)).2,fun j hj=>?_⟩⟩;have e0:=flat_at encE_len ent0 ys j 0 hj (by omega);have e1:=flat_at encE_len ent0 ys j 1 hj (by omega);have e2:=flat_at encE_len ent0 ys j 2 hj (by omega);rw [<- htk,List.getElem?_take_of_lt (by omega),Array.getElem?_toList] at e0 e1 e2;refine ⟨(hi.cell _).trans ?_,(hi.cell _).trans ?_,(hi.cell _).trans ?_⟩
 · simpa [encE] using e0
 · simpa [encE] using e1
 simpa [encE] using e2
theorem SW.rowEb {b:Nat} {w0 w:World} {v:Value} {ys:List Ent} {t:List Ob} (hne:ys≠[]) (h:SW b w0 (rowOb 166 3 v ys.length (ys.flatMap encE)::t) w):∃ A c,v= .slice A ys.length c/\SW b w0 (ebOb v ys::t) w:=by
 have hh:w.ownsRow 0 166 3 v ys.length (ys.flatMap encE):=h.get 0 (o:=rowOb 166 3 v ys.length (ys.flatMap encE)) rfl;have hE:EntsAt w v ys:=ents_row hne hh
 have hv:∃ A c,v= .slice A ys.length c:=by
  obtain ⟨g,c,e,_⟩:=hE.2 hne;exact ⟨_,_,e⟩
 obtain ⟨A,c,hv⟩:=hv;have ha:=List.pairwise_cons.1 h.1.apart;refine ⟨A,c,hv,⟨h.1.base,fun y hy=>?_,fun y hy i hi=>?_,fun y hy i hi=>?_,List.pairwise_cons.2 ⟨fun y hy=>⟨fun i hi=>hi.elim,fun i hi hr=>?_⟩,ha.2⟩⟩,h.2⟩
 · rcases List.mem_cons.1 hy with rfl | hy
   · exact hE
   exact h.1.holds y (zA _ hy)
 · rcases List.mem_cons.1 hy with rfl | hy
   · exact hi.elim
   exact h.1.own y (zA _ hy) i hi
 · rcases List.mem_cons.1 hy with rfl | hy
   · exact (h.1.own _ (zC ..) i hi).2
   exact h.1.rd y (zA _ hy) i hi
 exact ((ha.1 y hy).1 i hr).1 hi
theorem SW.newRi {b:Nat} {w0 w:World} {l:List Ob} (h:SW b w0 l w):SW b w0 (riOb none []::l) w:=by
 refine ⟨⟨h.1.base,fun y hy=>?_,fun y hy i hi=>?_,fun y hy i hi=>?_,List.pairwise_cons.2 ⟨fun y hy=>⟨fun i hi=>hi.elim,fun i hi hi'=>?_⟩,h.1.apart⟩⟩,h.2⟩
 · rcases List.mem_cons.1 hy with rfl | hy
   · exact ⟨fun _=>rfl,fun _ e=>by cases e⟩
   exact h.1.holds y hy
 · rcases List.mem_cons.1 hy with rfl | hy
   · exact hi.elim
   exact h.1.own y hy i hi
 · rcases List.mem_cons.1 hy with rfl | hy
   · cases hi
   exact h.1.rd y hy i hi
 cases hi'
theorem carryPlan_any {b:Nat} {w0 w w1:World} {x:SR} {G:List (ID×Bool)} {l:List Ob} {v:Value} (h:SW b w0 (x.obs l) w) (hp:PRPost x G w (.returned v) w1) (hF:anyAt x.C G=true->∃ f,x.F=some f)
 (hR:anyAt x.C G=true->readE x.s (fileN x.nm)=0/\(∀ y∈durs x.C,(y.2:Int)+28+y.1.2<=(readB x.s (fileN x.nm)).length)/\entSum (durs x.C)<=1048576) (hid8:∀ c∈x.C,1<=c.1.2/\c.1.2<=8192) (hCl:x.C.length<=4096)
 (hnm:x.nm.size<=1000) (hL:x.s.ops.length<=999980) (hcn:∀ n,Cnt x.s.now n->n<=200) (hw0:0<=x.wait) (hw1:x.wait<=1099511627776):
 Calls Tryz.prog 88 #[vPtr x.ps,v] w1 (PCPost b w0 x G l):=by
 rcases hp with ⟨ha,hv,hb⟩ | ⟨ha,lg,cap,pc,sv,ys,hv,hys,hsrt,hs⟩
 · injection hv with hv;subst hv;refine (carry_nil _ _).mono ?_;rintro e w' ⟨rfl,rfl⟩;exact ⟨0,rfl,.inr ⟨rfl,x,.none ha,h.on hb⟩⟩
 injection hv with hv;subst hv
 have hj:=Sep.join h.1 hs.2 hs.1 (fun o ho i hi=>by
  simp only [List.mem_cons,List.not_mem_nil,or_false] at ho;rcases ho with rfl | rfl | rfl
  · exact hi.elim
  · exact hi.elim
  exact hi.elim)
 by_cases hst:stays G ys=[]
 · rw [hst] at hj;have hsw:SW b w0 ((⟨pc,sv,0,[],lg,cap⟩:RFS).obs (x.obs l)) w1:=⟨hj,h.2.trans (hs.2.mono h.1.base)⟩
   have hst':∀ zs:List Ent,zs.Perm (durs x.C)->stays G zs=[]:=fun zs hz=>(by
    have:=stays_perm (G:=G) (hz.trans hys.symm);rw [hst] at this;exact this.eq_nil)
   refine (carryDel_any hsw rfl (hF ha) hnm (by omega) hcn).mono ?_;rintro e w' ⟨n,r',hn,E,rfl,h1 | h1 | h1⟩
   · exact ⟨E,rfl,.inl ⟨h1.1,_,.req n r' E ha hn h1.2.1 h1.1,h1.2.2⟩⟩
   · exact ⟨E,rfl,.inl ⟨h1.1,_,.sync n r' E ha hn h1.2.1 h1.2.2.1 h1.1 hst',h1.2.2.2⟩⟩
   exact ⟨E,rfl,.inr ⟨h1.1,_,.del n r' ha hn h1.2.1 h1.2.2.1 hst',h1.2.2.2⟩⟩
 obtain ⟨hR1,hR2,hR3⟩:=hR ha;have hsw0:SW b w0 (cellOb pc 216 #[.int .i64 1,.bool true,sv,.slice none 0 0,.int .i64 (entSum (stays G ys):Int)]::rowOb 166 3 sv (stays G ys).length ((stays G ys).flatMap encE)::rowOb 214 1 (.slice (some ⟨lg,0,none⟩) 1 cap) 1 [vPtr pc]::x.obs l) w1:=⟨hj,h.2.trans (hs.2.mono h.1.base)⟩;have hsw1:SW b w0 (rowOb 166 3 sv (stays G ys).length ((stays G ys).flatMap encE)::cellOb pc 216 #[.int .i64 1,.bool true,sv,.slice none 0 0,.int .i64 (entSum (stays G ys):Int)]::rowOb 214 1 (.slice (some ⟨lg,0,none⟩) 1 cap) 1 [vPtr pc]::x.obs l) w1:=SW.front (pre:=[_,_]) (t:=_::x.obs l) hsw0 [1,0] (n:=2) rfl (by decide);obtain ⟨SA,sc,rfl,hsw2⟩:=SW.rowEb hst hsw1;have hsw:SW b w0 ((⟨pc,SA,sc,none,0,entSum (stays G ys),[],lg,cap,stays G ys⟩:RCS).obs (x.obs l)) w1:=SW.front (pre:=[_,_,_,_]) (t:=x.obs l) hsw2.newRi [2,0,3,1] (n:=4) rfl (by decide);have hmem:∀ y∈stays G ys,(y.1,Pl.at y.2)∈x.C:=fun y hy=>durs_mem (hys.mem_iff.1 (List.mem_filter.1 hy).1);have hle:entSum (stays G ys)<=1048576:=zH (entSum_filter _ ys) (by rw [entSum_perm hys];exact hR3)
 have hyl:(stays G ys).length<=1000000:=by
  refine zH (zF _ _) ?_;rw [hys.length_eq];exact zH (durs_len _) (by omega)
 refine (carryR_any hsw (entSum_pos hst) (readB x.s (fileN x.nm)) hR1 rfl hnm (hF ha) (fun y hy=>?_) (fun i hi=>by cases hi) (by simpa [frSum] using hle) hyl hL hcn hw0 hw1).mono ?_
 · have hm:=hmem y hy;have h8:=hid8 _ hm;exact ⟨asc_mem h.1.sch.nodup hm,h.1.sch.oks _ hm,h8.1,h8.2,hR2 y (hys.mem_iff.1 (List.mem_filter.1 hy).1)⟩
 rintro e w' ⟨n1,n2,r',hn1,hn2,E,rfl,h1 | h1 | h1⟩
 · exact ⟨E,rfl,.inl ⟨h1.1,_,.rreq n1 n2 r' ys E ha hys hsrt hn1 hn2 h1.2.1 h1.1,h1.2.2⟩⟩
 · exact ⟨E,rfl,.inl ⟨h1.1,_,.rsync n1 n2 r' ys E ha hys hsrt hn1 hn2 h1.2.1 h1.2.2.1 h1.1,h1.2.2.2⟩⟩
 obtain ⟨h0,h2,h3,done,f,h4,h5,h6,h7,h8⟩:=h1;exact ⟨E,rfl,.inr ⟨h0,_,.ren n1 n2 r' ys done f ha hys hsrt hst hn1 hn2 h2 h3 h4 h5 h6 h7,h8⟩⟩
theorem After.asc {x x1:SR} {G:List (ID×Bool)} (h:After x G x1) (hG:∀ g∈G,Go.Proofs.YteabgcollokgjaaGreatDoor.asc G g.1=some true) (hn:(x1.C.map (·.1)).Nodup):∀ g∈G,Go.Proofs.YteabgcollokgjaaGreatDoor.asc x1.C g.1=Go.Proofs.YteabgcollokgjaaGreatDoor.asc x.C g.1:=by
 intro g hg;cases h with
 | none _=>rfl
 | del _ _ _ _ _ _ _=>rfl
 | ren n1 n2 r ys done f _ _ _ _ _ _ _ _ hd _ _ _=>
  have hk:=nfold_keys (readB x.s (fileN x.nm)) x.C (stays G ys) []
  have hnk:g.1 ∉ done.map (·.1):=fun hi=>by
   have h1:g.1∈(rfold (readB x.s (fileN x.nm)) [] (stays G ys)).1.map (·.1):=(hd.map _).mem_iff.1 hi;rcases (hk.2.1 g.1).1 h1 with h2 | h2
   · obtain ⟨y,hy,e⟩:=List.mem_map.1 h2;have h3:=(List.mem_filter.1 hy).2;rw [e,hG g hg] at h3;cases h3
   cases h2
  exact updAll_out x.C done g.1 hnk
theorem After.wait {x x1:SR} {G:List (ID×Bool)} (h:After x G x1) (hn:(x.C.map (·.1)).Nodup):x1.wait=x.wait:=by
 cases h with
 | none _=>rfl
 | del _ _ _ _ _ _ _=>rfl
 | ren n1 n2 r ys done f _ hys _ _ _ _ _ _ hd _ _ _=>
  have hk:=nfold_keys (readB x.s (fileN x.nm)) x.C (stays G ys) []
  have h0:pdN x.C done=0:=by
   unfold pdN;rw [List.filter_eq_nil_iff.2 (fun c hc=>?_)]
   · rfl
   have h1:c.1∈(rfold (readB x.s (fileN x.nm)) [] (stays G ys)).1.map (·.1):=(hd.map _).mem_iff.1 (List.mem_map.2 ⟨c,hc,rfl⟩);rcases (hk.2.1 c.1).1 h1 with h2 | h2
   · obtain ⟨y,hy,e⟩:=List.mem_map.1 h2;have h3:=asc_mem hn (durs_mem (hys.mem_iff.1 (List.mem_filter.1 hy).1));rw [<- e,h3];simp [Pl.isP]
   cases h2
  simp [h0]
section
variable {α β:Type}
def gitOb (ok:α->Prop) (kv:α->Value) (vv:β->Value) (m r:Nat) (L done:List (α×β)) (cnt:Nat):Ob where
 own:=fun i=>i=m∨i=r
 rd:=fun _=>False
 holds:=fun w=>RIs ok kv vv w m r L done cnt
 stable:=fun w w' h hs hk=>by
  obtain ⟨es,clock,since,seen,c0,is,h1,h2,h3,h4,h5,h6⟩:=h;exact ⟨es,clock,since,seen,c0,is,(hk m (.inl (.inl rfl))).trans h1,h2,h3,h4,(hk r (.inl (.inr rfl))).trans h5,h6⟩
variable {ok:α->Prop} {kv:α->Value} {vv:β->Value} {b:Nat} {w0 w w':World} {l:List Ob}
theorem SW.rangeG (h:SW b w0 l w) (k:Nat) {m:Nat} {L:List (α×β)} (hk:l[k]? =some (mpOb ok kv vv m L)) (hr:RIs ok kv vv w' m w.heap.size L [] L.length) (hg:w.grownBy w' none):SW b w0 (l.set k (gitOb ok kv vv m w.heap.size L [] L.length)) w':=by
 have:=h.1.stepAt k hk (w':=w') (o':=gitOb ok kv vv m w.heap.size L [] L.length) ⟨hg.os,hg.tape,hg.output,hg.size,fun i hi _=>hg.block i hi (by simp),fun i hi=>by
  rcases hi with hi | hi
  · exact .inl hi
  · exact .inr (by omega)⟩ (fun i hi=>hi.elim) hr (fun i hi=>by
  rcases hi with (hi | hi) | hi
  · rw [hi];exact hr.map.lt
  · rw [hi];exact hr.lt
  exact hi.elim)
 exact ⟨this.1,h.2.trans this.2⟩
theorem SW.nextG (h:SW b w0 l w) (k:Nat) {m r:Nat} {L done done':List (α×β)} {cnt cnt':Nat} (hk:l[k]? =some (gitOb ok kv vv m r L done cnt)) (hr:RIs ok kv vv w' m r L done' cnt') (hg:w.grownBy w' (some r)):SW b w0 (l.set k (gitOb ok kv vv m r L done' cnt')) w':=by
 have:=h.1.stepAt k hk (w':=w') (o':=gitOb ok kv vv m r L done' cnt') (Fr.grown hg (Or.inr rfl) (fun i hi=> .inl hi)) (fun i hi=>hi.elim) hr (fun i hi=>by
  rcases hi with (hi | hi) | hi
  · rw [hi];exact hr.map.lt
  · rw [hi];exact hr.lt
  exact hi.elim)
 exact ⟨this.1,h.2.trans this.2⟩
end
theorem SW.delCh {b:Nat} {w0 w w':World} {l:List Ob} (h:SW b w0 l w) (k:Nat) {cm:Nat} {C:Chs} (hk:l[k]? =some (chOb cm C)) {i:ID} (hm:MapIs okID vID vPl w' cm (delL C i)) (hg:w.grownBy w' (some cm)):SW b w0 (l.set k (chOb cm (delL C i))) w':=by
 have hh:=h.get k (o:=chOb cm C) hk;have hsub:=delL_sub C i
 have:=h.1.stepAt k hk (w':=w') (o':=chOb cm (delL C i)) (Fr.grown hg rfl (fun _ hi=> .inl hi)) (fun j hj=>by
  obtain ⟨id,d',bs',hc,hbk⟩:=hj;exact .inr (.inl ⟨id,d',bs',hsub _ hc,hbk⟩)) ⟨hm,fun id d' bs' hc=>⟨(hh.2 id d' bs' (hsub _ hc)).1.gone hh.1 hg,(hh.2 id d' bs' (hsub _ hc)).2⟩⟩ (fun j hj=>by
  rcases hj with hj | ⟨id,d',bs',hc,hbk⟩
  · have e:j=cm:=hj;rw [e];exact hm.lt
  exact Nat.lt_of_lt_of_le ((hh.2 id d' bs' (hsub _ hc)).1.lt hbk) hg.size)
 exact ⟨this.1,h.2.trans this.2⟩
def gstep (C:Chs) (G:List (ID×Bool)) (i:ID):List (ID×Bool):=if (asc C i).isSome then setL G i true else G
def goneL (C:Chs) (ids:List ID):List (ID×Bool):=ids.foldl (gstep C) []
theorem goneL_snoc (C:Chs) (ids:List ID) (i:ID):goneL C (ids++[i])=gstep C (goneL C ids) i:=by
 unfold goneL;rw [List.foldl_append];rfl
theorem goneL_in (C:Chs) (ids:List ID):∀ g∈goneL C ids,g.2=true/\(∃ pl,asc C g.1=some pl)/\g.1∈ids:=by
 have:∀ (ids:List ID) (G:List (ID×Bool)),∀ g∈ids.foldl (gstep C) G,g∈G∨(g.2=true/\(∃ pl,asc C g.1=some pl)/\g.1∈ids):=by
  intro ids;induction ids with
  | nil=>intro G g hg;exact .inl hg
  | cons i ids ih=>
   intro G g hg;rcases ih _ g hg with h | h
   · unfold gstep at h;split at h
     · rename_i hs
       rcases setL_memG h with rfl | h
       · exact .inr ⟨rfl,Option.isSome_iff_exists.1 hs,by simp⟩
       exact .inl h
     exact .inl h
   exact .inr ⟨h.1,h.2.1,zA _ h.2.2⟩
 intro g hg;rcases this ids [] g hg with h | h
 · cases h
 exact h
theorem goneL_len (C:Chs) (ids:List ID):(goneL C ids).length<=ids.length:=by
 have:∀ (ids:List ID) (G:List (ID×Bool)),(ids.foldl (gstep C) G).length<=G.length+ids.length:=by
  intro ids;induction ids with
  | nil=>intro G;simp
  | cons i ids ih=>
   intro G;have h1:=ih (gstep C G i)
   have h2:(gstep C G i).length<=G.length+1:=by
    unfold gstep;split
    · exact setL_length _ _ _
    omega
   simp only [List.foldl_cons,List.length_cons];omega
 simpa [goneL] using this ids []
def delAll (C:Chs) (done:List (ID×Bool)):Chs:=done.foldl (fun C g=>delL C g.1) C
theorem delAll_snoc (C:Chs) (done:List (ID×Bool)) (g:ID×Bool):delAll C (done++[g])=delL (delAll C done) g.1:=by
 unfold delAll;rw [List.foldl_append];rfl
theorem delL_keys {C:Chs} (hn:(C.map (·.1)).Nodup) (a:ID):((delL C a).map (·.1)).Nodup:=by
 by_cases h:∃ c∈C,c.1=a
 · obtain ⟨c,hc,rfl⟩:=h;obtain ⟨j,hj⟩:=List.mem_iff_getElem?.1 hc;rw [delL_at hn hj,map_erase];exact hn.eraseIdx _
 rw [delL_none (fun c hc e=>h ⟨c,hc,e⟩)];exact hn
theorem delAll_asc:∀ (done:List (ID×Bool)) (C:Chs),(C.map (·.1)).Nodup->∀ i,(∀ g∈done,g.1≠i)->asc (delAll C done) i=asc C i:=by
 intro done;induction done with
 | nil=>intro C _ i _;rfl
 | cons g done ih=>
  intro C hn i hi;show asc (delAll (delL C g.1) done) i=_;rw [ih _ (delL_keys hn g.1) i (fun k hk=>hi k (zA _ hk)),asc_delL hn];simp [hi g (zC ..)]
def pendB1 (C:Chs) (g:ID×Bool):Bool:=((asc C g.1).map Pl.isP).getD false
def pendN (C:Chs) (done:List (ID×Bool)):Int:=((done.filter (pendB1 C)).length:Int)
def sizeN (done:List (ID×Bool)):Int:=(done.map (fun g=>g.1.2)).sum
theorem pendN_snoc (C:Chs) (done:List (ID×Bool)) (g:ID×Bool):pendN C (done++[g])=pendN C done+if pendB1 C g then 1 else 0:=by
 unfold pendN;rw [List.filter_append];cases h:pendB1 C g<;>simp [h]
theorem sizeN_snoc (done:List (ID×Bool)) (g:ID×Bool):sizeN (done++[g])=sizeN done+g.1.2:=by simp [sizeN]
theorem RIs.sub {α β:Type} {ok:α->Prop} {kv:α->Value} {vv:β->Value} {w:World} {b r:Nat} {L done:List (α×β)} {cnt:Nat} (h:RIs ok kv vv w b r L done cnt):∀ c∈done,c∈L:=by
 intro c hc;obtain ⟨es,clock,since,seen,c0,is,_,_,_,_,_,_,_,_,_,_,_,hd⟩:=h;have:some c∈is.map (fun i=>L[i]?):=by rw [hd];exact List.mem_map.2 ⟨c,hc,rfl⟩
 obtain ⟨j,_,hj⟩:=List.mem_map.1 this;exact List.mem_of_getElem? hj
theorem sizeN_le (done:List (ID×Bool)) (h:∀ g∈done,0<=g.1.2/\g.1.2<=8192):0<=sizeN done/\sizeN done<=done.length*8192:=by
 induction done with
 | nil=>simp [sizeN]
 | cons g done ih=>
  have h1:=ih (fun k hk=>h k (zA _ hk));have h2:=h g (zC ..);have h3:sizeN (g::done)=g.1.2+sizeN done:=by simp [sizeN]
  rw [h3,List.length_cons];omega
def rmS (x:SR) (done:List (ID×Bool)):SR:={ x with C:=delAll x.C done,wait:=x.wait-pendN x.C done,bytes:=x.bytes-sizeN done }
theorem rmS_nil (x:SR):rmS x []=x:=by
 unfold rmS;simp [delAll,pendN,sizeN]
def RemPost (b:Nat) (x:SR) (ids:List ID) (l:List Ob) (w:World) (e:Ending) (w':World):Prop:=
 (∃ E x1,E≠0/\e= .returned (.tuple #[.int .i64 0,.int .i64 E])/\Fails x (goneL x.C ids) E x1/\SW b w (x1.obs l) w')∨
 (∃ x1 done,e= .returned (.tuple #[.int .i64 ((goneL x.C ids).length:Int),.int .i64 0])/\After x (goneL x.C ids) x1/\done.Perm (goneL x.C ids)/\SW b w ((rmS x1 done).obs l) w')
structure WR (x:SR):Prop extends WF x where
 own:∀ i d bs,(i,Pl.pend d bs)∈x.C->i=fpOf bs/\bs.length<=8192
 ops:x.s.ops.length<=900000
 files:∀ n,Cnt x.s.now n->n<=200
 ids8:∀ c∈x.C,1<=c.1.2/\c.1.2<=8192
 wait0:0<=x.wait
 wait1:x.wait<=1099511627776
theorem WH.wr {x:SR} (h:WH x):WR x:={ h.toWF with own:=h.own,ops:=h.ops,files:=h.files,ids8:=h.ids8,wait0:=h.wait0,wait1:=h.wait1 }
theorem Remove_wr {b:Nat} {w:World} {x:SR} {l:List Ob} (h:Sto b w x l) (hw:WR x) (A:Option Addr) (c:Nat) (ids:List ID) (hA:riOb A ids∈l) (hok:∀ i∈ids,okID i) (hl:ids.length<=100000)
 (hT:∀ f,x.F=some f->f.T=[]) (hR:anyAt x.C (goneL x.C ids)=true->readE x.s (fileN x.nm)=0/\(∀ y∈durs x.C,(y.2:Int)+28+y.1.2<=(readB x.s (fileN x.nm)).length)/\entSum (durs x.C)<=1048576) (hF:anyAt x.C (goneL x.C ids)=true->∃ f,x.F=some f)
 (hb0:0<=x.bytes) (hb1:x.bytes<=1099511627776):
 Calls Tryz.prog 25 #[vPtr x.ps,.slice A ids.length c] w (RemPost b x ids l w):=by
 have HRD:=hid (ready_live h hw.live hw.up);have HNX:Hid ((x.C.map (·.1)).Nodup):=h.sch.nodup;have HA:=hid hA;have HOK:=hid hok;have HW:=hid hw;have hmk:(Instr.makeMap 143 none).run Tryz.prog w= .ok (.map (some w.heap.size)) (w.alloc (.map #[] 0)):=by simp [Instr.makeMap,run_underlying Tryz.underlying143]
 have S0:Hid (SW b w (mpOb okID vID vBl w.heap.size ([]:List (ID×Bool))::x.obs l) (w.alloc (.map #[] 0))):=(SW.refl h).addMp;clear h hA hok hw;go_enter Tryz.func25,Tryz.ntmps25;go_upto_block 0 with (go_at_call 84;(with_reducible refine HRD.out.mono ?_);rintro e w1 ⟨rfl,rfl⟩)
 go_cut [] from 8 (fun w'=>SW b w (mpOb okID vID vBl w.heap.size (goneL x.C ids)::x.obs l) w')
 case first=>
  go_wp2_with fail
  go_loopw [20] (fun s20 wr=>∃ k:Nat,k<=ids.length/\s20= .int .i64 (k:Int)/\SW b w (mpOb okID vID vBl w.heap.size (goneL x.C (ids.take k))::x.obs l) wr) (fun s20 _=>ids.length-(intOf s20).toNat)
  case atStart=>exact ⟨0,Nat.zero_le _,rfl,S0.out⟩
  obtain ⟨k,hk,rfl,hs⟩:=hrel;have S1:=hid hs;clear hs S0 hmk;by_cases hlt:k<ids.length
  · obtain ⟨i,hik⟩:∃ i,ids.getD k id0=i:=⟨_,rfl⟩;have hri:=S1.out.1.holds (riOb A ids) (zA _ (zA _ (zA _ (zA _ (zA _ HA.out)))))
    have hrow:∃ g,A=some ⟨g,0,none⟩/\RowI wr g ids:=by
     cases A with
     | none=>
      have h0:=hri.1 rfl;rw [h0] at hlt;simp at hlt
     | some ad=>
      obtain ⟨g,rfl,hr,_⟩:=hri.2 ad rfl;exact ⟨g,rfl,hr⟩
    obtain ⟨g,rfl,hrow⟩:=hrow;obtain ⟨a0,a1,_,_⟩:=hrow.cells hlt hik
    have hm:i∈ids:=by
     rw [<- hik,zB,zE hlt];exact List.getElem_mem hlt
    have hoki:=HOK.out i hm
    have hts:ids.take (k+1)=ids.take k++[i]:=by
     rw [List.take_succ_eq_append_getElem hlt, <- hik,zB,zE hlt];rfl
    have HTS:Hid (goneL x.C (ids.take (k+1))=gstep x.C (goneL x.C (ids.take k)) i):=by rw [Hid,hts,goneL_snoc]
    have S2:=hid (S1.out.newCell 31 #[.int .u64 i.1,.int .i64 i.2]);have HHAS:=hid (Has_any S2.out.1.tail.tail i hoki);have c0:(wr.alloc (.cells #[.int .u64 i.1,.int .i64 i.2] 31)).cell? ⟨wr.heap.size,0,none⟩=some (.int .u64 i.1):=(S2.out.cell 0 rfl).cell 0;have c1:(wr.alloc (.cells #[.int .u64 i.1,.int .i64 i.2] 31)).cell? ⟨wr.heap.size,1,none⟩=some (.int .i64 i.2):=(S2.out.cell 0 rfl).cell 1;clear hri hrow hik hm hts S1;go_wp2_with (go_at_call 46;(with_reducible refine HHAS.out.mono ?_);refine halt_ ?_)
    rintro e w3 ⟨rfl,hb3⟩;have S3:=hid (S2.out.on hb3);clear hb3 HHAS S2 c0 c1;cases his:(asc x.C i).isSome with
    | false=>
     have HT2:Hid (goneL x.C (ids.take (k+1))=goneL x.C (ids.take k)):=by
      rw [Hid,HTS.out];unfold gstep;rw [his];simp
     clear his HTS;go_wp2_with fail
     go_roundw
     case rel=>
      refine ⟨k+1,by omega,by go_num,?_⟩;rw [HT2.out];exact S3.out.tail
     simp [intOf];omega
    | true=>
     have HT2:Hid (goneL x.C (ids.take (k+1))=setL (goneL x.C (ids.take k)) i true):=by
      rw [Hid,HTS.out];unfold gstep;rw [his];simp
     clear his HTS;have c0:w3.cell? ⟨wr.heap.size,0,none⟩=some (.int .u64 i.1):=(S3.out.cell 0 rfl).cell 0;have c1:w3.cell? ⟨wr.heap.size,1,none⟩=some (.int .i64 i.2):=(S3.out.cell 0 rfl).cell 1;obtain ⟨w4,hu,hm4,hg4,hz4⟩:=MapIs.update mkI Tryz.underlying143 (S3.out.get 1 (o:=mpOb okID vID vBl w.heap.size (goneL x.C (ids.take k))) rfl) hoki true;have hu':(Instr.mapUpdate 143 (.map (some w.heap.size)) (.agg #[.int .u64 i.1,.int .i64 i.2]) (.bool true)).run Tryz.prog w3= .ok () w4:=hu;have S4:=hid (S3.out.updMp 1 rfl hm4 hg4);clear hu hm4 hg4 hz4 S3;go_wp2_with fail
     go_roundw
     case rel=>
      refine ⟨k+1,by omega,by go_num,?_⟩;rw [HT2.out];exact S4.out.tail
     simp [intOf];omega
  have hkn:k=ids.length:=by omega
  subst hkn;rw [List.take_length] at S1;clear hlt hk;go_wp2_with fail
  go_meet;exact S1.out
 have S5:Hid (SW b w (x.obs (mpOb okID vID vBl w.heap.size (goneL x.C ids)::l)) wc):=SW.front (pre:=[_,_,_,_,_]) (t:=l) hcut [1,2,3,4,0] (n:=5) rfl (by decide);have hw:=HW.out;have hin:=goneL_in x.C ids;have hgl:=goneL_len x.C ids;have HIN:=hid hin;have HPL:=hid (planRemove_any S5.out.1 w.heap.size (goneL x.C ids) (S5.out.get 4 (o:=mpOb okID vID vBl w.heap.size (goneL x.C ids)) rfl) (fun g hg=>(hin g hg).2.1) hT hF hw.few hw.ids8);have hops:x.s.ops.length<=999980:=by have:=hw.ops;omega
 have HGO:=hid hR;have HHF:=hid hF;clear hcut hin S0 hmk hR hF hT hw;go_wp2_with (go_at_call 89;(with_reducible refine HPL.out.mono ?_);refine halt_ ?_)
 intro e w3 hpr
 obtain ⟨v,rfl⟩:∃ v,e= .returned v:=by
  rcases hpr with ⟨_,h,_⟩ | ⟨_,_,_,_,_,_,h,_⟩
  · exact ⟨_,h⟩
  exact ⟨_,h⟩
 have HCP:=hid (carryPlan_any S5.out hpr HHF.out HGO.out HW.out.ids8 HW.out.few HW.out.name hops HW.out.files HW.out.wait0 HW.out.wait1);clear hpr HPL;go_upto_if 36 with (go_at_call 88;(with_reducible refine HCP.out.mono ?_);refine halt_ ?_)
 rintro e w6 ⟨E,rfl,hE⟩;rcases hE with ⟨h0,x1,hfa,hs6⟩ | ⟨rfl,x1,haf,hs6⟩
 · have q0:(E !=0)=true:=by simpa using h0
   have S6:Hid (SW b w (x1.obs l) w6):=(SW.front (pre:=[_,_,_,_,_]) (t:=l) hs6 [4,0,1,2,3] (n:=5) rfl (by decide)).tail;have HFA:=hid hfa;have H0:=hid h0;clear h0 hs6 hfa HCP;go_wp2_with fail
   go_ret2;exact .inl ⟨E,x1,H0.out,rfl,HFA.out,S6.out⟩
 have S6:=hid hs6;have HAF:=hid haf
 have hC1:∀ g∈goneL x.C ids,asc x1.C g.1=asc x.C g.1:=haf.asc (fun g hg=>by
  rw [asc_mem (hs6.get 4 (o:=mpOb okID vID vBl w.heap.size (goneL x.C ids)) rfl:MapIs okID vID vBl w6 w.heap.size (goneL x.C ids)).nodup hg];exact congrArg some (HIN.out g hg).1) (hs6.get 2 (o:=chOb x1.cm x1.C) rfl).1.nodup
 have hw1:x1.wait=x.wait:=haf.wait HNX.out;have hbb:x1.bytes=x.bytes:=by cases haf<;>rfl
 have HC1:=hid hC1;have hww0:0<=x1.wait:=by rw [hw1];exact HW.out.wait0
 have hww1:x1.wait<=1099511627776:=by rw [hw1];exact HW.out.wait1
 have hbb0:0<=x1.bytes:=by rw [hbb];exact hb0
 have hbb1:x1.bytes<=1099511627776:=by rw [hbb];exact hb1
 have HND:Hid ((x1.C.map (·.1)).Nodup):=(hs6.get 2 (o:=chOb x1.cm x1.C) rfl).1.nodup;have HMG:=hid (hs6.get 4 (o:=mpOb okID vID vBl w.heap.size (goneL x.C ids)) rfl);have HPS:Hid (∀ j d bs,(j,Pl.pend d bs)∈x1.C->d.A≠none):=pend_some (x:=x1) hs6.1;have hps1:x1.ps=x.ps:=by cases haf<;>rfl
 rw [<- hps1];clear hs6 haf hC1 hw1 hbb hps1 HCP S5;go_wp2_with (at_range;(refine wpList_range_is _ rfl _ 143 rfl 31 4 Tryz.underlying143 w.heap.size (goneL x.C ids) rfl HMG.out ?_);intro w4 hrg hg hs;have S7:=hid (S6.out.rangeG 4 rfl hrg hg);clear hrg hg hs)
 generalize w6.heap.size=r at S7 |-; clear S6 HMG;try go_frame
 go_loopw [] (fun wr=>∃ (done:List (ID×Bool)) (cnt:Nat),SW b w ((rmS x1 done).obs (gitOb okID vID vBl w.heap.size r (goneL x.C ids) done cnt::l)) wr) (fun wr=>wr.rangeLeft w.heap.size r)
 case atStart=>
  refine ⟨[],(goneL x.C ids).length,?_⟩;rw [rmS_nil];exact S7.out
 obtain ⟨done,cnt,hs⟩:=hrel;have S8:=hid hs;have HRI:=hid (hs.get 4 (o:=gitOb okID vID vBl w.heap.size r (goneL x.C ids) done cnt) rfl:RIs okID vID vBl wr w.heap.size r (goneL x.C ids) done cnt);have Hleft:=hid HRI.out.left_eq;clear hs S7;go_wp2_with (at_next;(refine wpList_next_is _ rfl _ rfl w.heap.size r (goneL x.C ids) done cnt rfl HRI.out (fun hp=>?_) (fun c w5 cnt1 hc1 hrg1 hlt1 hg1 hs1 hen=>halt_ ?_)))
 · rename World=>wa;have hln:(Builtin.len_ #[143] 3 #[.map (some w.heap.size)]).run Tryz.prog wa= .ok (.int .i64 (((goneL x.C ids).length:Nat):Int)) wa:=MapIs.len Tryz.underlying143 HRI.out.map 3;have S16:Hid (SW b w ((rmS x1 done).obs l) wa):=(SW.front (pre:=[_,_,_,_,_]) (t:=l) S8.out [4,0,1,2,3] (n:=5) rfl (by decide)).tail;clear S8 HRI Hleft;go_wp2_with fail
   try (rw [hln];simp only [Result.andThen];go_wp2_with fail)
   go_ret2;exact .inr ⟨x1,done,rfl,HAF.out,hp,S16.out⟩
 obtain ⟨i,gv⟩:=c;have S9:=hid (S8.out.nextG 4 rfl hrg1 hg1);obtain ⟨-, ⟨pl,hpl⟩,hids⟩:=HIN.out _ hc1;simp only at hpl hids;have hoki:=HOK.out i hids;have hdl:done.length<=100000:=zH HRI.out.len (zH hgl hl);have hkn:=hrg1.keysN;rw [List.map_append,List.nodup_append] at hkn
 have hac:asc (delAll x1.C done) i=some pl:=by
  rw [delAll_asc done x1.C HND.out i (fun g hg e=>hkn.2.2 g.1 (List.mem_map.2 ⟨g,hg,rfl⟩) i (by simp) e),HC1.out _ hc1];exact hpl
 have HPN:Hid (pendN x1.C (done++[(i,gv)])=pendN x1.C done+if pl.isP then 1 else 0):=by
  rw [Hid,pendN_snoc];unfold pendB1;simp only;rw [HC1.out _ hc1,hpl];rfl
 have HSZ:Hid (sizeN (done++[(i,gv)])=sizeN done+i.2):=by rw [Hid,sizeN_snoc]
 have hsz:0<=sizeN done/\sizeN done<=done.length*8192:=sizeN_le done (fun g hg=>by
  obtain ⟨_,⟨pl',hpl'⟩,_⟩:=HIN.out _ (HRI.out.sub g hg);have:=HW.out.ids8 _ (mem_of_asc hpl');simp only at this;omega)
 have hi8:=HW.out.ids8 _ (mem_of_asc hpl);simp only at hi8
 have hpn:0<=pendN x1.C done/\pendN x1.C done<=done.length:=by
  unfold pendN;have:=zF (pendB1 x1.C) done;omega
 have HAC:=hid hac;have HOKI:=hid hoki;have HPSA:Hid (∀ d bs,pl=Pl.pend d bs->d.A≠none):=fun d bs e=>HPS.out i d bs (mem_of_asc ((HC1.out _ hc1).trans (by rw [hpl,e])));have Hlt:=hid hlt1;have S10:Hid (SW b w (cellOb w5.heap.size 31 #[.int .u64 i.1,.int .i64 i.2]::(rmS x1 done).obs (gitOb okID vID vBl w.heap.size r (goneL x.C ids) (done++[(i,gv)]) cnt1::l)) (w5.alloc (.cells #[.int .u64 i.1,.int .i64 i.2] 31))):=S9.out.newCell 31 _;clear hc1 hids hpl hoki hkn hac hlt1 hrg1 hg1 hs1 S8 S9 HRI;refine hid ?_;go_upto_region 17 with fail
 refine wp_region_held_tail [(0,true),(1,true),(2,true),(3,true),(4,true),(5,true),(6,true)] (SW b w (cellOb w5.heap.size 31 #[.int .u64 i.1,.int .i64 i.2]::(rmS x1 done).obs (gitOb okID vID vBl w.heap.size r (goneL x.C ids) (done++[(i,gv)]) cnt1::l))) (by kernel_rfl) (fun _ _ d _ _ h=>by cases d<;>exact h) (by kernel_rfl) S10.out.drew ?_;simp only [pk_];have S11:=hid S10.out.drew;clear S10;generalize (w5.alloc (.cells #[.int .u64 i.1,.int .i64 i.2] 31)).drew=W5 at S11 |-; have hfd:=fun W=>field138 pl.A pl.len pl.cap pl.f pl.o W;have HC:=hid (fun (w':World) (h:SW b w (cellOb w5.heap.size 31 #[.int .u64 i.1,.int .i64 i.2]::(rmS x1 done).obs (gitOb okID vID vBl w.heap.size r (goneL x.C ids) (done++[(i,gv)]) cnt1::l)) w')=>(⟨(h.cell 2 (g:=x1.ps) (t:=131) rfl).cell 2,(h.cell 0 rfl).cell 0,(h.cell 0 rfl).cell 1,look_pl (h.get 3 (o:=chOb x1.cm (delAll x1.C done)) rfl).1 HOKI.out HAC.out⟩:w'.cell? ⟨x1.ps,2,none⟩=some (.map (some x1.cm))/\w'.cell? ⟨w5.heap.size,0,none⟩=some (.int .u64 i.1)/\w'.cell? ⟨w5.heap.size,1,none⟩=some (.int .i64 i.2)/\(Instr.lookup 128 (.map (some x1.cm)) (.agg #[.int .u64 i.1,.int .i64 i.2]) false).run Tryz.prog w'= .ok (.agg #[.slice pl.A pl.len pl.cap,.int .i64 pl.f,.int .i64 pl.o]) w'))
 iterate 7
  (refine wpHeld_take (v:=?_) (Or.inl ⟨by rfl,?_⟩) ?_
   rotate_left
   · (intro w' hSw;obtain ⟨h1,h2,h3,h4⟩:=HC.out w' hSw;go_simp;try with_reducible rfl)
   try simp only [Act.put,zG,List.set])
 refine wpHeld_nil ?_;simp only [dz_];clear HC hfd;obtain ⟨wt,Hwt⟩:∃ wt,Hid (x1.wait-pendN x1.C (done++[(i,gv)])=wt):=⟨_,rfl⟩;have hwt:=Hwt.out;rw [HPN.out] at hwt;go_upto_if 51 with fail
 go_cut [] from 44 to 58 (fun w'=>SW b w (cellOb w5.heap.size 31 #[.int .u64 i.1,.int .i64 i.2]::({ rmS x1 done with wait:=wt }:SR).obs (gitOb okID vID vBl w.heap.size r (goneL x.C ids) (done++[(i,gv)]) cnt1::l)) w')
 case first=>
  cases pl with
  | pend d bs=>
   obtain ⟨dA,dn,dc⟩:=d;cases dA with
   | none=>exact absurd rfl (HPSA.out _ _ rfl)
   | some ad=>
    have e1:(Pl.pend ⟨some ad,dn,dc⟩ bs).A=some ad:=rfl
    have hwe:x1.wait-pendN x1.C done-1=wt:=by
     rw [<- hwt];simp only [Pl.isP];simp;omega
    have HWE:=hid hwe;have k4:W5.cell? ⟨x1.ps,4,none⟩=some (.int .i64 (x1.wait-pendN x1.C done)):=(S11.out.cell 2 (g:=x1.ps) (t:=131) rfl).cell 4;have kz:W5.frozen? ⟨x1.ps,4,none⟩=false:=(S11.out.cell 2 (g:=x1.ps) (t:=131) rfl).frozen 4;have hsum:IntKind.i64.wrap (x1.wait-pendN x1.C done-1)=x1.wait-pendN x1.C done-1:=IntWalk.i64_in _ (by omega);clear hwe hwt;go_wp2_with fail
    go_meet;rw [HWE.out];exact S11.out.setAt 2 rfl 4 (.int .i64 wt)
  | «at» o=>
   have e1:(Pl.at o).A=none:=rfl
   have HWE:Hid (x1.wait-pendN x1.C done=wt):=by
    rw [Hid, <- hwt];simp [Pl.isP]
   clear hwt;go_wp2_with fail
   go_meet;have h11:=S11.out
   have e2:({ rmS x1 done with wait:=wt }:SR)=rmS x1 done:=by
    rw [<- HWE.out];rfl
   rw [e2];exact h11
 have S12:=hid hcut;clear hcut S11 hwt;obtain ⟨bt,Hbt⟩:∃ bt,Hid (x1.bytes-sizeN done-i.2=bt):=⟨_,rfl⟩;have hsum:IntKind.i64.wrap (x1.bytes-sizeN done-i.2)=x1.bytes-sizeN done-i.2:=IntWalk.i64_in _ (by omega);rw [Hbt.out] at hsum;go_upto_region 19 with fail
 refine wp_region_held_tail [(0,true),(1,true),(2,true),(3,true),(4,true),(5,true),(6,true),(7,true),(8,true)] (SW b w (cellOb w5.heap.size 31 #[.int .u64 i.1,.int .i64 i.2]::({ rmS x1 done with wait:=wt }:SR).obs (gitOb okID vID vBl w.heap.size r (goneL x.C ids) (done++[(i,gv)]) cnt1::l))) (by kernel_rfl) (fun _ _ d _ _ h=>by cases d<;>exact h) (by kernel_rfl) S12.out.drew ?_;simp only [pk_];have S13:=hid S12.out.drew;clear S12;generalize wc.drew=W6 at S13 |-; have hsm2:IntKind.i64.wrap (x1.bytes-sizeN done-i.2)=bt:=by rw [<- Hbt.out];exact IntWalk.i64_in _ (by omega)
 have HC:=hid (fun (w':World) (h:SW b w (cellOb w5.heap.size 31 #[.int .u64 i.1,.int .i64 i.2]::({ rmS x1 done with wait:=wt }:SR).obs (gitOb okID vID vBl w.heap.size r (goneL x.C ids) (done++[(i,gv)]) cnt1::l)) w')=>(⟨(h.cell 2 (g:=x1.ps) (t:=131) rfl).cell 5,(h.cell 0 rfl).cell 1⟩:w'.cell? ⟨x1.ps,5,none⟩=some (.int .i64 (x1.bytes-sizeN done))/\w'.cell? ⟨w5.heap.size,1,none⟩=some (.int .i64 i.2)))
 iterate 9
  (refine wpHeld_take (v:=?_) (Or.inl ⟨by rfl,?_⟩) ?_
   rotate_left
   · (intro w' hSw;obtain ⟨h1,h2⟩:=HC.out w' hSw;go_simp;try with_reducible rfl)
   try simp only [Act.put,zG,List.set])
 refine wpHeld_nil ?_;simp only [dz_];clear HC hsum hsm2;have k5:W6.cell? ⟨x1.ps,5,none⟩=some (.int .i64 (x1.bytes-sizeN done)):=(S13.out.cell 2 (g:=x1.ps) (t:=131) rfl).cell 5;have kz:W6.frozen? ⟨x1.ps,5,none⟩=false:=(S13.out.cell 2 (g:=x1.ps) (t:=131) rfl).frozen 5;go_upto_region 20 with fail
 have S14:Hid (SW b w (cellOb w5.heap.size 31 #[.int .u64 i.1,.int .i64 i.2]::({ rmS x1 done with wait:=wt,bytes:=bt }:SR).obs (gitOb okID vID vBl w.heap.size r (goneL x.C ids) (done++[(i,gv)]) cnt1::l)) (W6.setCell ⟨x1.ps,5,none⟩ (.int .i64 bt)).drew):=(S13.out.setAt 2 rfl 5 (.int .i64 bt)).drew;clear k5 kz S13;refine wp_region_held_tail [(0,true),(1,true),(2,true),(3,true),(4,true)] (SW b w (cellOb w5.heap.size 31 #[.int .u64 i.1,.int .i64 i.2]::({ rmS x1 done with wait:=wt,bytes:=bt }:SR).obs (gitOb okID vID vBl w.heap.size r (goneL x.C ids) (done++[(i,gv)]) cnt1::l))) (by kernel_rfl) (fun _ _ d _ _ h=>by cases d<;>exact h) (by kernel_rfl) S14.out ?_;simp only [pk_];generalize (W6.setCell ⟨x1.ps,5,none⟩ (.int .i64 bt)).drew=W7 at S14 |-; have HC:=hid (fun (w':World) (h:SW b w (cellOb w5.heap.size 31 #[.int .u64 i.1,.int .i64 i.2]::({ rmS x1 done with wait:=wt,bytes:=bt }:SR).obs (gitOb okID vID vBl w.heap.size r (goneL x.C ids) (done++[(i,gv)]) cnt1::l)) w')=>(⟨(h.cell 2 (g:=x1.ps) (t:=131) rfl).cell 2,(h.cell 0 rfl).cell 0,(h.cell 0 rfl).cell 1⟩:w'.cell? ⟨x1.ps,2,none⟩=some (.map (some x1.cm))/\w'.cell? ⟨w5.heap.size,0,none⟩=some (.int .u64 i.1)/\w'.cell? ⟨w5.heap.size,1,none⟩=some (.int .i64 i.2)))
 iterate 5
  (refine wpHeld_take (v:=?_) (Or.inl ⟨by rfl,?_⟩) ?_
   rotate_left
   · (intro w' hSw;obtain ⟨h1,h2,h3⟩:=HC.out w' hSw;go_simp;try with_reducible rfl)
   try simp only [Act.put,zG,List.set])
 refine wpHeld_nil ?_;simp only [dz_];clear HC;obtain ⟨w8,hrun,hm8,hg8,hz8⟩:=MapIs.delete mkI Tryz.underlying128 (S14.out.get 3 (o:=chOb x1.cm (delAll x1.C done)) rfl).1 HOKI.out 31 0;have hrun':∀ ty,(Builtin.delete_ #[128,31] ty #[.map (some x1.cm),.agg #[.int .u64 i.1,.int .i64 i.2]]).run Tryz.prog W7= .ok (.tuple #[]) w8:=fun _=>hrun;have S15:=hid (S14.out.delCh 3 rfl hm8 hg8);clear hrun hm8 hg8 hz8 S14;go_wp2_with fail
 go_roundw
 case rel=>
  refine ⟨done++[(i,gv)],cnt1,?_⟩
  have e3:rmS x1 (done++[(i,gv)])=({ rmS x1 done with wait:=wt,bytes:=bt,C:=delL (delAll x1.C done) i }:SR):=by
   unfold rmS;rw [delAll_snoc,Hwt.out,HSZ.out, <- Hbt.out,Int.sub_sub]
  rw [e3];exact S15.out.tail
 rw [(S15.out.get 5 rfl:RIs okID vID vBl _ w.heap.size r (goneL x.C ids) (done++[(i,gv)]) cnt1).left_eq,Hleft.out];exact Hlt.out
theorem Remove_any {b:Nat} {w:World} {x:SR} {l:List Ob} (h:Sto b w x l) (hw:WH x) (A:Option Addr) (c:Nat) (ids:List ID) (hA:riOb A ids∈l) (hok:∀ i∈ids,okID i) (hl:ids.length<=100000)
 (hT:∀ f,x.F=some f->f.T=[]) (hR:anyAt x.C (goneL x.C ids)=true->readE x.s (fileN x.nm)=0/\(∀ y∈durs x.C,(y.2:Int)+28+y.1.2<=(readB x.s (fileN x.nm)).length)/\entSum (durs x.C)<=1048576) (hF:anyAt x.C (goneL x.C ids)=true->∃ f,x.F=some f)
 (hb0:0<=x.bytes) (hb1:x.bytes<=1099511627776):
 Calls Tryz.prog 25 #[vPtr x.ps,.slice A ids.length c] w (RemPost b x ids l w):=
 Remove_wr h hw.wr A c ids hA hok hl hT hR hF hb0 hb1
end
end Go.Proofs.YteabgcollokgjaaGreatDoor
