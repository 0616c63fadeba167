/- Q -/
import Derived.Test.YteabgcollokgjaaGreatDoorQP36
import Derived.Test.YteabgcollokgjaaGreatDoorQP37
set_option linter.unusedSimpArgs false
set_option linter.unusedVariables false
set_option maxRecDepth 100000
set_option maxHeartbeats 32000000
open List renaming append_nil → zA
namespace Go.Proofs.YteabgcollokgjaaGreatDoor
section
open Go.RowKit Go.MapKept Go.ChangeMaps Go.Shelf Go.Sort
section
variable {s:St} {bs:List UInt8} {n1 n2:Nat}
theorem renew_lostS (ho:s.ops=[]) (hd:s.dn=false) (hns:NmI s.K) (hb:bs.length<=1048576) (hn:n1<=200) {E:Int} {s':St} (h0:E≠0)
 (h:(E=rqE s nmS n1 n2 bs/\s'=rqS s nmS n1 n2 bs)∨(rqE s nmS n1 n2 bs=0/\E=syncE (rqS s nmS n1 n2 bs)/\s'=syncS (rqS s nmS n1 n2 bs))):
 E=303/\s'.ops.length<=2/\∀ keep torn,NmI (lossF s' keep torn)/\(lossF s' keep torn (fileN nmS)=s.K (fileN nmS)∨lossF s' keep torn (fileN nmS)=some bs):=by
 have e:=st_eta ho hd;generalize s.K=K at e hns |-; generalize s.f=f at e;subst e;exact renew_lost hns hb hn h0 h
theorem renew_okS (ho:s.ops=[]) (hd:s.dn=false) (h1:rqE s nmS n1 n2 bs=0) (h2:syncE (rqS s nmS n1 n2 bs)=0):∃ f',syncS (rqS s nmS n1 n2 bs)=⟨applyF (applyF s.K (crOp nmS bs)) (rnOp nmS),[],false,f'⟩:=by
 have e:=st_eta ho hd;generalize s.K=K at e |-; generalize s.f=f at e;subst e;exact renew_ok h1 h2
theorem one_lostS (ho:s.ops=[]) (hd:s.dn=false) {n:Nat} {o:POp} {E:Int} (hg:gate s n o=0) (h0:E≠0) (h:E=reqE s n o):E=303/\(reqS s n o).ops.length<=2/\∀ keep torn,lossF (reqS s n o) keep torn=s.K:=by
 have e:=st_eta ho hd;generalize s.K=K at e |-; generalize s.f=f at e;subst e;exact one_lost hg h0 h
theorem one_syncS (ho:s.ops=[]) (hd:s.dn=false) {n:Nat} {o:POp} {E:Int} (h0:E≠0) (e0:reqE s n o=0) (h:E=syncE (reqS s n o)):
 E=303/\(syncS (reqS s n o)).ops.length<=2/\∀ keep torn,lossF (syncS (reqS s n o)) keep torn=s.K∨(o.tears=true/\lossF (syncS (reqS s n o)) keep torn=applyF s.K (o.cutTo torn))∨lossF (syncS (reqS s n o)) keep torn=applyF s.K o:=by
 have e:=st_eta ho hd;generalize s.K=K at e |-; generalize s.f=f at e;subst e;exact one_sync h0 e0 h
theorem one_okS (ho:s.ops=[]) (hd:s.dn=false) {n:Nat} {o:POp} (e0:reqE s n o=0) (e1:syncE (reqS s n o)=0):∃ f',syncS (reqS s n o)=⟨applyF s.K o,[],false,f'⟩:=by
 have e:=st_eta ho hd;generalize s.K=K at e |-; generalize s.f=f at e;subst e;exact one_ok e0 e1
end
theorem frSum_lay:∀ ds:List (List UInt8),frSum (ds.map fpOf)=layN ds
 | []=>rfl
 | d::ds=>by
  have h:=frSum_lay ds;have e1:frSum ((d::ds).map fpOf)=28+(fpOf d).2.toNat+frSum (ds.map fpOf):=by simp [frSum]
  have e2:layN (d::ds)=28+d.length+layN ds:=by simp [layN]
  have e3:(fpOf d).2.toNat=d.length:=by simp [fpOf]
  rw [e1,e2,e3,h]
theorem wfOp_cln (F:Option FR) (nm:ByteArray) (bs:List UInt8):wfOp (clnF F) nm bs=wfOp F nm bs:=by cases F<;>rfl
theorem wfOp_cut (F:Option FR) (nm:ByteArray) (bs:List UInt8) (t:Int):(wfOp F nm bs).cutTo t=wfOp F nm (bs.take t.toNat):=by cases F<;>rfl
section
variable {b:Nat} {w0 w:World} {x:SR} {cs P:List (List UInt8)} {l:List Ob}
theorem KpI.ds (h:KpI x cs P) {ids:List ID} (hp:ids.Perm (Go.Proofs.YteabgcollokgjaaGreatDoor.pends x.C)):
 (∀ i∈ids,fpOf (pendB x.C i)=i)/\ids.Nodup/\(∀ i∈ids,i ∉ cs.map fpOf)/\((cs++ids.map (pendB x.C)).map fpOf).Nodup/\(∀ t∈P,t∈cs∨t∈ids.map (pendB x.C))/\(∀ t∈ids.map (pendB x.C),t∈P/\IsText t)/\(ids.map (pendB x.C)).map fpOf=ids:=by
 have hi:∀ i∈ids,∃ d bs,(i,Pl.pend d bs)∈x.C/\pendB x.C i=bs/\i=fpOf bs/\bs∈P/\IsText bs:=fun i hi=>by
  obtain ⟨d,bs,hm⟩:=pends_mem (hp.mem_iff.1 hi);obtain ⟨e,h1,h2,_⟩:=h.pend hm;refine ⟨d,bs,hm,?_,e,h1,h2⟩;unfold pendB;rw [asc_mem h.keys hm]
 have h1:∀ i∈ids,fpOf (pendB x.C i)=i:=fun i hi'=>by
  obtain ⟨d,bs,_,e,e2,_⟩:=hi i hi';rw [e, <- e2]
 have h2:ids.Nodup:=hp.nodup_iff.2 (pends_nodup h.keys)
 have h7:(ids.map (pendB x.C)).map fpOf=ids:=by
  rw [List.map_map];exact (List.map_congr_left (g:=id) h1).trans (List.map_id _)
 have h3:∀ i∈ids,i ∉ cs.map fpOf:=fun i hi' hc=>by
  obtain ⟨d,bs,hm,_⟩:=hi i hi';rw [<- layC_keys 0 cs] at hc;obtain ⟨⟨j,pl⟩,hm2,e⟩:=List.mem_map.1 hc;simp only at e;subst e;obtain ⟨o,e⟩:=layC_at cs 0 _ hm2;simp only at e;subst e;have a1:=asc_mem h.keys hm;have a2:=asc_mem h.keys ((h.lay _ o).2 hm2);rw [a1] at a2;cases a2
 refine ⟨h1,h2,h3,?_,fun t ht=>?_,fun t ht=>?_,h7⟩
 · rw [List.map_append,h7];refine List.nodup_append.2 ⟨h.dsk.nd,h2,fun a ha c hc e=>?_⟩;subst e;exact h3 a hc ha
 · rcases h.where ht with ⟨hc,_⟩ | ⟨d,hm⟩
   · exact .inl hc
   refine .inr (List.mem_map.2 ⟨fpOf t,hp.mem_iff.2 (pends_of hm (h.pend hm).2.2.2),?_⟩);unfold pendB;rw [asc_mem h.keys hm]
 obtain ⟨i,hi',rfl⟩:=List.mem_map.1 ht;obtain ⟨d,bs,_,e,_,k1,k2⟩:=hi i hi';rw [e];exact ⟨k1,k2⟩
theorem KpI.clean (h:KpI x cs P) (hc:∀ f,x.F=some f->f.clean=true):((x.F=none/\x.s.now (fileN nmS)=none/\cs=[])∨(∃ f,x.F=some f/\x.s.now (fileN nmS)=some (layB 0 cs)))/\flen x.F=layN cs:=by
 cases hF:x.F with
 | none=>
  have h1:x.s.now (fileN x.nm)=none:=(h.cl.no (by simp [SR.cln,clnF,hF])).1;rw [h.nm] at h1;rcases h.dsk.file with ⟨J,_,e⟩ | ⟨_,e⟩
  · rw [h1] at e;cases e
  exact ⟨.inl ⟨rfl,h1,e⟩,by rw [e];rfl⟩
 | some f=>
  have h1:=h.whole f hF (hc f hF);obtain ⟨_,D,h2,h3,_⟩:=h.cl.file { f with clean:=true } (by simp [SR.cln,clnF,hF]);have h2:x.s.now (fileN x.nm)=some D:=h2;rw [h.nm,h1] at h2;injection h2 with h2;subst h2;rw [layB_len] at h3;exact ⟨.inr ⟨f,rfl,h1⟩,h3.symm⟩
abbrev FlushKP (b:Nat) (w0:World) (x:SR) (cs P:List (List UInt8)) (l:List Ob) (e:Ending) (w':World):Prop:=
 (e= .returned (.int .i64 0)/\∃ (x':SR) (cs':List (List UInt8)),SW b w0 (x'.obs l) w'/\KpI x' cs' P/\(∀ c∈P,c∈cs')/\x'.ps=x.ps/\x'.p=x.p)∨
 (e= .returned (.int .i64 303)/\∃ x1:SR,SW b w0 (x1.obs l) w'/\x1.dead=true/\x1.ps=x.ps/\x1.p=x.p/\x1.s.ops.length<=2/\LostD x1.s cs P)
theorem KpI.frs (h:KpI x cs P):frSum (Go.Proofs.YteabgcollokgjaaGreatDoor.pends x.C)<=960/\(Go.Proofs.YteabgcollokgjaaGreatDoor.pends x.C).length<=30:=by
 have h1:=h.tx.pends;have h2:=h.few;have h3:(Go.Proofs.YteabgcollokgjaaGreatDoor.pends x.C).length<=x.C.length:=by unfold Go.Proofs.YteabgcollokgjaaGreatDoor.pends;rw [List.length_map];exact List.length_filter_le _ _
 omega
theorem Flush_Kc (h:SW b w0 (x.obs l) w) (hK:KpI x cs P) (h0:x.wait≠0) (hc:∀ f,x.F=some f->f.clean=true):Calls Tryz.prog 35 #[vPtr x.ps] w (FlushKP b w0 x cs P l):=by
 have hwr:=hK.wr;obtain ⟨hfc,hfl⟩:=hK.clean hc;obtain ⟨f1,f2⟩:=hK.frs;obtain ⟨f3,f4⟩:=hK.dsk.few
 have hpn:Go.Proofs.YteabgcollokgjaaGreatDoor.pends x.C≠[]:=fun e=>by
  have:=hK.waits;rw [e] at this;exact h0 this
 have hWH:WH x:={ hK.wf with whole:=hc,own:=hwr.own,ops:=hwr.ops,files:=hwr.files,ids8:=hwr.ids8,wait0:=hwr.wait0,wait1:=hwr.wait1 };refine (Flush_any h.1 hWH h0 hpn (by omega) (by omega)).mono ?_;rintro e w' ⟨q,hp,_,hql,n,r',hn,E,rfl,hcs⟩;obtain ⟨d1,d2,d3,d4,d5,d6,d7⟩:=hK.ds hp;have hwl:=wfold_lay (layN cs) x.C q.ids ([],[]) d1 d2 (by simp);simp only [List.nil_append,List.length_nil,Nat.add_zero] at hwl;have hwl:wfold (layN cs) x.C [] q.ids=(layC (layN cs) (q.ids.map (pendB x.C)),layB (layN cs) (q.ids.map (pendB x.C))):=hwl;have hdl:layN (q.ids.map (pendB x.C))=frSum q.ids:=by rw [<- frSum_lay,d7]
 have hfs:=frSum_perm hp;generalize hds:q.ids.map (pendB x.C)=ds at *; rw [hfl,hwl,hK.nm] at hcs;simp only at hcs
 have hg:gate x.s n (wfOp x.F nmS (layB (layN cs) ds))=0:=by
  have h1:=(hK.cl.req (n:=n) hn (layB (layN cs) ds) (by
   show flen (clnF x.F)+_<=_;rw [flen_cln,layB_len];omega)).1
  have h2:=(reqE_zero h1).1;have h3:gate x.s n (wfOp (clnF x.F) x.nm (layB (layN cs) ds))=0:=h2;rw [wfOp_cln,hK.nm] at h3;exact h3
 have happ:∀ bs,applyF x.s.K (wfOp x.F nmS bs)=FF.set x.s.K (fileN nmS) (some (layB 0 cs++bs)):=fun bs=>by
  rcases hfc with ⟨e,_,rfl⟩ | ⟨f,e,e2⟩
  · rw [e];rfl
  rw [hK.now] at e2;rw [e];simp only [applyF,wfOp,e2];rfl
 have hnm:NmI x.s.K:=by
  rw [<- hK.now];exact hK.dsk.ns
 have hset:∀ v,NmI (FF.set x.s.K (fileN nmS) v):=fun v=>hnm.set v (.inl rfl)
 have hdK:DskI x.s.K cs:=by
  rw [<- hK.now];exact hK.dsk
 rcases hcs with ⟨h1,h2,hs⟩ | ⟨h1,e0,h2,hs⟩ | ⟨h1,e0,e1,done,g,hdone,hgl,hgc,hgT,hs⟩
 · obtain ⟨k1,k2,k3⟩:=one_lostS hK.ops hK.up hg h1 h2;subst k1;refine .inr ⟨rfl,_,⟨hs.1,h.2.trans hs.2⟩,rfl,rfl,rfl,k2,fun keep torn=>?_⟩;exact ⟨cs,by rw [k3];exact hdK,fun _ hc=>hc,hK.sub⟩
 · obtain ⟨k1,k2,k3⟩:=one_syncS hK.ops hK.up h1 e0 h2;subst k1;refine .inr ⟨rfl,_,⟨hs.1,h.2.trans hs.2⟩,rfl,rfl,rfl,k2,fun keep torn=>?_⟩
   have hpart:∀ t:Nat,∃ cs',DskI (FF.set x.s.K (fileN nmS) (some (layB 0 cs++(layB (layN cs) ds).take t))) cs'/\(∀ c∈cs,c∈cs')/\∀ c∈cs',c∈P:=fun t=>by
    obtain ⟨k,hk⟩:=hdK.part (hset (some (layB 0 cs++(layB (layN cs) ds).take t))) d4 (fun c hc=>(d6 c hc).2) t (by simp [FF.set]);refine ⟨_,hk,fun c hc=>List.mem_append.2 (.inl hc),fun c hc=>?_⟩;rcases List.mem_append.1 hc with hc | hc
    · exact hK.sub c hc
    exact (d6 c (List.mem_of_mem_take hc)).1
   rcases k3 keep torn with e | ⟨_,e⟩ | e
   · exact ⟨cs,by rw [e];exact hdK,fun _ hc=>hc,hK.sub⟩
   · rw [e,wfOp_cut,happ];exact hpart _
   rw [e,happ];have:=hpart (layB (layN cs) ds).length;rw [List.take_length] at this;exact this
 subst h1;obtain ⟨f',e3⟩:=one_okS hK.ops hK.up e0 e1;rw [happ] at e3;rw [e3] at hs
 have hdn:(done.map (·.1)).Nodup:=by
  refine (hdone.map _).nodup_iff.2 ?_;rw [layC_keys,d7];exact d2
 have hu:=fun i=>updAll_asc x.C done hdn i
 have hdi:∀ i,i∈done.map (·.1)↔i∈q.ids:=fun i=>by
  rw [(hdone.map (·.1)).mem_iff,layC_keys,d7]
 have hk2:=updAll_nodup x.C done hK.keys
 have hC':∀ i pl,(i,pl)∈updAll x.C done↔(i,pl)∈done∨(i ∉ q.ids/\(i,pl)∈x.C):=fun i pl=>by
  rw [asc_iff hk2,hu i];cases ha:asc done i with
  | some pl'=>
   have hm:=mem_of_asc ha;have hi:i∈q.ids:=(hdi i).1 (List.mem_map.2 ⟨_,hm,rfl⟩);simp only;rw [asc_iff hdn,ha];constructor
   · exact fun h=> .inl h
   rintro (h | ⟨h,_⟩)
   · exact h
   exact absurd hi h
  | none=>
   have hi:i ∉ q.ids:=fun hi=>by
    have:=asc_key.2 ((hdi i).2 hi);rw [ha] at this;cases this
   simp only;rw [asc_iff hdn,ha,asc_iff hK.keys];constructor
   · exact fun h=> .inr ⟨hi,h⟩
   rintro (h | ⟨_,h⟩)
   · cases h
   exact h
 have hsame:(updAll x.C done).map (·.1)=x.C.map (·.1):=updAll_same x.C done (fun c hc=>by
  have hi:=(hdi c.1).1 (List.mem_map.2 ⟨_,hc,rfl⟩);obtain ⟨d,bs,hm⟩:=pends_mem (hp.mem_iff.1 hi);exact List.mem_map.2 ⟨_,hm,rfl⟩)
 have hlen:done.length=(Go.Proofs.YteabgcollokgjaaGreatDoor.pends x.C).length:=by
  rw [<- hp.length_eq,hdone.length_eq];have:=congrArg List.length (layC_keys (layN cs) ds);rw [d7] at this;simpa using this
 have hD:DskI (FF.set x.s.K (fileN nmS) (some (layB 0 cs++layB (layN cs) ds))) (cs++ds):=⟨hset _,d4,fun c hc=>by
  rcases List.mem_append.1 hc with hc | hc
  · exact hK.dsk.tx c hc
  exact (d6 c hc).2,.inl ⟨[],.inl rfl,by simp [FF.set,layB_app]⟩⟩
 refine .inl ⟨rfl,_,cs++ds,⟨hs.1,h.2.trans hs.2⟩,KpI.done hK.nm hK.live rfl rfl hD hk2 (fun i o=>?_) (fun c hc=>?_) ?_ ?_ (.inr ⟨g,[],rfl,?_,?_,?_,fun _=>rfl,by simp⟩) (fun c=>⟨fun hc=>?_,fun hc=>List.mem_append.2 (d5 c hc)⟩),fun c hc=>List.mem_append.2 (d5 c hc),rfl,rfl⟩
 · show (i,Pl.at o)∈updAll x.C done↔_;rw [hC',layC_app,List.mem_append,Nat.zero_add,hdone.mem_iff,hK.lay];constructor
   · rintro (h | ⟨_,h⟩)
     · exact .inr h
     exact .inl h
   rintro (h | h)
   · refine .inr ⟨fun hi=>d3 i hi ?_,h⟩;rw [<- layC_keys 0 cs];exact List.mem_map.2 ⟨_,h,rfl⟩
   exact .inl h
 · obtain ⟨i,pl⟩:=c;rcases (hC' i pl).1 hc with h | ⟨h1,h2⟩
   · exact layC_at ds _ _ (hdone.mem_iff.1 h)
   cases pl with
   | «at» o=>exact ⟨o,rfl⟩
   | pend d bs=>exact absurd (hp.mem_iff.2 (pends_of h2 (hK.pend h2).2.2.2)) h1
 · show x.wait-(done.length:Int)=0;rw [hK.waits,hlen];omega
 · show x.bytes=sizeC (updAll x.C done);unfold sizeC;rw [hsame];exact hK.cl.size
 · rw [hgT];cases hF:x.F with
   | none=>rfl
   | some f0=>exact (hK.cl.file { f0 with clean:=true } (by simp [SR.cln,clnF,hF])).1
 · rw [zA,layB_app,Nat.zero_add];show FF.set x.s.K (fileN nmS) (some (layB 0 cs++layB (layN cs) ds)) (fileN nmS)=some (layB 0 cs++layB (layN cs) ds);unfold FF.set;rw [if_pos rfl]
 · have e:layN (cs++ds)=layN cs+layN ds:=by simp [layN]
   rw [hgl,hql,hfl,e,hdl];rfl
 rcases List.mem_append.1 hc with hc | hc
 · exact hK.sub c hc
 exact (d6 c hc).1
end
section
variable {b:Nat} {w0 w:World} {x:SR} {cs P:List (List UInt8)} {l:List Ob}
theorem KpI.cnt (h:KpI x cs P) {n:Nat} (hn:Cnt x.s.now n):n<=200:=h.cl.files n hn
theorem KpI.nmi (h:KpI x cs P):NmI x.s.K:=by
 rw [<- h.now];exact h.dsk.ns
theorem KpI.dskK (h:KpI x cs P):DskI x.s.K cs:=by
 rw [<- h.now];exact h.dsk
theorem KpI.file (h:KpI x cs P) {f:FR} (hF:x.F=some f):∃ D,x.s.now (fileN nmS)=some D/\D.length=f.len/\f.T=[]/\readE x.s (fileN x.nm)=0/\readB x.s (fileN x.nm)=D/\D.length<=1000/\∀ y∈durs x.C,(y.2:Int)+28+y.1.2<=D.length:=by
 obtain ⟨h1,D,h2,h3,_⟩:=h.cl.file { f with clean:=true } (by simp [SR.cln,clnF,hF]);have h2:x.s.now (fileN x.nm)=some D:=h2;obtain ⟨e1,e2⟩:=readE_ok h.up (nameB_file h.cl.nv) h2;have h4:=h2;rw [h.nm] at h4;refine ⟨D,h4,h3,h1,e1,e2,?_,fun y hy=>?_⟩
 · rcases h.dsk.file with ⟨J,hJ,e⟩ | ⟨e,_⟩
   · rw [h4] at e;injection e with e;have:=h.dsk.few.2;have:=hJ.len;rw [e,List.length_append,layB_len];omega
   rw [h4] at e;cases e
 obtain ⟨c,_,h5,_,h6⟩:=h.at h4 (durs_mem hy);have e:(fpOf c).2=(c.length:Int):=rfl;rw [h5,e];omega
theorem Flush_Ku (h:SW b w0 (x.obs l) w) (hK:KpI x cs P) (h0:x.wait≠0) {f:FR} (hF:x.F=some f) (hcl:f.clean=false):Calls Tryz.prog 35 #[vPtr x.ps] w (FlushKP b w0 x cs P l):=by
 have hwr:=hK.wr;obtain ⟨f1,f2⟩:=hK.frs;obtain ⟨f3,f4⟩:=hK.dsk.few;have hfew:=hK.few
 have hpn:Go.Proofs.YteabgcollokgjaaGreatDoor.pends x.C≠[]:=fun e=>by
  have:=hK.waits;rw [e] at this;exact h0 this
 obtain ⟨D,hD,hDl,hT,hrE,hrB,hD1,hat⟩:=hK.file hF
 have hsum:entSum (durs x.C)<=1000:=by
  have h1:entSum (durs x.C)<=flen (clnF x.F):=hK.cl.frames;rw [flen_cln,hF] at h1;have h2:flen (some f)=f.len:=rfl;omega
 refine (FlushU_any h hK.live hK.up ⟨f,hF,hcl⟩ (by omega) hwr.ids8 hwr.own hwr.name D hrE hrB hat (by rw [hK.ops];simp) (fun n hn=>hK.cnt hn) hwr.wait0 hwr.wait1 h0 hpn (by omega) (by omega)).mono ?_;rintro e w' ⟨q,hp,hys,hql,n1,n2,r',hn1,hn2,E,rfl,hcs⟩;obtain ⟨d1,d2,d3,d4,d5,d6,d7⟩:=hK.ds hp;have hynd:(q.ys.map (·.1)).Nodup:=(hys.map _).nodup_iff.2 (durs_nodup _ hK.keys);obtain ⟨p1,p2,p3⟩:=hK.part hD (zs:=q.ys) (fun y hy=>durs_mem (hys.mem_iff.1 hy)) hynd;generalize hes:q.ys.map (fun y=>cutB D y.1 y.2)=es at p1 p2 p3
 have hes2:∀ i,i∈es.map fpOf↔i∈(durs x.C).map (·.1):=fun i=>by
  rw [p2];exact (hys.map _).mem_iff
 have hdis:∀ i∈q.ids,i ∉ es.map fpOf:=fun i hi hc=>by
  rw [hes2] at hc;obtain ⟨y,hy,e⟩:=List.mem_map.1 hc;obtain ⟨c,hc1,hc2,_⟩:=hK.at hD (durs_mem hy);exact d3 i hi (List.mem_map.2 ⟨c,hc1,by rw [<- hc2];exact e⟩)
 have hwl:=wfold_lay 0 x.C q.ids (layC 0 es,layB 0 es) d1 d2 (fun i hi=>by
  show i ∉ (layC 0 es).map (·.1);rw [layC_keys];exact hdis i hi)
 have hwl:afold x.C (rfold D [] q.ys) q.ids=(layC 0 es++layC (0+(layB 0 es).length) (q.ids.map (pendB x.C)),layB 0 es++layB (0+(layB 0 es).length) (q.ids.map (pendB x.C))):=by
  rw [p1];exact hwl
 rw [layB_len, <- layC_app, <- layB_app] at hwl;have hdl:layN (q.ids.map (pendB x.C))=frSum q.ids:=by rw [<- frSum_lay,d7]
 have hel:layN es=entSum q.ys:=by
  have h1:frSum (es.map fpOf)=layN es:=frSum_lay es;rw [p2] at h1;rw [<- h1];simp [frSum,entSum,Function.comp_def]
 have hfs:=frSum_perm hp;have hesum:=entSum_perm hys
 have hcsP:∀ c,c∈es++q.ids.map (pendB x.C)↔c∈P:=fun c=>by
  rw [List.mem_append];constructor
  · rintro (hc | hc)
    · exact hK.sub c (p3 c hc)
    exact (d6 c hc).1
  intro hc;rcases hK.where hc with ⟨h1,o,h2⟩ | ⟨d,h2⟩
  · left
    obtain ⟨y,hy,e⟩:=List.mem_map.1 ((hes2 (fpOf c)).2 (List.mem_map.2 ⟨_,durs_of h2,rfl⟩));have:=text_inj (hK.dsk.tx _ (p3 y hy)) (hK.dsk.tx c h1) e;rw [<- this];exact hy
  rcases d5 c hc with h3 | h3
  · exfalso
    have hi:=hp.mem_iff.2 (pends_of h2 (hK.pend h2).2.2.2);exact d3 _ hi (List.mem_map.2 ⟨c,h3,rfl⟩)
  exact .inr h3
 have hnd:((es++q.ids.map (pendB x.C)).map fpOf).Nodup:=by
  rw [List.map_append,d7,p2];refine List.nodup_append.2 ⟨hynd,d2,fun a ha c hc e=>?_⟩;subst e;exact hdis a hc (by rw [p2];exact ha)
 have htx:∀ c∈es++q.ids.map (pendB x.C),IsText c:=fun c hc=>hK.tx.text c ((hcsP c).1 hc)
 have hkeys:∀ i,i∈(layC 0 (es++q.ids.map (pendB x.C))).map (·.1)↔i∈x.C.map (·.1):=fun i=>by
  rw [layC_keys];constructor
  · intro hi;obtain ⟨c,hc,rfl⟩:=List.mem_map.1 hi;have:=hK.tx.has (fpOf c);rw [decide_eq_true (List.mem_map.2 ⟨c,(hcsP c).1 hc,rfl⟩)] at this;exact asc_key.1 this
  intro hi;obtain ⟨t,ht,e,_⟩:=hK.tx.key hi;exact List.mem_map.2 ⟨t,(hcsP t).2 ht,e⟩
 have hlN:layN (es++q.ids.map (pendB x.C))=q.len:=by
  have e:layN (es++q.ids.map (pendB x.C))=layN es+layN (q.ids.map (pendB x.C)):=by simp [layN]
  rw [e,hel,hdl,hql]
 generalize es++q.ids.map (pendB x.C)=cs' at *; rw [hwl,hK.nm] at hcs;simp only at hcs
 have hbl:(layB 0 cs').length<=1048576:=by
  rw [layB_len,hlN,hql];omega
 have hnew:∀ {K:FF},NmI K->K (fileN nmS)=some (layB 0 cs')->DskI K cs':=fun {K} h1 h2=>⟨h1,hnd,htx,.inl ⟨[],.inl rfl,by rw [h2,zA]⟩⟩
 have hlost:∀ {s':St},(∀ keep torn,NmI (lossF s' keep torn)/\(lossF s' keep torn (fileN nmS)=x.s.K (fileN nmS)∨lossF s' keep torn (fileN nmS)=some (layB 0 cs')))->LostD s' cs P:=fun {s'} hl keep torn=>by
  obtain ⟨h1,h2⟩:=hl keep torn;rcases h2 with h2 | h2
  · exact ⟨cs,hK.dskK.same h1 h2,fun _ hc=>hc,hK.sub⟩
  exact ⟨cs',hnew h1 h2,fun c hc=>(hcsP c).2 (hK.sub c hc),fun c hc=>(hcsP c).1 hc⟩
 rcases hcs with ⟨h1,h2,hs⟩ | ⟨h1,e0,h2,hs⟩ | ⟨h1,e0,e1,done,g,hdone,hgl,hgc,hgT,hs⟩
 · obtain ⟨k1,k2,k3⟩:=renew_lostS hK.ops hK.up hK.nmi hbl (hK.cnt hn1) h1 (.inl ⟨h2,rfl⟩);subst k1;exact .inr ⟨rfl,_,hs,rfl,rfl,rfl,k2,hlost k3⟩
 · obtain ⟨k1,k2,k3⟩:=renew_lostS hK.ops hK.up hK.nmi hbl (hK.cnt hn1) h1 (.inr ⟨e0,h2,rfl⟩);subst k1;exact .inr ⟨rfl,_,hs,rfl,rfl,rfl,k2,hlost k3⟩
 subst h1;obtain ⟨f',e3⟩:=renew_okS hK.ops hK.up e0 e1;obtain ⟨_,_,r3,r4⟩:=renew_now (bs:=layB 0 cs') hK.nmi;rw [e3] at hs
 have hdn:(done.map (·.1)).Nodup:=by
  refine (hdone.map _).nodup_iff.2 ?_;rw [layC_keys];exact hnd
 have hk2:=updAll_nodup x.C done hK.keys;have hdk:∀ i,i∈done.map (·.1)↔i∈x.C.map (·.1):=fun i=>((hdone.map (·.1)).mem_iff).trans (hkeys i)
 have hC':∀ i pl,(i,pl)∈updAll x.C done↔(i,pl)∈done:=fun i pl=>by
  rw [asc_iff hk2,updAll_asc x.C done hdn i,asc_iff hdn];cases ha:asc done i with
  | some pl'=>rfl
  | none=>
   have hi:i ∉ x.C.map (·.1):=fun hi=>by
    have:=asc_key.2 ((hdk i).2 hi);rw [ha] at this;cases this
   have hn:asc x.C i=none:=by
    cases hn:asc x.C i with
    | none=>rfl
    | some v=>exact absurd (asc_key.1 (by rw [hn];rfl)) hi
   simp only;rw [hn]
 have hsame:(updAll x.C done).map (·.1)=x.C.map (·.1):=updAll_same x.C done (fun c hc=>(hdk c.1).1 (List.mem_map.2 ⟨_,hc,rfl⟩))
 have hpd:pdN x.C done=((Go.Proofs.YteabgcollokgjaaGreatDoor.pends x.C).length:Int):=by
  unfold pdN
  have hperm:((done.filter fun c=>((asc x.C c.1).map Pl.isP).getD false).map (·.1)).Perm (Go.Proofs.YteabgcollokgjaaGreatDoor.pends x.C):=by
   refine (List.perm_ext_iff_of_nodup (hdn.sublist (List.filter_sublist.map _)) (pends_nodup hK.keys)).2 (fun i=>?_);rw [pends_iff];constructor
   · intro hi;obtain ⟨c,hc,rfl⟩:=List.mem_map.1 hi;obtain ⟨c1,c2⟩:=List.mem_filter.1 hc;cases ha:asc x.C c.1 with
     | none=>rw [ha] at c2;cases c2
     | some pl=>
      rw [ha] at c2;have c2:pl.isP=true:=c2;have hm:=mem_of_asc ha;refine ⟨pl,hm,?_⟩;cases pl with
      | «at» o=>cases c2
      | pend d bs=>exact (hK.pend hm).2.2.2
   rintro ⟨pl,hm,hA⟩;obtain ⟨c,hc,e⟩:=List.mem_map.1 ((hdk i).2 (List.mem_map.2 ⟨_,hm,rfl⟩));refine List.mem_map.2 ⟨c,List.mem_filter.2 ⟨hc,?_⟩,e⟩;rw [e,asc_mem hK.keys hm];cases pl with
   | «at» o=>cases hA
   | pend d bs=>rfl
  have:=hperm.length_eq;rw [List.length_map] at this;rw [this]
 refine .inl ⟨rfl,_,cs',hs,KpI.done rfl hK.live rfl rfl (hnew r3 r4) hk2 (fun i o=>?_) (fun c hc=>?_) ?_ ?_ (.inr ⟨g,[],rfl,hgT,?_,?_,fun _=>rfl,by simp⟩) hcsP,fun c hc=>(hcsP c).2 hc,rfl,rfl⟩
 · show (i,Pl.at o)∈updAll x.C done↔_;rw [hC',hdone.mem_iff]
 · obtain ⟨i,pl⟩:=c;exact layC_at cs' _ _ (hdone.mem_iff.1 ((hC' i pl).1 hc))
 · show x.wait-pdN x.C done=0;rw [hK.waits,hpd];omega
 · show x.bytes=sizeC (updAll x.C done);unfold sizeC;rw [hsame];exact hK.cl.size
 · rw [zA];exact r4
 rw [hgl,hlN];rfl
theorem Flush_K (h:SW b w0 (x.obs l) w) (hK:KpI x cs P):Calls Tryz.prog 35 #[vPtr x.ps] w (FlushKP b w0 x cs P l):=by
 by_cases h0:x.wait=0
 · refine (Flush_idle h.1 hK.live hK.up h0).mono ?_;rintro e w' ⟨rfl,rfl⟩;refine .inl ⟨rfl,x,cs,h,hK,fun c hc=>?_,rfl,rfl⟩;rcases hK.where hc with ⟨h1,_⟩ | ⟨d,h2⟩
   · exact h1
   exfalso
   have h3:=pends_of h2 (hK.pend h2).2.2.2;have h4:=hK.waits;rw [h0] at h4;have:=List.length_pos_of_mem h3;omega
 cases hF:x.F with
 | none=>exact Flush_Kc h hK h0 (fun f hf=>by rw [hF] at hf;cases hf)
 | some f=>
  cases hcl:f.clean with
  | true=>exact Flush_Kc h hK h0 (fun g hg=>by rw [hF] at hg;injection hg with hg;rw [<- hg];exact hcl)
  | false=>exact Flush_Ku h hK h0 hF hcl
end
theorem After.cln {x x1:SR} {G:List (ID×Bool)} (h:After x G x1):After x.cln G x1.cln:=by
 have h2:=h.unf
 have key:∀ {y y1:SR},After y G y1->After { y with F:=clnF y.F } G { y1 with F:=clnF y1.F }:=fun {y y1} h=>by
  cases h with
  | none hno=>exact .none hno
  | del n r h1 hn e1 e2 hgo=>exact .del n r h1 hn e1 e2 hgo
  | ren n1 n2 r ys mv f hany hys hsrt hst hn1 hn2 e1 e2 hmv hfl hfc hfT=>
   have hff:({ f with clean:=true }:FR)=f:=by
    obtain ⟨a,b,c,d,e⟩:=f;simp only at hfc;rw [hfc]
   have:=After.ren (x:={ y with F:=clnF y.F }) (G:=G) n1 n2 r ys mv f hany hys hsrt hst hn1 hn2 e1 e2 hmv hfl hfc hfT;simp only [clnF,Option.map_some,hff];exact this
 exact key h2
section
variable {b:Nat} {w0 w:World} {x:SR} {cs P:List (List UInt8)} {ids:List ID} {l:List Ob}
theorem KpI.place (h:KpI x cs P) {c:List UInt8} (hc:c∈cs):∃ o,(fpOf c,Pl.at o)∈x.C:=by
 have hk:fpOf c∈(layC 0 cs).map (·.1):=by
  rw [layC_keys];exact List.mem_map.2 ⟨c,hc,rfl⟩
 obtain ⟨⟨i,pl⟩,hm,e⟩:=List.mem_map.1 hk;simp only at e;subst e;obtain ⟨o,e⟩:=layC_at cs 0 _ hm;simp only at e;subst e;exact ⟨o,(h.lay _ o).2 hm⟩
theorem gone_not {C:Chs} {G:List (ID×Bool)} {i:ID} (h:i ∉ G.map (·.1)):(asc G i).getD false=false:=by
 cases hv:asc G i with
 | none=>rfl
 | some v=>exact absurd (asc_key.1 (by rw [hv];rfl)) h
theorem stays_of {x:SR} {i:ID} {o:Nat} {ys:List Ent} (hys:ys.Perm (durs x.C)) (hm:(i,Pl.at o)∈x.C) (hi:i ∉ ids):(i,o)∈stays (goneL x.C ids) ys:=by
 refine List.mem_filter.2 ⟨hys.mem_iff.2 (durs_of hm),?_⟩;have:=gone_not (C:=x.C) (G:=goneL x.C ids) (i:=i) (fun h=>hi ((goneL_key x.C ids i).1 h).1);simp only [this];rfl
theorem stays_mem {x:SR} {ys:List Ent} (hys:ys.Perm (durs x.C)) {y:Ent} (hy:y∈stays (goneL x.C ids) ys):(y.1,Pl.at y.2)∈x.C/\y.1 ∉ ids:=by
 obtain ⟨h1,h2⟩:=List.mem_filter.1 hy;have hm:=durs_mem (hys.mem_iff.1 h1);refine ⟨hm,fun hi=>?_⟩;rw [goneT ((goneL_key x.C ids y.1).2 ⟨hi,asc_key.2 (List.mem_map.2 ⟨_,hm,rfl⟩)⟩)] at h2;simp at h2
theorem KpI.stay (h:KpI x cs P) {D:List UInt8} (hD:x.s.now (fileN nmS)=some D) {ys:List Ent} (hys:ys.Perm (durs x.C)):
 ∃ es,rfold D [] (stays (goneL x.C ids) ys)=(layC 0 es,layB 0 es)/\(es.map fpOf).Nodup/\(∀ c,c∈es↔c∈cs/\fpOf c ∉ ids)/\layN es=entSum (stays (goneL x.C ids) ys):=by
 have hynd:((stays (goneL x.C ids) ys).map (·.1)).Nodup:=((hys.map (·.1)).nodup_iff.2 (durs_nodup _ h.keys)).sublist (List.filter_sublist.map _);obtain ⟨p1,p2,p3⟩:=h.part hD (zs:=stays (goneL x.C ids) ys) (fun y hy=>(stays_mem hys hy).1) hynd;refine ⟨_,p1,by rw [p2];exact hynd,fun c=>⟨fun hc=>⟨p3 c hc,?_⟩,fun hc=>?_⟩,?_⟩
 · have:fpOf c∈((stays (goneL x.C ids) ys).map fun y=>cutB D y.1 y.2).map fpOf:=List.mem_map.2 ⟨c,hc,rfl⟩;rw [p2] at this;obtain ⟨y,hy,e⟩:=List.mem_map.1 this;rw [<- e];exact (stays_mem hys hy).2
 · obtain ⟨o,hm⟩:=h.place hc.1;refine List.mem_map.2 ⟨_,stays_of hys hm hc.2,?_⟩;obtain ⟨d,h1,h2,h3,_⟩:=h.at hD hm;rw [h3];exact text_inj (h.dsk.tx d h1) (h.dsk.tx c hc.1) h2.symm
 rw [<- frSum_lay,p2];simp [frSum,entSum,Function.comp_def]
abbrev RemKP (b:Nat) (w0:World) (x:SR) (cs P:List (List UInt8)) (ids:List ID) (l:List Ob) (e:Ending) (w':World):Prop:=
 (∃ n:Int,e= .returned (.tuple #[.int .i64 n,.int .i64 0])/\∃ (x':SR) (cs':List (List UInt8)),SW b w0 (x'.obs l) w'/\KpI x' cs' (P.filter fun t=> !decide (fpOf t∈ids))/\(∀ c∈cs,fpOf c ∉ ids->c∈cs')/\x'.ps=x.ps/\x'.p=x.p)∨
 (e= .returned (.tuple #[.int .i64 0,.int .i64 303])/\∃ x1:SR,SW b w0 (x1.obs l) w'/\x1.dead=true/\x1.ps=x.ps/\x1.p=x.p/\x1.s.ops.length<=2/\LostD x1.s (cs.filter fun t=> !decide (fpOf t∈ids)) P)
theorem KpI.any (h:KpI x cs P) {G:List (ID×Bool)} (ha:anyAt x.C G=true):∃ f D,x.F=some f/\x.s.now (fileN nmS)=some D/\readB x.s (fileN x.nm)=D:=by
 obtain ⟨f,hf⟩:=anyAt_file (x:=x.cln) h.cl ha;cases hF:x.F with
 | none=>simp [SR.cln,clnF,hF] at hf
 | some g=>
  obtain ⟨D,h1,_,_,_,h2,_⟩:=h.file hF;exact ⟨g,D,rfl,h1,h2⟩
theorem KpI.fails (h:KpI x cs P) {E:Int} {x1:SR} (hE:E≠0) (hf:Fails x (goneL x.C ids) E x1):E=303/\x1.dead=true/\x1.ps=x.ps/\x1.p=x.p/\x1.s.ops.length<=2/\LostD x1.s (cs.filter fun t=> !decide (fpOf t∈ids)) P:=by
 have hS:∀ c∈cs.filter (fun t=> !decide (fpOf t∈ids)),c∈cs/\fpOf c ∉ ids:=fun c hc=>by
  obtain ⟨h1,h2⟩:=List.mem_filter.1 hc;exact ⟨h1,by simpa using h2⟩
 have hold:∀ {K:FF},DskI K cs->∃ cs',DskI K cs'/\(∀ c∈cs.filter (fun t=> !decide (fpOf t∈ids)),c∈cs')/\∀ c∈cs',c∈P:=fun {K} hd=>⟨cs,hd,fun c hc=>(hS c hc).1,h.sub⟩
 have hren:∀ {D:List UInt8} {ys:List Ent} {s':St},x.s.now (fileN nmS)=some D->ys.Perm (durs x.C)->(∀ keep torn,NmI (lossF s' keep torn)/\(lossF s' keep torn (fileN nmS)=x.s.K (fileN nmS)∨lossF s' keep torn (fileN nmS)=some (rfold D [] (stays (goneL x.C ids) ys)).2))->LostD s' (cs.filter fun t=> !decide (fpOf t∈ids)) P:=fun {D ys s'} hD hys hl keep torn=>by
  obtain ⟨es,p1,p2,p3,_⟩:=h.stay (ids:=ids) hD hys;obtain ⟨h1,h2⟩:=hl keep torn;rcases h2 with h2 | h2
  · exact hold (h.dskK.same h1 h2)
  rw [p1] at h2;exact ⟨es,⟨h1,p2,fun c hc=>h.dsk.tx c ((p3 c).1 hc).1,.inl ⟨[],.inl rfl,by rw [h2,zA]⟩⟩,fun c hc=>(p3 c).2 (hS c hc),fun c hc=>h.sub c ((p3 c).1 hc).1⟩
 have hlen:∀ {D:List UInt8} {ys:List Ent},x.s.now (fileN nmS)=some D->ys.Perm (durs x.C)->(rfold D [] (stays (goneL x.C ids) ys)).2.length<=1048576:=fun {D ys} hD hys=>by
  obtain ⟨es,p1,p2,p3,_⟩:=h.stay (ids:=ids) hD hys;have:=(texts_few p2 (fun c hc=>h.dsk.tx c ((p3 c).1 hc).1)).2;rw [p1];simp only;rw [layB_len];omega
 cases hf with
 | req n r E hany hcn e1 e2=>
  have hg:gate x.s n (delOp x.nm)=0:=(reqE_zero (h.cl.reqDel n (anyAt_file h.cl hany)).1).1;obtain ⟨k1,k2,k3⟩:=one_lostS h.ops h.up hg e2 e1;subst k1;refine ⟨rfl,rfl,rfl,rfl,k2,fun keep torn=>?_⟩;have k4:=k3 keep torn;simp only;rw [k4];exact hold h.dskK
 | sync n r E hany hcn e0 e1 e2 hgo=>
  obtain ⟨k1,k2,k3⟩:=one_syncS h.ops h.up e2 e0 e1;subst k1;refine ⟨rfl,rfl,rfl,rfl,k2,fun keep torn=>?_⟩;rcases k3 keep torn with e | ⟨e,_⟩ | e
  · simp only;rw [e];exact hold h.dskK
  · cases e
  simp only;rw [e];have ea:applyF x.s.K (delOp x.nm)=FF.set x.s.K (fileN nmS) none:=by rw [h.nm];rfl
  rw [ea];refine ⟨[],⟨h.nmi.set _ (.inl rfl),List.nodup_nil,(fun c hc=>by cases hc),.inr ⟨by simp [FF.set],rfl⟩⟩,fun c hc=>?_,(fun c hc=>by cases hc)⟩;obtain ⟨h1,h2⟩:=hS c hc;obtain ⟨o,hm⟩:=h.place h1;have h3:=stays_of (ids:=ids) (List.Perm.refl (durs x.C)) hm h2;rw [hgo _ (List.Perm.refl _)] at h3;cases h3
 | rreq n1 n2 r ys E hany hys hsrt hn1 hn2 e1 e2=>
  obtain ⟨f,D,hF,hD,hB⟩:=h.any hany;rw [hB,h.nm] at e1;obtain ⟨k1,k2,k3⟩:=renew_lostS h.ops h.up h.nmi (hlen hD hys) (h.cnt hn1) e2 (.inl ⟨e1,rfl⟩);subst k1;rw [<- h.nm, <- hB] at k2;refine ⟨rfl,rfl,rfl,rfl,k2,?_⟩;have:=hren hD hys k3;rw [<- h.nm, <- hB] at this;rw [hB];rw [hB] at this;exact this
 | rsync n1 n2 r ys E hany hys hsrt hn1 hn2 e0 e1 e2=>
  obtain ⟨f,D,hF,hD,hB⟩:=h.any hany;rw [hB,h.nm] at e0 e1;obtain ⟨k1,k2,k3⟩:=renew_lostS h.ops h.up h.nmi (hlen hD hys) (h.cnt hn1) e2 (.inr ⟨e0,e1,rfl⟩);subst k1;rw [<- h.nm, <- hB] at k2;refine ⟨rfl,rfl,rfl,rfl,k2,?_⟩;have:=hren hD hys k3;rw [<- h.nm, <- hB] at this;rw [hB];rw [hB] at this;exact this
theorem KpI.after (h:KpI x cs P) {x1:SR} {done:List (ID×Bool)} (ha:After x (goneL x.C ids) x1) (hd:done.Perm (goneL x.C ids)):
 ∃ cs',KpI (rmS x1 done) cs' (P.filter fun t=> !decide (fpOf t∈ids))/\(∀ c∈cs,fpOf c ∉ ids->c∈cs')/\x1.ps=x.ps/\x1.p=x.p:=by
 obtain ⟨a1,a2⟩:=gone_cl (x:=x.cln) h.cl ha.cln hd
 have hTX:TX (rmS x1 done) (P.filter fun t=> !decide (fpOf t∈ids)):=by
  have h1:TX x.cln P:=⟨h.tx.has,h.tx.val,h.tx.text⟩;have h2:=h1.gone a2;exact ⟨h2.has,h2.val,h2.text⟩
 have hops:=ha.ops h.ops;have hdk:∀ i,i∈done.map (·.1)↔i∈ids/\(asc x.C i).isSome=true:=fun i=>(hd.map _).mem_iff.trans (goneL_key x.C ids i);have hnmx:x1.nm=nmS:=a2.nm.trans h.nm;have hcl:Cl [fileN nmS,freshN nmS] (rmS x1 done).cln:=a1;refine (show ∃ cs',((DskI x1.s.now cs'/\(∀ i o,(i,Pl.at o)∈delAll x1.C done↔(i,Pl.at o)∈layC 0 cs')/\∀ f,x1.F=some f->f.clean=true->x1.s.now (fileN nmS)=some (layB 0 cs'))/\∀ c∈cs,fpOf c ∉ ids->c∈cs')/\x1.ps=x.ps/\x1.p=x.p from ?_).elim (fun cs' hh=>⟨cs',⟨hnmx,hops,hcl,hh.1.1.1,hh.1.1.2.1,hTX,hh.1.1.2.2⟩,hh.1.2,hh.2⟩);cases ha with
 | none hno=>
  refine ⟨cs,⟨⟨h.dsk,fun i o=>?_,h.whole⟩,fun c hc _=>hc⟩,rfl,rfl⟩;rw [delAll_iff x.C h.keys, <- h.lay];constructor
  · exact fun h=>h.2
  refine fun hm=>⟨fun hi=>?_,hm⟩;obtain ⟨g,hg,rfl⟩:=List.mem_map.1 hi;have h1:=asc_mem h.keys hm
  have:anyAt x.C (goneL x.C ids)=true:=by
   unfold anyAt;rw [List.any_eq_true];exact ⟨g,hd.mem_iff.1 hg,by rw [h1];rfl⟩
  rw [hno] at this;cases this
 | del n r h1 hn e1 e2 hgo=>
  obtain ⟨f',e3⟩:=one_okS h.ops h.up e1 e2;have ea:applyF x.s.K (delOp x.nm)=FF.set x.s.K (fileN nmS) none:=by rw [h.nm];rfl
  rw [ea] at e3
  have hall:∀ c∈cs,fpOf c∈ids:=fun c hc=>by
   refine Classical.byContradiction fun hi=>?_;obtain ⟨o,hm⟩:=h.place hc;have h3:=stays_of (ids:=ids) (List.Perm.refl (durs x.C)) hm hi;rw [hgo _ (List.Perm.refl _)] at h3;cases h3
  refine ⟨[],⟨⟨?_,fun i o=>⟨fun hm=>?_,fun hm=>by cases hm⟩,fun f hf=>by cases hf⟩,fun c hc hi=>absurd (hall c hc) hi⟩,rfl,rfl⟩
  · simp only;rw [e3];exact ⟨h.nmi.set _ (.inl rfl),List.nodup_nil,(fun c hc=>by cases hc),.inr ⟨by simp [St.now,FF.set],rfl⟩⟩
  exfalso
  obtain ⟨k1,k2⟩:=(delAll_iff x.C h.keys done i _).1 hm;obtain ⟨c,hc,e,_⟩:=cut_lay cs [] i o ((h.lay i o).1 k2);refine k1 ((hdk i).2 ⟨?_,asc_key.2 (List.mem_map.2 ⟨_,k2,rfl⟩)⟩);rw [e];exact hall c hc
 | ren n1 n2 r ys mv f hany hys hsrt hst hn1 hn2 e1 e2 hmv hfl hfc hfT=>
  obtain ⟨g,D,hF,hD,hB⟩:=h.any hany;obtain ⟨es,p1,p2,p3,_⟩:=h.stay (ids:=ids) hD hys;rw [hB,p1] at hmv e1 e2;simp only [h.nm] at hmv e1 e2;obtain ⟨f',e3⟩:=renew_okS h.ops h.up e1 e2;obtain ⟨_,_,r3,r4⟩:=renew_now (bs:=layB 0 es) h.nmi
  have hs:(syncS (rqS x.s x.nm n1 n2 (rfold (readB x.s (fileN x.nm)) [] (stays (goneL x.C ids) ys)).2)).now=applyF (applyF x.s.K (crOp nmS (layB 0 es))) (rnOp nmS):=by
   rw [hB,p1,h.nm];simp only;rw [e3];rfl
  have hmn:(mv.map (·.1)).Nodup:=by
   refine (hmv.map _).nodup_iff.2 ?_;rw [layC_keys];exact p2
  have hmk:∀ i,i∈mv.map (·.1)↔i∈es.map fpOf:=fun i=>by rw [(hmv.map (·.1)).mem_iff,layC_keys]
  have hk2:=updAll_nodup x.C mv h.keys;refine ⟨es,⟨⟨?_,fun i o=>?_,fun _ _ _=>?_⟩,fun c hc hi=>(p3 c).2 ⟨hc,hi⟩⟩,rfl,rfl⟩
  · simp only;rw [hs];exact ⟨r3,p2,fun c hc=>h.dsk.tx c ((p3 c).1 hc).1,.inl ⟨[],.inl rfl,by rw [r4,zA]⟩⟩
  · show (i,Pl.at o)∈delAll (updAll x.C mv) done↔_;rw [delAll_iff _ hk2,asc_iff hk2,updAll_asc x.C mv hmn i, <- hmv.mem_iff,asc_iff hmn];cases hv:asc mv i with
    | some pl'=>
     simp only;constructor
     · exact fun h=>h.2
     refine fun he=>⟨fun hi=>?_,he⟩;obtain ⟨c,hc,e⟩:=List.mem_map.1 ((hmk i).1 (asc_key.1 (by rw [hv];rfl)));exact ((p3 c).1 hc).2 (by rw [e];exact ((hdk i).1 hi).1)
    | none=>
     simp only;constructor
     · rintro ⟨k1,k2⟩;exfalso
       have hm:=mem_of_asc k2;obtain ⟨c,hc,e,_⟩:=cut_lay cs [] i o ((h.lay i o).1 hm);have hi:fpOf c ∉ ids:=fun hi=>k1 ((hdk i).2 ⟨by rw [e];exact hi,asc_key.2 (List.mem_map.2 ⟨_,hm,rfl⟩)⟩);have:=asc_key.2 ((hmk i).2 (List.mem_map.2 ⟨c,(p3 c).2 ⟨hc,hi⟩,e.symm⟩));rw [hv] at this;cases this
     intro he;cases he
  simp only;rw [hs];exact r4
theorem Rem_K (h:SW b w0 (x.obs l) w) (hK:KpI x cs P) (A:Option Addr) (c:Nat) (hA:riOb A ids∈l) (hok:∀ i∈ids,okID i) (hl:ids.length<=100000):Calls Tryz.prog 25 #[vPtr x.ps,.slice A ids.length c] w (RemKP b w0 x cs P ids l):=by
 have hb:=hK.bytes;refine (Remove_wr h.1 hK.wr A c ids hA hok hl (fun f hf=>by obtain ⟨_,_,_,h1,_⟩:=hK.file hf;exact h1) (fun ha=>hK.cl.ren ha) (fun ha=>by obtain ⟨f,_,h1,_⟩:=hK.any ha;exact ⟨f,h1⟩) hb.1 (by omega)).mono ?_;rintro e w' (⟨E,x1,hE,rfl,hf,hs⟩ | ⟨x1,done,rfl,ha,hd,hs⟩)
 · obtain ⟨rfl,h1,h2,h3,h4,h5⟩:=hK.fails hE hf;exact .inr ⟨rfl,x1,h.then hs,h1,h2,h3,h4,h5⟩
 obtain ⟨cs',h1,h2,h3,h4⟩:=hK.after ha hd;exact .inl ⟨_,rfl,rmS x1 done,cs',h.then hs,h1,h2,h3,h4⟩
end
end
section
open Go.RowKit Go.MapKept Go.ChangeMaps Go.Shelf Go.Sort
attribute [local go_sem] wext_cell
end
section
open Go.RowKit Go.MapKept Go.ChangeMaps Go.Shelf Go.Sort
theorem Cl.fuse {ns:List ByteArray} {x:SR} (h:Cl ns x) (r':Rp) (n:Int):Cl ns ({ x with r:=r',s:={ x.s with f:=n } }:SR).unf where
 live:=h.live
 up:=h.up
 name:=h.name
 few:=h.few
 ids:=h.ids
 offs:=h.offs
 pends:=h.pends
 whole:=h.whole
 own:=h.own
 ops:=h.ops
 files:=h.files
 ids8:=h.ids8
 wait0:=h.wait0
 wait1:=h.wait1
 keys:=h.keys
 f0:=rfl
 nv:=h.nv
 ns1:=h.ns1
 ns2:=h.ns2
 ns3:=h.ns3
 no:=h.no
 file:=h.file
 len:=h.len
 waits:=h.waits
 pA:=h.pA
 size:=h.size
 frames:=h.frames
section
variable {b:Nat} {w0 w:World} {l:List Ob} {P0:List (List UInt8)} {live:List ID} {cp ps dp:Nat} {x:SR}
theorem Fuse_S {p:Nat} {r:Rp} {s:St} {k:Nat} (h:SW b w0 l w) (hk:l[k]? =some (devOb p r s)) (n:Int) (hn:n<=9223372036854775807):Calls Tryz.prog 50 #[vPtr p,.int .i64 n] w (fun e w'=>e= .returned (.tuple #[])/\∃ r',SW b w0 (l.set k (devOb p r' { s with f:=max n 0 })) w'):=by
 refine (goes_S (Fuse_any p r s n w (h.1.dv hk) hn) h.1 hk).mono ?_;rintro e w' ⟨rfl,r',s',hb⟩;exact ⟨rfl,r',s',h.2.trans hb⟩
theorem Lose_S {p:Nat} {r:Rp} {s:St} {k:Nat} (h:SW b w0 l w) (hk:l[k]? =some (devOb p r s)) (keep torn:Int) (hL:s.ops.length<=1000000) (ht:torn<=9223372036854775807):Calls Tryz.prog 51 #[vPtr p,.agg #[.int .i64 keep,.int .i64 torn]] w (fun e w'=>e= .returned (.tuple #[])/\∃ r',SW b w0 (l.set k (devOb p r' (loseS s keep torn))) w'):=by
 refine (goes_S (Lose_any p r s keep torn w (h.1.dv hk) hL ht) h.1 hk).mono ?_;rintro e w' ⟨rfl,r',s',hb⟩;exact ⟨rfl,r',s',h.2.trans hb⟩
theorem Restart_S {p:Nat} {r:Rp} {s:St} {k:Nat} (h:SW b w0 l w) (hk:l[k]? =some (devOb p r s)) (hL:s.ops.length<=1000000):Calls Tryz.prog 52 #[vPtr p] w (fun e w'=>e= .returned (.tuple #[])/\∃ r',SW b w0 (l.set k (devOb p r' (restartS s))) w'):=by
 refine (goes_S (Restart_any p r s w (h.1.dv hk) hL) h.1 hk).mono ?_;rintro e w' ⟨rfl,r',s',hb⟩;exact ⟨rfl,r',s',h.2.trans hb⟩
end
end
end Go.Proofs.YteabgcollokgjaaGreatDoor
