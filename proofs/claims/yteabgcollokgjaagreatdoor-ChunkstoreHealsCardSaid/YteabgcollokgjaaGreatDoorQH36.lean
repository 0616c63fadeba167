/- Q -/
import Derived.Test.YteabgcollokgjaaGreatDoorQH35
set_option linter.unusedSimpArgs false
set_option linter.unusedVariables false
set_option maxRecDepth 100000
set_option maxHeartbeats 32000000
open Go.Lib (hid)
open List renaming length_append → zA,length_map → zB,getElem?_eq_getElem → zC,length_singleton → zD
open Nat renaming le_trans → zE,zero_add → zF
namespace Go.Proofs.YteabgcollokgjaaGreatDoor
section
open Go.RowKit Go.MapKept Go.ChangeMaps Go.Shelf Go.Sort
structure HlI (x:SR) (D:List UInt8) (f:FR) (n:Nat):Prop where
 nm:x.nm=nmS
 live:x.dead=false
 up:x.s.dn=false
 f0:x.s.f=0
 ops:x.s.ops=[]
 one:∀ m,(x.s.now m).isSome=true↔m=fileN nmS
 now:x.s.now (fileN nmS)=some D
 fr:x.F=some f
 len:f.len=D.length
 dl:D.length<=1200
 keys:(x.C.map (·.1)).Nodup
 ats:∀ i o,(i,Pl.at o)∈x.C->1<=i.2/\o+28+i.2.toNat<=D.length
 pe:∀ i d bs,(i,Pl.pend d bs)∈x.C->i=fpOf bs/\IsText bs/\d.A.isSome=true
 few:x.C.length<=41+n
 pn:(pends x.C).length<=n
 wait:x.wait=((pends x.C).length:Int)
 by0:0<=x.bytes/\x.bytes<=1000000+10*(n:Int)
 sum:entSum (durs x.C)<=1200
 np:n<=5
theorem HlI.more {x:SR} {D:List UInt8} {f:FR} {n m:Nat} (h:HlI x D f n) (hm:n<=m) (hm5:m<=5):HlI x D f m:=
 { h with few:=zE h.few (by omega),pn:=zE h.pn hm,by0:=⟨h.by0.1,by have:=h.by0.2;omega⟩,np:=hm5 }
section
variable {b:Nat} {w0 w:World} {x:SR} {l:List Ob} {D:List UInt8} {f:FR} {n:Nat}
theorem HlI.idb (h:HlI x D f n):∀ c∈x.C,1<=c.1.2/\c.1.2<=1200:=fun c hc=>by
 obtain ⟨i,pl⟩:=c;cases pl with
 | «at» o=>
  obtain ⟨h1,h2⟩:=h.ats i o hc;have:=h.dl;simp only;omega
 | pend d bs=>
  obtain ⟨h1,h2,_⟩:=h.pe i d bs hc;have e:(fpOf bs).2=(bs.length:Int):=rfl;have:=h2.lo;have:=h2.hi;simp only;rw [h1,e];omega
theorem HlI.wf (h:HlI x D f n):WF x where
 live:=h.live
 up:=h.up
 name:=by rw [h.nm];decide
 few:=by have:=h.few;have:=h.np;omega
 ids:=fun c hc=>by have:=h.idb c hc;omega
 offs:=fun i o hc=>by have:=(h.ats i o hc).2;have:=h.dl;omega
 pends:=fun i d bs hc=>by have:=(h.pe i d bs hc).2.1.hi;omega
theorem HlI.read (h:HlI x D f n):readE x.s (fileN x.nm)=0/\readB x.s (fileN x.nm)=D:=by
 rw [h.nm];exact readE_ok h.up (nameB_file nmS_ok) h.now
theorem HlI.rd (h:HlI x D f n) (i:ID) (o:Nat):readC x.s x.nm i (.at o)=if cutOk D i o=true then some (cutB D i o) else none:=by
 obtain ⟨h1,h2⟩:=h.read;simp only [readC,h1,h2,true_and]
theorem HlI.cnt (h:HlI x D f n):∀ k,Cnt x.s.now k->k<=200:=fun k hk=>by
 obtain ⟨L,h1,h2,rfl⟩:=hk;have:=len_le_sub L [fileN nmS] h1 (fun a ha=>by rw [List.mem_singleton];exact (h.one a).1 ((h2 a).1 ha));simp at this;omega
def Good (x:SR) (G:List (List UInt8)):Prop:=∀ t∈G,IsText t/\valC x (fpOf t)=some t
theorem Good.set {y:SR} {G:List (List UInt8)} (h:Good x G) {bs:List UInt8} {d:BD} (ht:IsText bs) (hC:y.C=setL x.C (fpOf bs) (.pend d bs)) (hs:y.s=x.s) (hn:y.nm=x.nm):Good y (bs::G):=by
 have key:∀ t,IsText t->(t=bs∨valC x (fpOf t)=some t)->valC y (fpOf t)=some t:=fun t htt hv=>by
  unfold valC;rw [hC,asc_setL,hs,hn];by_cases e:fpOf bs=fpOf t
  · rw [if_pos e];have:=text_inj ht htt e;subst this;rfl
  rw [if_neg e];rcases hv with rfl | hv
  · exact absurd rfl e
  exact hv
 intro t hm;rcases List.mem_cons.1 hm with rfl | hm
 · exact ⟨ht,key _ ht (.inl rfl)⟩
 exact ⟨(h t hm).1,key _ (h t hm).1 (.inr (h t hm).2)⟩
abbrev PutHP (b:Nat) (w0:World) (x:SR) (D:List UInt8) (n:Nat) (bs:List UInt8) (G:List (List UInt8)) (l:List Ob) (e:Ending) (w':World):Prop:=
 e= .returned (.tuple #[.agg #[.int .u64 (fpOf bs).1,.int .i64 (fpOf bs).2],.int .i64 0])/\∃ x' f',SW b w0 (x'.obs l) w'/\HlI x' D f' (n+1)/\x'.ps=x.ps/\x'.p=x.p/\Good x' (bs::G)
theorem Put_H (h:SW b w0 (x.obs l) w) (hH:HlI x D f n) (hn:n<5) (A:Option Addr) (c:Nat) (bs:List UInt8) (hs:RS w A bs) (ht:IsText bs) {G:List (List UInt8)} (hG:Good x G):Calls Tryz.prog 23 #[vPtr x.ps,.slice A bs.length c] w (PutHP b w0 x D n bs G l):=by
 have h1:=ht.lo;have h2:=ht.hi;have hpn:=hH.pn;have hw:=hH.wait;have hf:=hH.few
 have hsame:∀ pl,asc x.C (fpOf bs)=some pl->readC x.s x.nm (fpOf bs) pl=some bs->Calls Tryz.prog 23 #[vPtr x.ps,.slice A bs.length c] w (PutHP b w0 x D n bs G l):=fun pl ha hr=>by
  have:=Put_there h.1 hH.wf A c bs hs h1 (by omega) pl ha bs hr;rw [if_pos rfl,if_pos rfl] at this;refine this.mono ?_;rintro e w' ⟨rfl,hb⟩;refine ⟨rfl,x,f,h.on hb,hH.more (by omega) (by omega),rfl,rfl,fun t hm=>?_⟩;rcases List.mem_cons.1 hm with rfl | hm
  · exact ⟨ht,by unfold valC;rw [ha];exact hr⟩
  exact hG t hm
 cases ha:asc x.C (fpOf bs) with
 | none=>
  refine (Put_new h.1 hH.wf A c bs hs h1 (by omega) ha (by omega) (by omega) (by omega) hH.by0.1 (by have:=hH.by0.2;omega)).mono ?_;rintro e w' ⟨rfl,d,hs',_,hb⟩;have hsw:SW b w0 ((putS x (fpOf bs) d bs).obs l) w':=⟨hs',h.2.trans hb⟩;have hr:=hs'.spend (x:=putS x (fpOf bs) d bs) (id:=fpOf bs) (d:=d) (bs:=bs) (mem_of_asc (by simp only [putS];rw [asc_setL];simp));have hA:=rb_some hr.1 h1
  have hni:fpOf bs ∉ x.C.map (·.1):=fun hm=>by
   have:=asc_key.2 hm;rw [ha] at this;cases this
  have hC:setL x.C (fpOf bs) (Pl.pend d bs)=x.C++[(fpOf bs,Pl.pend d bs)]:=setL_new hni;have hpe:pends (x.C++[(fpOf bs,Pl.pend d bs)])=pends x.C++[fpOf bs]:=by simp [pends,Pl.A,hA]
  have hdu:durs (x.C++[(fpOf bs,Pl.pend d bs)])=durs x.C:=by rw [durs_app];simp [durs]
  refine ⟨rfl,_,f,hsw,?_,rfl,rfl,Good.set hG ht rfl rfl rfl⟩
  exact {
   nm:=hH.nm,live:=hH.live,up:=hH.up,f0:=hH.f0,ops:=hH.ops,one:=hH.one,now:=hH.now,fr:=hH.fr,len:=hH.len,dl:=hH.dl
   keys:=setL_nodup hH.keys _ _
   ats:=fun i o hm=>by
    rcases setL_memK hH.keys hm with ⟨_,e⟩ | ⟨_,hm⟩
    · cases e
    exact hH.ats i o hm
   pe:=fun i d' bs' hm=>by
    rcases setL_memK hH.keys hm with ⟨e1,e2⟩ | ⟨_,hm⟩
    · injection e2 with e2 e3;subst e2;subst e3;exact ⟨e1,ht,hA⟩
    exact hH.pe i d' bs' hm
   few:=by simp only [putS,hC,zA,zD];omega
   pn:=by simp only [putS,hC,hpe,zA,zD];omega
   wait:=by simp only [putS,hC,hpe,zA,zD];omega
   by0:=by
    have:=hH.by0;simp only [putS];omega
   sum:=by simp only [putS,hC,hdu];exact hH.sum
   np:=by omega }
 | some pl=>
  have hm:=mem_of_asc ha;cases pl with
  | pend d' bs'=>
   obtain ⟨e1,e2,_⟩:=hH.pe _ _ _ hm;have:=text_inj ht e2 e1;subst this;exact hsame _ ha rfl
  | «at» o=>
   have hrd:=hH.rd (fpOf bs) o;by_cases hc:cutOk D (fpOf bs) o=true
   · rw [if_pos hc] at hrd;have e:=fp4_inj h2 ((cutOk_len hc).1).symm;rw [<- e] at hrd;exact hsame _ ha hrd
   rw [if_neg hc] at hrd;refine (Put_stale h hH.wf A c bs hs h1 (by omega) f hH.fr o ha hrd (by omega) (by omega)).mono ?_;rintro e w' ⟨rfl,d,hsw,hA⟩;obtain ⟨k1,k2,k3⟩:=setL_pendL x.C (fpOf bs) o d bs ha hA;refine ⟨rfl,_,{ f with T:=setL f.T (fpOf bs) true },hsw,?_,rfl,rfl,Good.set hG ht rfl rfl rfl⟩
   exact {
    nm:=hH.nm,live:=hH.live,up:=hH.up,f0:=hH.f0,ops:=hH.ops,one:=hH.one,now:=hH.now,fr:=rfl,len:=hH.len,dl:=hH.dl
    keys:=setL_nodup hH.keys _ _
    ats:=fun i o hm=>by
     rcases setL_memK hH.keys hm with ⟨_,e⟩ | ⟨_,hm⟩
     · cases e
     exact hH.ats i o hm
    pe:=fun i d' bs' hm=>by
     rcases setL_memK hH.keys hm with ⟨e1,e2⟩ | ⟨_,hm⟩
     · injection e2 with e2 e3;subst e2;subst e3;exact ⟨e1,ht,hA⟩
     exact hH.pe i d' bs' hm
    few:=by simp only [putT,k3];omega
    pn:=by simp only [putT,k1];omega
    wait:=by simp only [putT,k1];omega
    by0:=by
     have:=hH.by0;simp only [putT];omega
    sum:=zE k2 hH.sum
    np:=by omega }
structure FinI (x:SR) (D:List UInt8):Prop where
 nm:x.nm=nmS
 live:x.dead=false
 up:x.s.dn=false
 now:x.s.now (fileN nmS)=some D
 keys:(x.C.map (·.1)).Nodup
 ats:∀ i o,(i,Pl.at o)∈x.C->1<=i.2/\o+28+i.2.toNat<=D.length
 dl:D.length<=4000
 pe:∀ i d bs,(i,Pl.pend d bs) ∉ x.C
 few:x.C.length<=49
theorem Moved.fin {x':SR} {D':List UInt8} (h:HlI x D f n) (hm:Moved D x.C x'.C D') (hk:(x'.C.map (·.1)).Nodup) (hnm:x'.nm=x.nm) (hlive:x'.dead=false) (hup:x'.s.dn=false) (hnow:x'.s.now (fileN nmS)=some D') (hdl:D'.length<=4000) {G:List (List UInt8)} (hG:Good x G):FinI x' D'/\Good x' G:=by
 have hmem:∀ i pl,(i,pl)∈x'.C->∃ o,pl=Pl.at o/\1<=i.2/\o+28+i.2.toNat<=D'.length/\i∈x.C.map (·.1):=fun i pl hc=>by
  have ha:=asc_mem hk hc;rcases hm i with ⟨_,h2⟩ | ⟨p,o,h1,h2,_,h4⟩
  · rw [h2] at ha;cases ha
  rw [h2] at ha;injection ha with ha;have hb:=mem_of_asc h1;exact ⟨o,ha.symm,(h.idb _ hb).1,h4,List.mem_map.2 ⟨_,hb,rfl⟩⟩
 refine ⟨⟨hnm.trans h.nm,hlive,hup,hnow,hk,fun i o hc=>?_,hdl,fun i d bs hc=>?_,?_⟩,fun t ht=>⟨(hG t ht).1,?_⟩⟩
 · obtain ⟨o',e,h1,h2,_⟩:=hmem i _ hc;injection e with e;subst e;exact ⟨h1,h2⟩
 · obtain ⟨o',e,_⟩:=hmem i _ hc;cases e
 · have:=len_le_sub (x'.C.map (·.1)) (x.C.map (·.1)) hk (fun i hi=>by
    obtain ⟨⟨j,pl⟩,hc,e⟩:=List.mem_map.1 hi;simp only at e;subst e;obtain ⟨_,_,_,_,hb⟩:=hmem _ _ hc;exact hb)
   rw [zB,zB] at this;have:=h.few;have:=h.np;omega
 obtain ⟨htx,hv⟩:=hG t ht;unfold valC at hv |-; obtain ⟨e1,e2⟩:=readE_ok hup (nameB_file nmS_ok) hnow;rcases hm (fpOf t) with ⟨h1,_⟩ | ⟨pl,o,h1,h2,h3,h4⟩
 · rw [h1] at hv;cases hv
 rw [h1] at hv;rw [h2];have hv:readC x.s x.nm (fpOf t) pl=some t:=hv
 have htb:txtB D (fpOf t) pl=t:=by
  cases pl with
  | pend d bs=>
   injection hv
  | «at» q=>
   rw [h.rd] at hv;split at hv
   · injection hv
   cases hv
 rw [htb] at h3;show readC x'.s x'.nm (fpOf t) (.at o)=some t;rw [hnm,h.nm]
 have hok:cutOk D' (fpOf t) o=true:=by
  have e:(fpOf t).2=(t.length:Int):=rfl;unfold cutOk;rw [h3,e];rw [e] at h4;simp only [Bool.and_eq_true,decide_eq_true_eq,and_true];omega
 simp only [readC,e1,e2,true_and];rw [if_pos hok,h3]
theorem Flush_H (h:SW b w0 (x.obs l) w) (hH:HlI x D f n) {G:List (List UInt8)} (hG:Good x G):Calls Tryz.prog 35 #[vPtr x.ps] w (fun e w'=>e= .returned (.int .i64 0)/\∃ x' D',SW b w0 (x'.obs l) w'/\FinI x' D'/\x'.ps=x.ps/\x'.p=x.p/\Good x' G):=by
 have hnp:=hH.np;have hpn:=hH.pn;have hw:=hH.wait;have hf:=hH.few;have hdl:=hH.dl;have hat:∀ i o,(i,Pl.at o)∈x.C->o+28+i.2.toNat<=D.length:=fun i o hm=>(hH.ats i o hm).2
 have hpe2:∀ i d bs,(i,Pl.pend d bs)∈x.C->i=fpOf bs/\d.A.isSome=true:=fun i d bs hm=>by
  obtain ⟨h1,_,h3⟩:=hH.pe i d bs hm;exact ⟨h1,h3⟩
 have hnow0:x.s.now=x.s.K:=by unfold St.now;rw [hH.ops];rfl
 have hfr:frSum (pends x.C)<=32*(pends x.C).length:=frSum_le _ (fun i hi=>by
  obtain ⟨d,bs,hm⟩:=pends_mem hi;obtain ⟨e,ht,_⟩:=hH.pe i d bs hm;have:=ht.hi;have e2:(fpOf bs).2=(bs.length:Int):=rfl;rw [e,e2];omega)
 by_cases hp:pends x.C=[]
 · have h0:x.wait=0:=by rw [hw,hp];rfl
   refine (Flush_idle h.1 hH.live hH.up h0).mono ?_;rintro e w' ⟨rfl,rfl⟩;refine ⟨rfl,x,D,h,⟨hH.nm,hH.live,hH.up,hH.now,hH.keys,hH.ats,by omega,fun i d bs hm=>?_,by omega⟩,rfl,rfl,hG⟩;have:=pends_of hm (hpe2 i d bs hm).2;rw [hp] at this;cases this
 have h0:x.wait≠0:=by
  rw [hw];have:=List.length_pos_iff.2 hp;omega
 obtain ⟨hrE,hrB⟩:=hH.read;cases hcl:f.clean with
 | true=>
  have hWH:WH x:={ hH.wf with whole:=fun g hg=>(by rw [hH.fr] at hg;injection hg with hg;rw [<- hg];exact hcl),own:=fun i d bs hm=>⟨(hH.pe i d bs hm).1,by have:=(hH.pe i d bs hm).2.1.hi;omega⟩,ops:=by rw [hH.ops];simp,files:=hH.cnt,ids8:=fun c hc=>by have:=hH.idb c hc;omega,wait0:=by omega,wait1:=by omega };have hfl:flen x.F=D.length:=by rw [hH.fr];exact hH.len
  refine (Flush_any h.1 hWH h0 hp (by omega) (by rw [hfl];omega)).mono ?_;rintro e w' ⟨q,hperm,_,hql,n1,r',hn1,E,rfl,hcs⟩;have hpl:=pendB_len hH.keys hperm (fun i d bs hm=>(hpe2 i d bs hm).1);have hwl:=wfold_len (flen x.F) x.C [] q.ids hpl;rw [frSum_perm hperm] at hwl;have hmv:=fun (done:Chs) (hd:done.Perm (wfold D.length x.C [] q.ids).1)=>moved_add hH.keys hperm hpe2 hat hd;rw [hfl] at hcs hwl;generalize hbs:(wfold D.length x.C [] q.ids).2=bs at hcs hwl hmv;have hwf:wfOp x.F x.nm bs=⟨.add,fileN x.nm,ByteArray.empty,bs,true⟩:=by rw [hH.fr];rfl
  obtain ⟨e1,e2⟩:=req_ok (s:=x.s) (n:=n1) (o:=wfOp x.F x.nm bs) (by
   rw [hwf,hH.nm];exact gate_add hH.up (nameB_file nmS_ok) hH.now (by omega)) hH.f0
  rw [e2] at hcs;obtain ⟨s1,s2⟩:=sync_ok (s:={ x.s with ops:=x.s.ops++[wfOp x.F x.nm bs] }) hH.up hH.f0;rw [e1,s1,s2,now_add] at hcs;rcases hcs with ⟨h1,h2,_⟩ | ⟨h1,_,h2,_⟩ | ⟨h1,_,_,done,g,hdone,_,_,_,hs⟩
  · exact absurd h2 h1
  · exact absurd h2 h1
  subst h1
  have hnow:applyF x.s.now (wfOp x.F x.nm bs) (fileN nmS)=some (D++bs):=by
   rw [hwf,hH.nm];simp [applyF,FF.set,hH.now]
  have hfin:=Moved.fin (x':=movedS x r' ⟨applyF x.s.now (wfOp x.F x.nm bs),[],false,0⟩ q.ids q.len done g) hH (hmv done hdone) (updAll_nodup x.C done hH.keys) rfl hH.live rfl hnow (by rw [zA];omega) hG;exact ⟨rfl,_,_,⟨hs.1,h.2.trans hs.2⟩,hfin.1,rfl,rfl,hfin.2⟩
 | false=>
  refine (FlushU_any h hH.live hH.up ⟨f,hH.fr,hcl⟩ (by omega) (fun c hc=>by have:=hH.idb c hc;omega) (fun i d bs hm=>⟨(hH.pe i d bs hm).1,by have:=(hH.pe i d bs hm).2.1.hi;omega⟩) hH.wf.name D hrE hrB (fun y hy=>?_) (by rw [hH.ops];simp) hH.cnt (by omega) (by omega) h0 hp (by omega) (by have:=hH.sum;omega)).mono ?_
  · have h1:=hat y.1 y.2 (durs_mem hy);have h2:=(hH.ats y.1 y.2 (durs_mem hy)).1;omega
  rintro e w' ⟨q,hperm,hys,hql,n1,n2,r',hn1,hn2,E,rfl,hcs⟩;have hmv:=fun (done:Chs) (hd:done.Perm (afold x.C (rfold D [] q.ys) q.ids).1)=>moved_renew hH.keys hperm hys hpe2 hat hd;have hpl:=pendB_len hH.keys hperm (fun i d bs hm=>(hpe2 i d bs hm).1)
  have hbl:(afold x.C (rfold D [] q.ys) q.ids).2.length<=1400:=by
   rw [afold_len x.C (rfold D [] q.ys) q.ids hpl,rfold_len D [] q.ys (fun y hy=>?_),entSum_perm hys,frSum_perm hperm]
   · have:=hH.sum;omega
   have h1:=hat y.1 y.2 (durs_mem (hys.mem_iff.1 hy));have h2:=(hH.ats y.1 y.2 (durs_mem (hys.mem_iff.1 hy))).1;omega
  generalize hbs:(afold x.C (rfold D [] q.ys) q.ids).2=bs at hcs hmv hbl;obtain ⟨e1,e2⟩:=rq_ok (s:=x.s) (nm:=x.nm) (n1:=n1) (n2:=n2) (bs:=bs) hH.up hH.f0 (by rw [hH.nm];exact nmS_ok) (hH.cnt n1 hn1) (by omega);obtain ⟨s1,s2⟩:=sync_ok (s:={ x.s with ops:=x.s.ops++[crOp x.nm bs]++[rnOp x.nm] }) hH.up hH.f0;rw [e1,e2,s1,s2] at hcs;rcases hcs with ⟨h1,h2,_⟩ | ⟨h1,_,h2,_⟩ | ⟨h1,_,_,done,g,hdone,_,_,_,hs⟩
  · exact absurd h2 h1
  · exact absurd h2 h1
  subst h1
  have hnow:(St.now { x.s with ops:=x.s.ops++[crOp x.nm bs]++[rnOp x.nm] }) (fileN nmS)=some bs:=by
   have e9:({ x.s with ops:=x.s.ops++[crOp x.nm bs]++[rnOp x.nm] }:St)={ ({ x.s with ops:=x.s.ops++[crOp x.nm bs] }:St) with ops:=({ x.s with ops:=x.s.ops++[crOp x.nm bs] }:St).ops++[rnOp x.nm] }:=rfl;rw [e9,now_add,now_add,hH.nm];have hne:=fresh_ne nmS;simp only [applyF,crOp,rnOp,if_neg hne];simp [FF.set,hne]
  have hfin:=Moved.fin (x':=({ x with r:=r',s:=⟨St.now { x.s with ops:=x.s.ops++[crOp x.nm bs]++[rnOp x.nm] },[],false,0⟩,C:=updAll x.C done,wait:=x.wait-pdN x.C done,F:=some g }:SR)) hH (hmv done hdone) (updAll_nodup x.C done hH.keys) rfl hH.live rfl hnow (by omega) hG;exact ⟨rfl,_,_,hs,hfin.1,rfl,rfl,hfin.2⟩
end
end
section
open Go.RowKit Go.MapKept Go.ChangeMaps
def rcOb (g:Nat) (v:Value):Ob where
 own:=fun _=>False
 rd:=fun i=>i=g
 holds:=fun w=>w.cell? ⟨g,0,none⟩=some v
 stable:=fun w w' h hs hk=>by
  have h2:=hk g (.inr rfl);rw [<- h];simp [World.cell?, h2]
def NamesNew (N:FF) (w:World) (e:Ending) (w':World):Prop:=∃ A c ns,e= .returned (.slice A ns.length c)/\Listed N ns/\(0<ns.length->∃ b,A=some ⟨b,0,none⟩/\w.heap.size<=b/\b<w'.heap.size/\∀ j,j<ns.length->w'.cell? ⟨b,j,none⟩=some (.string (ns.getD j ByteArray.empty)))/\Below w.heap.size w w'
theorem Names_new (p:Nat) (r:Rp) (s:St) (w:World) (h:DV w p r s):Calls Tryz.prog 37 #[.pointer (some ⟨p,0,none⟩)] w (NamesNew s.now w):=by
 have H:=hid h;have hplt:=h.dev.cells.lt;have k1:w.cell? ⟨p,1,none⟩=some (.map (some r.nb)):=(h.dev.cells.cell 1).trans rfl;have hnb:=h.dev.now.1.lt
 have hEN:r.EN.length<=256:=by
  obtain ⟨_,c,hc,hc2⟩:=h.ok.now;have:=hc2.uniq h.dev.cnt;omega
 clear h;obtain ⟨i0,hi,hz0,hz1,hz2⟩:=info_parts info9;go_enter Tryz.func37,Tryz.ntmps37;go_wp2_with (at_range;refine wpList_range_is _ rfl _ 133 rfl 9 34 Tryz.underlying133 r.nb r.EN rfl H.out.dev.now.1 ?_;intro w0 hrg0 hg0 hs0)
 have Hrg0:=hid hrg0;have Hb0:Hid (Below w.heap.size w w0):=(Below.refl w.heap.size w).grown hg0 (Nat.le_refl _) (by simp);have hs0':w.heap.size+1<=w0.heap.size:=by omega
 clear hrg0 hg0 hs0 k1;go_frame
 go_loopw [3] (fun v wr=>∃ (done:Files) (cnt:Nat),RIs okS kS vE wr r.nb w.heap.size r.EN done cnt/\wr.ownsRow (w.heap.size+1) 9 1 v done.length (done.map (fun c=>Value.string c.1))/\w.heap.size+1<=wr.heap.size/\done.length+cnt<=r.EN.length/\Below w.heap.size w wr) (fun _ wr=>wr.rangeLeft r.nb w.heap.size)
 case atStart=>exact ⟨[],_,Hrg0.out,World.ownsRow_nil _ _ _ _,hs0',by simp,Hb0.out⟩
 obtain ⟨done,cnt,hrg,hown,hsz,hdl,hb⟩:=hrel;obtain ⟨A3,c3,rfl⟩:=own_slice hown;have Hleft:=hid hrg.left_eq;have Hrg:=hid hrg;have HO:=hid hown;have Hb:=hid hb;clear hrg hown hb
 go_wp2_with (first
  | (at_next;refine wpList_next_fs _ rfl _ rfl r.nb w.heap.size r.EN done cnt rfl Hrg.out (fun hp=>?_) (fun s d bs w1 cnt1 hc hrg1 hlt1 hg1 hs1 hen=>?_))
  | (at_builtin;refine halt_ ?_))
 · have Hp:=hid hp;clear hp
   have Hsub:Hid ((done.map (·.1)).Nodup/\∀ m,m∈done.map (·.1)↔(s.now m).isSome=true):=by
    have hk:(done.map (·.1)).Perm (r.EN.map (·.1)):=Hp.out.map _;refine ⟨hk.nodup_iff.2 H.out.dev.now.1.nodup,fun m=>hk.mem_iff.trans ?_⟩;rw [<- H.out.dev.has m];constructor
    · intro hm;obtain ⟨c,hc,rfl⟩:=List.mem_map.1 hm;rw [asc_mem H.out.dev.now.1.nodup hc];rfl
    intro hm;cases ha:asc r.EN m with
    | none=>rw [ha] at hm;cases hm
    | some v=>exact List.mem_map.2 ⟨_,mem_of_asc ha,rfl⟩
   by_cases hz:done.length=0
   · have Hz:Hid (done=[]):=List.eq_nil_of_length_eq_zero hz;rw [hz];clear hz;go_wp2_with fail
     refine (Tryz.slices_Sort_string_none A3 c3 _).mono ?_;rintro e w2 ⟨rfl,hw2⟩;subst hw2;go_wp2_with fail
     go_ret;refine ⟨A3,c3,[],rfl,⟨by simp,fun m=>?_,by simp⟩,fun hp=>absurd hp (by simp),Hb.out⟩;have:=Hsub.out.2 m;rw [Hz.out] at this;exact this
   obtain ⟨g,cap,hv,hgb,hgl⟩:=HO.out.form (by omega);injection hv with hv1 hv2 hv3;subst hv1;subst hv3;clear hv2;have HO':=HO.out
   have HH:Hid (Sort.Holds Go.Proofs.encStr wr g 0 ((done.map (fun c=>bl c.1)).toArray)):=fun j hj=>by
    have hj':j<done.length:=by simpa using hj
    have hcell:=HO'.cellAt j (by omega)
    have hd:((done.map (fun c=>bl c.1)).toArray)[j]! =bl (done[j]).1:=by
     rw [getElem!_pos _ j (by simpa using hj')];simp
    refine ⟨?_,?_⟩
    · rw [zF,hcell,List.getElem?_map,zC hj',hd];show some (Value.string _)=some (Value.string _);congr 2
    obtain ⟨cur,hcur⟩:∃ cur,IsB wr g 9 cur:=by
     rcases HO'.2 with ⟨hv,_⟩ | ⟨g',cap',cur,hv,_,hh,_⟩
     · cases hv
     injection hv with e1 e2 e3;injection e1 with e1;injection e1 with e1;subst e1;exact ⟨cur,hh⟩
    exact hcur.frozen _
   have HS:=Tryz.slices_Sort_string g 0 c3 (done.map (fun c=>bl c.1)) wr HH.out hgl (by rw [zB];omega);rw [zB] at HS;have HS':=hid HS;clear HS HO';go_wp2_with fail
   refine HS'.out.mono ?_;rintro e w2 ⟨rfl,n,os,hw2⟩
   have FIN:Hid (NamesNew s.now w (.returned (.slice (some ⟨g,0,none⟩) done.length c3)) w2):=by
    have hL:=listed_sort Hsub.out.1 Hsub.out.2;rw [List.map_map] at hL;have hfun:(bl ∘ fun x:ByteArray×En=>x.1)=(fun c=>bl c.1):=rfl;rw [hfun] at hL;have hlen:(((done.map (fun c=>bl c.1)).mergeSort (fun x y=>decide (x<=y))).map (fun x=>(⟨x.toArray⟩:ByteArray))).length=done.length:=by simp
    have hput:=Sort.holds_putRow Go.Proofs.encStr (Sort.ahead wr n) g 0 _ (((done.map (fun c=>bl c.1)).mergeSort (fun x y=>decide (x<=y))).toArray) (Sort.holds_ahead _ _ _ _ _ _ HH.out) (by simp);have hgr:=Sort.holds_grow Go.Proofs.encStr _ os g 0 _ (by simp;exact hgl) hput;rw [<- hw2] at hgr;refine ⟨some ⟨g,0,none⟩,c3,((done.map (fun c=>bl c.1)).mergeSort (fun x y=>decide (x<=y))).map (fun x=>(⟨x.toArray⟩:ByteArray)),by rw [hlen],hL,fun _=>⟨g,rfl,by omega,?_,fun j hj=>?_⟩,?_⟩
    · rw [hw2];simp;omega
    · rw [hlen] at hj;have h1:=(hgr j (by simp;exact hj)).1;rw [zF] at h1;rw [h1,getElem!_pos _ j (by simp;exact hj),List.getD_eq_getElem?_getD,List.getElem?_map,zC (by simp;exact hj)];simp
    rw [hw2];exact below_sort Hb.out (by omega)
   clear hw2;go_wp2_with fail
   go_ret;exact FIN.out
 have Hrg1:=hid hrg1;have Hlt1:=hid hlt1;have Hb1:Hid (Below w.heap.size w w1):=Hb.out.grown hg1 (by omega) (by simp)
 have HO1:=hid (HO.out.kept hg1 (by
  cases hv:(Value.slice A3 done.length c3).ownBlock with
  | none=>exact .inl rfl
  | some k=>exact .inr (fun e=>by injection e with e;have:=(HO.out.lt k hv).1;omega)))
 have hsz1:w.heap.size+1<=w1.heap.size:=by rw [hs1.out];exact hsz
 clear hc hrg1 hg1 hs1;go_wp2_with (at_builtin;refine halt_ ?_)
 refine wpList_append_own _ rfl _ _ 60 rfl (w.heap.size+1) 9 i0 _ 1 16 Tryz.underlying60 hi hz0 hz1 hz2 rfl (by decide) (.slice A3 done.length c3) done.length _ rfl (HO1.out.alloc _) ⟨w1.heap.size,0,none⟩ 1 1 [.string s] rfl rfl (fun j u hu=>by rw [lit_add,zF,new_cell _ _ _ _ rfl];simpa using hu) (fun u hu=>by simp at hu;subst hu;rfl) (by unfold maxLen;omega) (by omega) (by simp;omega) ?_;intro v2 w2 ho2 hg2 _
 have HO2:Hid (w2.ownsRow (w.heap.size+1) 9 1 v2 (done++[(s,d,bs)]).length ((done++[(s,d,bs)]).map (fun c=>Value.string c.1))):=by
  rw [Hid,List.map_append,zA];exact ho2
 have hblk:∀ k,some k=(Value.slice A3 done.length c3).ownBlock->w.heap.size+1<=k:=fun k hk=>(HO.out.lt k hk.symm).1;have Hrg2:Hid (RIs okS kS vE w2 r.nb w.heap.size r.EN (done++[(s,d,bs)]) cnt1):=(Hrg1.out.alloc _).kept hg2 (fun e=>by have:=hblk _ e;omega) (fun e=>by have:=hblk _ e;omega);have Hb2:Hid (Below w.heap.size w w2):=(Hb1.out.alloc (by omega) _).grown hg2 (by simp;omega) (fun k hk=>by have:=hblk k hk.symm;omega);have hsz2:w.heap.size+1<=w2.heap.size:=by have:=hg2.size;simp at this;omega
 have hdl2:(done++[(s,d,bs)]).length+cnt1<=r.EN.length:=by rw [zA];simp only [List.length_cons,List.length_nil];omega
 have HDL:=hid hdl2;clear ho2 hg2 hblk hdl2;go_wp2_with fail
 go_roundw
 case rel=>exact ⟨_,_,Hrg2.out,HO2.out,hsz2,HDL.out,Hb2.out⟩
 rw [Hrg2.out.left_eq,Hleft.out];exact Hlt1.out
end
section
open Go.RowKit Go.MapKept Go.ChangeMaps Go.Shelf Go.Sort
theorem HlI.ofFlush {ps dp:Nat} {P:List (List UInt8)} {x x2:SR} {r:R3} (h:TrI ps dp P x r) (hf:Flushed x x2) (hc:Cl [fileN nmS] x2) (hP:P≠[]) (hP5:P.length<=6) (hl:flen x2.F<=1200):∃ D f,HlI x2 D f 0:=by
 have hnm:x2.nm=nmS:=hf.nm.trans h.nm;have hT2:TX x2 P:=⟨fun i=>(hf.has i).trans (h.tx.has i),fun bs hb=>(hf.val _).trans (h.tx.val bs hb),h.tx.text⟩
 have hF:∃ f,x2.F=some f:=by
  cases hF:x2.F with
  | some f=>exact ⟨f,rfl⟩
  | none=>
   obtain ⟨bs,hb⟩:=List.exists_mem_of_ne_nil P hP;have h1:=(hf.has (fpOf bs)).trans (h.tx.has (fpOf bs));rw [decide_eq_true (List.mem_map.2 ⟨bs,hb,rfl⟩)] at h1;obtain ⟨pl,hpl⟩:=Option.isSome_iff_exists.1 h1;have hm:=mem_of_asc hpl;obtain ⟨o,e⟩:=hf.done _ hm;simp only at e;subst e;exact absurd hm ((hc.no hF).2 _ _)
 obtain ⟨f,hF⟩:=hF;obtain ⟨_,D,hD,hDl,hat⟩:=hc.file f hF;rw [hnm] at hD;have hpn:pends x2.C=[]:=pends_none hf.done;have hlen:=hT2.len hc.keys;have hfl:flen x2.F=f.len:=by rw [hF];rfl
 have hz:=sizeC_le x2.C hc.ids8;have hz2:=hc.size;refine ⟨D,f,hnm,hc.live,hc.up,hc.f0,hf.ops h.ops,fun m=>⟨fun hm=>by simpa using hc.ns3 m hm,fun e=>by rw [e,hD];rfl⟩,hD,hF,hDl.symm,by omega,hc.keys,fun i o hm=>?_,fun i d bs hm=>?_,by omega,by rw [hpn];simp,hc.waits,by omega,zE hc.frames hl,by omega⟩
 · have h1:=hat i o hm;have h8:=(hc.ids8 _ hm).1;simp only at h8;exact ⟨h8,(cutOk_len h1).2 (by omega)⟩
 obtain ⟨o,e⟩:=hf.done _ hm;cases e
theorem HlI.flip {x:SR} {D:List UInt8} {f:FR} {n:Nat} (h:HlI x D f n) (off bit:Int) (r':Rp):∃ D',HlI { x with r:=r',s:=flipS x.s (fileN nmS) off bit } D' f n:=by
 have hnow:x.s.now=x.s.K:=by
  unfold St.now;rw [h.ops];rfl
 unfold flipS;by_cases he:flipE x.s (fileN nmS) off bit=0
 · rw [if_pos he]
   have hn2:∀ (K:FF),(⟨K,x.s.ops,x.s.dn,x.s.f⟩:St).now=K:=fun K=>by
    unfold St.now;simp only;rw [h.ops];rfl
   have hD2:=h.now;rw [hnow] at hD2;refine ⟨flipB D off.toNat bit.toNat,h.nm,h.live,h.up,h.f0,h.ops,fun m=>?_,?_,h.fr,by rw [flipB_length];exact h.len,by rw [flipB_length];exact h.dl,h.keys,fun i o hm=>by rw [flipB_length];exact h.ats i o hm,h.pe,h.few,h.pn,h.wait,h.by0,h.sum,h.np⟩
   · simp only [hn2];have:=h.one m;rw [hnow] at this;by_cases hm:m=fileN nmS
     · subst hm;simp [FF.set]
     rw [<- this];simp only [FF.set];rw [if_neg (fun e=>hm e.symm)]
   simp only [hn2];simp only [FF.set,if_true]
   first
    | (rw [hD2];rfl)
    | (rw [h.now];rfl)
 rw [if_neg he];exact ⟨D,h.nm,h.live,h.up,h.f0,h.ops,h.one,h.now,h.fr,h.len,h.dl,h.keys,h.ats,h.pe,h.few,h.pn,h.wait,h.by0,h.sum,h.np⟩
theorem flip_H {b:Nat} {w0 w:World} {l:List Ob} {x:SR} {D:List UInt8} {f:FR} {n dp:Nat} (hp:x.p=dp) (h:SW b w0 (x.obs l) w) (hH:HlI x D f n) (off bit:Int):Calls Tryz.prog 39 #[vPtr dp,.string (fileN nmS),.int .i64 off,.int .i64 bit] w (fun e w'=>∃ v r',e= .returned (.int .i64 v)/\SW b w0 (({ x with r:=r',s:=flipS x.s (fileN nmS) off bit }:SR).obs l) w'):=by
 subst hp;have hf:=Flip_any x.p x.r x.s (fileN nmS) off bit w h.1.sdv (file_ok (by decide)) (by rw [hH.ops];simp);refine hf.mono ?_;rintro e w' ⟨rfl,r',hd,hs⟩;exact ⟨_,r',rfl,h.dev (k:=0) rfl hd hs⟩
def SI3 (C:Chs) (o:Nat):Prop:=(∀ i pl,(i,pl)∈C->∃ q,pl=Pl.at q/\1<=i.2/\q+28+i.2.toNat<=o)/\allSum C<=o
theorem SI3.mono {C:Chs} {o o':Nat} (h:SI3 C o) (ho:o<=o'):SI3 C o':=⟨fun i pl hm=>by
 obtain ⟨q,h1,h2,h3⟩:=h.1 i pl hm;exact ⟨q,h1,h2,by omega⟩,zE h.2 ho⟩
theorem SI3.set {C:Chs} {o:Nat} (h:SI3 C o) {i:ID} (h1:1<=i.2):SI3 (setL C i (.at o)) (o+(28+i.2.toNat)):=by
 refine ⟨fun j pl hm=>?_,?_⟩
 · rcases setL_memG hm with e | hm
   · injection e with e1 e2;subst e1;exact ⟨o,e2,h1,by omega⟩
   obtain ⟨q,a,b,c⟩:=h.1 j pl hm;exact ⟨q,a,b,by omega⟩
 have:=h.2;unfold allSum at this |-; by_cases hi:i∈C.map (·.1)
 · rw [setL_same (.at o) hi];omega
 rw [setL_new hi,List.map_append];have e:frSum (C.map (·.1)++[i])=frSum (C.map (·.1))+(28+i.2.toNat):=frSum_snoc _ _;have e2:List.map (·.1) [((i,Pl.at o):ID×Pl)]=[i]:=rfl;rw [e2,e];omega
theorem SI3.found {C:Chs} {o:Nat} (h:SI3 C o) {i:ID} (h1:1<=i.2) (bs:List UInt8) (T:List (ID×Bool)):SI3 (foundC bs C T i o).1 (o+(28+i.2.toNat)):=by
 unfold foundC;split
 · exact h.set h1
 · exact h.mono (by omega)
 simp only;split
 · exact h.set h1
 exact h.mono (by omega)
theorem scan_S3 (bs:List UInt8):∀ (n o:Nat) (C:Chs) (T:List (ID×Bool)) (cl:Bool),o<=bs.length->SI3 C o->SI3 (scanF bs n o C T cl).1 bs.length:=by
 intro n;induction n with
 | zero=>intro o C T cl ho h;exact h.mono ho
 | succ n ih=>
  intro o C T cl ho h;rw [scanF];split
  · cases hr:rdHead bs o with
    | none=>exact ih _ _ _ _ (by omega) (h.mono (by omega))
    | some i=>
     simp only;split
     · exact h.mono ho
     rename_i h1
     obtain ⟨_,h28⟩:=rdHead_some hr;exact ih _ _ _ _ (by omega) (h.found (by omega) bs T)
  exact h.mono ho
theorem reopen_H {b:Nat} {w0 w:World} {l:List Ob} {x:SR} {D:List UInt8} {f:FR} (h:SW b w0 (x.obs l) w) (hH:HlI x D f 0):Calls Tryz.prog 20 #[vPtr x.p,.string nmS] w (fun e w'=>∃ (x':SR) (f':FR),e= .returned (.tuple #[vPtr x'.ps,.int .i64 0])/\HlI x' D f' 0/\x'.p=x.p/\SW b w0 (x'.obs l) w'):=by
 have hdl:=hH.dl;obtain ⟨h1,h2⟩:=readE_ok hH.up (nameB_file nmS_ok) hH.now;have h3:Sep b w (devOb x.p x.r x.s::l):=h.1.sub (List.Sublist.cons_cons _ ((((List.Sublist.refl l).cons _).cons _).cons _));refine (Open_one h3 nmS D nmS_ok hH.up hH.one h1 h2).mono ?_;rintro e w' ⟨H,fb,sb,hHs,rfl,hs⟩;have hsi:=scan_S3 D D.length 0 [] [] true (by omega) ⟨(fun i pl hm=>by cases hm),by simp [allSum,frSum]⟩;have hnd:=(hs.get 2 (o:=chOb H (scanF D D.length 0 [] [] true).1) rfl).1.nodup;have hs2:SW b w0 ((openedF x.p x.r x.s nmS H fb sb D).obs l) w':=h.then hs;refine ⟨openedF x.p x.r x.s nmS H fb sb D,⟨fb,sb,D.length,(scanF D D.length 0 [] [] true).2.2,(scanF D D.length 0 [] [] true).2.1⟩,rfl,?_,rfl,hs2⟩;unfold openedF;generalize scanF D D.length 0 [] [] true=F at hsi hnd
 have hnp:pends F.1=[]:=pends_none (fun c hc=>by
  obtain ⟨q,e,_⟩:=hsi.1 c.1 c.2 hc;exact ⟨q,e⟩)
 have hsum:=durs_pends F.1 (fun i d bs hm=>by
  obtain ⟨q,e,_⟩:=hsi.1 i _ hm;cases e)
 rw [hnp] at hsum
 have hb1:∀ c∈F.1,1<=c.1.2/\c.1.2<=8192:=fun c hc=>by
  obtain ⟨q,_,a,b⟩:=hsi.1 c.1 c.2 hc;omega
 have hlen:∀ C:Chs,(∀ c∈C,1<=c.1.2/\c.1.2<=8192)->29*C.length<=allSum C:=by
  intro C;induction C with
  | nil=>intro _;simp
  | cons c C ih=>
   intro hC;have:=ih (fun d hd=>hC d (List.mem_cons_of_mem _ hd));have h4:=hC c (List.mem_cons_self ..);have e:allSum (c::C)=(28+c.1.2.toNat)+allSum C:=by simp [allSum,frSum]
   rw [e,List.length_cons];omega
 have hl:=hlen F.1 hb1;have hz:=sizeC_le F.1 hb1;have hsum0:frSum []=0:=rfl;have h9:=hsi.2
 exact {
  nm:=rfl,live:=rfl,up:=hH.up,f0:=hH.f0,ops:=hH.ops,one:=hH.one,now:=hH.now,fr:=rfl,len:=rfl,dl:=hdl,keys:=hnd
  ats:=fun i o hm=>by
   obtain ⟨q,e,a,b⟩:=hsi.1 i _ hm;injection e with e;subst e;exact ⟨a,b⟩
  pe:=fun i d bs hm=>by
   obtain ⟨q,e,_⟩:=hsi.1 i _ hm;cases e
  few:=by simp only;omega
  pn:=by simp only [hnp];simp
  wait:=by simp only [hnp];rfl
  by0:=by simp only;omega
  sum:=by simp only;omega
  np:=by omega }
theorem names_H {b:Nat} {w0 w:World} {l:List Ob} {x:SR} {D:List UInt8} {f:FR} {n:Nat} (h:SW b w0 (x.obs l) w) (hH:HlI x D f n):Calls Tryz.prog 37 #[vPtr x.p] w (fun e w'=>∃ g c,e= .returned (.slice (some ⟨g,0,none⟩) 1 c)/\SW b w0 (x.obs (rcOb g (.string (fileN nmS))::l)) w'):=by
 refine (Names_new x.p x.r x.s w h.1.sdv).mono ?_;rintro e w' ⟨A,c,ns,rfl,hls,hrd,hb⟩;obtain rfl:=names_one hls hH.one;obtain ⟨g,rfl,h1,h2,h3⟩:=hrd (by simp);refine ⟨g,c,rfl,?_⟩
 have h4:=h.addN hb (o:=rcOb g (.string (fileN nmS))) (h3 0 (by simp)) (fun i hi=>hi.elim) (fun i hi=>by
  have e:i=g:=hi;rw [e];exact ⟨h1,h2⟩)
 exact h4.behind
theorem FinI.read {x:SR} {D:List UInt8} (h:FinI x D):readE x.s (fileN x.nm)=0/\readB x.s (fileN x.nm)=D:=by
 rw [h.nm];exact readE_ok h.up (nameB_file nmS_ok) h.now
theorem FinI.wf {x:SR} {D:List UInt8} (h:FinI x D):WF x where
 live:=h.live
 up:=h.up
 name:=by rw [h.nm];decide
 few:=by have:=h.few;omega
 ids:=fun c hc=>by
  obtain ⟨i,pl⟩:=c;cases pl with
  | «at» o=>
   have:=h.ats i o hc;have:=h.dl;simp only;omega
  | pend d bs=>exact absurd hc (h.pe i d bs)
 offs:=fun i o hc=>by have:=(h.ats i o hc).2;have:=h.dl;omega
 pends:=fun i d bs hc=>absurd hc (h.pe i d bs)
section
variable {b:Nat} {w0 w:World} {l:List Ob} {x:SR} {D:List UInt8} {G:List (List UInt8)}
theorem Get_H (h:SW b w0 (x.obs l) w) (hH:FinI x D) (i:ID) (hi:okID i) (bs:List UInt8) (hv:valC x i=some bs):Calls Tryz.prog 30 #[vPtr x.ps,.agg #[.int .u64 i.1,.int .i64 i.2]] w (GetCP b w0 x 0 bs l):=by
 unfold valC at hv;cases ha:asc x.C i with
 | none=>rw [ha] at hv;cases hv
 | some pl=>
  rw [ha] at hv;have hv:readC x.s x.nm i pl=some bs:=hv;have:=Get_at h.1 hH.wf i hi pl ha;rw [hv] at this;refine this.mono ?_;rintro e w' ⟨d,rfl,hr,hn,hb⟩;exact ⟨d,rfl,(h.newBytes hb hr hn).behind⟩
theorem Damaged_H (h:SW b w0 (x.obs l) w) (hH:FinI x D) (hG:Good x G):Calls Tryz.prog 48 #[vPtr x.ps] w (fun e w'=>∃ A c ds,e= .returned (.slice A ds.length c)/\(∀ t∈G,fpOf t ∉ ds)/\ds.length<=49/\SW b w0 (riOb A ds::x.obs l) w'):=by
 obtain ⟨h1,h2⟩:=hH.read;have hdl:=hH.dl;refine (Damaged_any h hH.live hH.up hH.wf.name (fun i d bs hm=>absurd hm (hH.pe i d bs)) hH.few D h1 h2 (fun i o hm=>?_)).mono ?_
 · have:=hH.ats i o hm;omega
 rintro e w' ⟨A,c,ds,rfl,hds,hdn,hs⟩;refine ⟨A,c,ds,rfl,fun t ht hm=>?_,hdn,hs⟩;obtain ⟨o,hm2,hc⟩:=hds _ hm;have hv:=(hG t ht).2;unfold valC at hv;rw [asc_mem hH.keys hm2] at hv;have hv:readC x.s x.nm (fpOf t) (.at o)=some t:=hv;simp only [readC,h1,h2,true_and] at hv;rw [hc] at hv;simp at hv
end
end
end Go.Proofs.YteabgcollokgjaaGreatDoor
