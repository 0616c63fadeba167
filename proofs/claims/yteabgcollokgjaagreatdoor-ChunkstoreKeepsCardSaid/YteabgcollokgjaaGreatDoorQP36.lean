/- Q -/
import Derived.Test.YteabgcollokgjaaGreatDoorQP35
set_option linter.unusedSimpArgs false
set_option linter.unusedVariables false
set_option maxRecDepth 100000
set_option maxHeartbeats 32000000
namespace Go.Proofs.YteabgcollokgjaaGreatDoor
section
open Go.RowKit Go.MapKept Go.ChangeMaps Go.Shelf Go.Sort
def clnF (F:Option FR):Option FR:=F.map fun f=>{ f with clean:=true }
def SR.cln (x:SR):SR:={ x with s:=x.s.unf,F:=clnF x.F }
theorem flen_cln (F:Option FR):flen (clnF F)=flen F:=by cases F<;>rfl
structure KpI (x:SR) (cs P:List (List UInt8)):Prop where
 nm:x.nm=nmS
 ops:x.s.ops=[]
 cl:Cl [fileN nmS,freshN nmS] x.cln
 dsk:DskI x.s.now cs
 lay:∀ i o,(i,Pl.at o)∈x.C↔(i,Pl.at o)∈layC 0 cs
 tx:TX x P
 whole:∀ f,x.F=some f->f.clean=true->x.s.now (fileN nmS)=some (layB 0 cs)
section
variable {x:SR} {cs P:List (List UInt8)}
theorem KpI.keys (h:KpI x cs P):(x.C.map (·.1)).Nodup:=h.cl.keys
theorem KpI.up (h:KpI x cs P):x.s.dn=false:=h.cl.up
theorem KpI.live (h:KpI x cs P):x.dead=false:=h.cl.live
theorem KpI.wf (h:KpI x cs P):WF x:=⟨h.cl.live,h.cl.up,h.cl.name,h.cl.few,h.cl.ids,h.cl.offs,h.cl.pends⟩
theorem KpI.wr (h:KpI x cs P):WR x:={ h.wf with own:=h.cl.own,ops:=h.cl.ops,files:=h.cl.files,ids8:=h.cl.ids8,wait0:=h.cl.wait0,wait1:=h.cl.wait1 }
theorem KpI.few (h:KpI x cs P):x.C.length<=30:=h.tx.few h.keys
theorem KpI.now (h:KpI x cs P):x.s.now=x.s.K:=by
 unfold St.now;rw [h.ops];rfl
theorem KpI.bytes (h:KpI x cs P):0<=x.bytes/\x.bytes<=1000000:=by
 have h1:=sizeC_le x.C h.cl.ids8;have h2:x.bytes=sizeC x.C:=h.cl.size;have:=h.few;omega
theorem KpI.waits (h:KpI x cs P):x.wait=((Go.Proofs.YteabgcollokgjaaGreatDoor.pends x.C).length:Int):=h.cl.waits
theorem KpI.pend (h:KpI x cs P) {i:ID} {d:BD} {bs:List UInt8} (hm:(i,Pl.pend d bs)∈x.C):i=fpOf bs/\bs∈P/\IsText bs/\d.A.isSome=true:=by
 obtain ⟨t,ht,e,htx⟩:=h.tx.key (List.mem_map.2 ⟨_,hm,rfl⟩);simp only at e;have hv:=h.tx.val t ht;unfold valC at hv;rw [e,asc_mem h.keys hm] at hv;have hv:some bs=some t:=hv;injection hv with hv;subst hv;exact ⟨e.symm,ht,htx,(h.cl.pA i d bs hm).1⟩
theorem KpI.at (h:KpI x cs P) {D:List UInt8} (hD:x.s.now (fileN nmS)=some D) {i:ID} {o:Nat} (hm:(i,Pl.at o)∈x.C):∃ c∈cs,i=fpOf c/\cutB D i o=c/\o+28+c.length<=D.length:=by
 obtain ⟨c,h1,h2,h3,h4⟩:=cut_lay cs [] i o ((h.lay i o).1 hm);simp only [List.length_nil,List.nil_append] at h3 h4;rcases h.dsk.file with ⟨J,_,e⟩ | ⟨e,_⟩
 · rw [hD] at e;injection e with e;subst e;have hz:(fpOf c).2=(c.length:Int):=rfl;refine ⟨c,h1,h2,?_,by rw [List.length_append];omega⟩;rw [cutB_more (by rw [h2,hz];omega),h3]
 rw [hD] at e;cases e
theorem KpI.sub (h:KpI x cs P):∀ c∈cs,c∈P:=fun c hc=>by
 have hk:fpOf c∈(layC 0 cs).map (·.1):=by
  rw [layC_keys];exact List.mem_map.2 ⟨c,hc,rfl⟩
 obtain ⟨⟨i,pl⟩,hm,e⟩:=List.mem_map.1 hk;simp only at e;subst e;obtain ⟨o,e⟩:=layC_at cs 0 _ hm;simp only at e;subst e;obtain ⟨t,ht,e,htx⟩:=h.tx.key (List.mem_map.2 ⟨_,(h.lay _ o).2 hm,rfl⟩);simp only at e;rw [<- text_inj htx (h.dsk.tx c hc) e];exact ht
theorem KpI.where (h:KpI x cs P) {t:List UInt8} (ht:t∈P):(t∈cs/\∃ o,(fpOf t,Pl.at o)∈x.C)∨∃ d,(fpOf t,Pl.pend d t)∈x.C:=by
 have hh:=h.tx.has (fpOf t);rw [decide_eq_true (List.mem_map.2 ⟨t,ht,rfl⟩)] at hh;obtain ⟨pl,ha⟩:=Option.isSome_iff_exists.1 hh;have hm:=mem_of_asc ha;cases pl with
 | pend d bs=>
  obtain ⟨e,_,htx,_⟩:=h.pend hm;have:=text_inj (h.tx.text t ht) htx e;subst this;exact .inr ⟨d,hm⟩
 | «at» o=>
  obtain ⟨c,h1,h2,_⟩:=cut_lay cs [] _ o ((h.lay _ o).1 hm);have:=text_inj (h.tx.text t ht) (h.dsk.tx c h1) h2;subst this;exact .inl ⟨h1,o,hm⟩
theorem KpI.put (h:KpI x cs P) {bs:List UInt8} {d:BD} (ht:IsText bs) (hA:d.A.isSome=true) (ha:asc x.C (fpOf bs)=none):KpI (putS x (fpOf bs) d bs) cs (P++[bs]) where
 nm:=h.nm
 ops:=h.ops
 cl:=put_cl (x:=x.cln) h.cl hA ht.lo (by have:=ht.hi;omega) ha (by have:=h.few;show x.C.length<4096;omega)
 dsk:=h.dsk
 lay:=fun i o=>by
  have hn:fpOf bs ∉ x.C.map (·.1):=fun hm=>by
   have:=asc_key.2 hm;rw [ha] at this;cases this
  show (i,Pl.at o)∈setL x.C (fpOf bs) (.pend d bs)↔_;rw [setL_new hn, <- h.lay i o];simp
 tx:=h.tx.put ht ha d
 whole:=h.whole
theorem KpI.more (h:KpI x cs P) {bs:List UInt8} (hb:bs∈P):KpI x cs (P++[bs]):=⟨h.nm,h.ops,h.cl,h.dsk,h.lay,h.tx.more hb,h.whole⟩
theorem KpI.as (h:KpI x cs P) {Q:List (List UInt8)} (hQ:∀ c,c∈Q↔c∈P):KpI x cs Q:=⟨h.nm,h.ops,h.cl,h.dsk,h.lay,⟨fun i=>by
 rw [h.tx.has i,decide_eq_decide];constructor
 · rintro hi;obtain ⟨t,ht,e⟩:=List.mem_map.1 hi;exact List.mem_map.2 ⟨t,(hQ t).2 ht,e⟩
 rintro hi;obtain ⟨t,ht,e⟩:=List.mem_map.1 hi;exact List.mem_map.2 ⟨t,(hQ t).1 ht,e⟩,fun t ht=>h.tx.val t ((hQ t).1 ht),fun t ht=>h.tx.text t ((hQ t).1 ht)⟩,h.whole⟩
theorem KpI.lost (h:KpI x cs P):LostD x.s cs P:=fun k t=>⟨cs,by
 rw [loss_none _ _ _ h.ops, <- h.now];exact h.dsk,fun _ hc=>hc,h.sub⟩
theorem KpI.part (h:KpI x cs P) {D:List UInt8} (hD:x.s.now (fileN nmS)=some D) {zs:List Ent} (hz:∀ y∈zs,(y.1,Pl.at y.2)∈x.C) (hn:(zs.map (·.1)).Nodup):
 rfold D [] zs=(layC 0 (zs.map fun y=>cutB D y.1 y.2),layB 0 (zs.map fun y=>cutB D y.1 y.2))/\(zs.map fun y=>cutB D y.1 y.2).map fpOf=zs.map (·.1)/\∀ c∈zs.map (fun y=>cutB D y.1 y.2),c∈cs:=by
 have hy:∀ y∈zs,fpOf (cutB D y.1 y.2)=y.1/\cutB D y.1 y.2∈cs:=fun y hy=>by
  obtain ⟨c,h1,h2,h3,_⟩:=h.at hD (hz y hy);rw [h3];exact ⟨h2.symm,h1⟩
 refine ⟨?_,?_,fun c hc=>?_⟩
 · have:=rfold_lay D zs ([],[]) (fun y hy'=>(hy y hy').1) hn (by simp);have h2:rfold D [] zs=zs.foldl (rstep D) ([],[]):=rfl;rw [h2,this];simp
 · rw [List.map_map];exact List.map_congr_left (fun y hy'=>(hy y hy').1)
 obtain ⟨y,hy',rfl⟩:=List.mem_map.1 hc;exact (hy y hy').2
theorem durs_nodup:∀ C:Chs,(C.map (·.1)).Nodup->((durs C).map (·.1)).Nodup:=by
 intro C;induction C with
 | nil=>intro _;exact List.nodup_nil
 | cons c C ih=>
  intro hn;obtain ⟨i,pl⟩:=c;have h2:=ih (List.nodup_cons.1 hn).2;cases pl with
  | pend d bs=>exact h2
  | «at» o=>
   rw [durs,List.map_cons,List.nodup_cons];refine ⟨fun hi=>?_,h2⟩;obtain ⟨y,hy,e⟩:=List.mem_map.1 hi;exact (List.nodup_cons.1 hn).1 (List.mem_map.2 ⟨_,durs_mem hy,e⟩)
theorem KpI.done (hnm:x.nm=nmS) (hlive:x.dead=false) (hup:x.s.dn=false) (hops:x.s.ops=[]) (hd:DskI x.s.now cs) (hk:(x.C.map (·.1)).Nodup) (hC:∀ i o,(i,Pl.at o)∈x.C↔(i,Pl.at o)∈layC 0 cs) (hdone:∀ c∈x.C,∃ o,c.2=Pl.at o)
 (hw:x.wait=0) (hsz:x.bytes=sizeC x.C) (hF:(x.F=none/\x.s.now (fileN nmS)=none/\cs=[])∨∃ f J,x.F=some f/\f.T=[]/\x.s.now (fileN nmS)=some (layB 0 cs++J)/\f.len=layN cs+J.length/\(f.clean=true->J=[])/\J.length<=32) (hP:∀ c,c∈cs↔c∈P):KpI x cs P:=by
 obtain ⟨f1,f2⟩:=hd.few;have hk2:((layC 0 cs).map (·.1)).Nodup:=by rw [layC_keys];exact hd.nd
 have nd:∀ C:Chs,(C.map (·.1)).Nodup->C.Nodup:=fun C h=>List.Pairwise.of_map (·.1) (fun a b hab e=>hab (by rw [e])) h
 have hperm:x.C.Perm (layC 0 cs):=(List.perm_ext_iff_of_nodup (nd _ hk) (nd _ hk2)).2 (fun c=>by
  obtain ⟨i,pl⟩:=c;constructor
  · intro hm;obtain ⟨o,e⟩:=hdone _ hm;simp only at e;subst e;exact (hC i o).1 hm
  intro hm;obtain ⟨o,e⟩:=layC_at cs 0 _ hm;simp only at e;subst e;exact (hC i o).2 hm)
 have hlen:x.C.length=cs.length:=by
  rw [hperm.length_eq];have:=congrArg List.length (layC_keys 0 cs);simpa using this
 have hpn:Go.Proofs.YteabgcollokgjaaGreatDoor.pends x.C=[]:=pends_none hdone
 have hsum:entSum (durs x.C)=layN cs:=by
  have h1:=durs_pends x.C (fun i d bs hm=>by obtain ⟨o,e⟩:=hdone _ hm;cases e);have h2:=durs_pends (layC 0 cs) (fun i d bs hm=>by obtain ⟨o,e⟩:=layC_at cs 0 _ hm;cases e);rw [hpn] at h1;rw [layC_pends,layC_sum] at h2;have h3:allSum x.C=allSum (layC 0 cs):=frSum_perm (hperm.map _);have h4:frSum []=0:=rfl;omega
 have hmem:∀ i pl,(i,pl)∈x.C->∃ c o,c∈cs/\i=fpOf c/\pl= .at o/\cutB (layB 0 cs) i o=c/\o+28+c.length<=layN cs:=fun i pl h=>by
  obtain ⟨o,e⟩:=hdone _ h;simp only at e;subst e;obtain ⟨c,h1,h2,h3,h4⟩:=cut_lay cs [] i o ((hC i o).1 h);simp only [List.length_nil,List.nil_append] at h3 h4;rw [layB_len] at h4;exact ⟨c,o,h1,h2,rfl,h3,h4⟩
 have hcut:∀ (J:List UInt8) i o,(i,Pl.at o)∈x.C->cutOk (layB 0 cs++J) i o=true/\cutB (layB 0 cs++J) i o=cutB (layB 0 cs) i o:=fun J i o h=>by
  obtain ⟨c,o',h1,h2,h3,h4,h5⟩:=hmem i _ h;injection h3 with h3;subst h3;have e:(fpOf c).2=(c.length:Int):=rfl;have e2:=cutB_more (D:=layB 0 cs) (i:=i) (o:=o) (by rw [layB_len,h2,e];omega) J;refine ⟨?_,e2⟩;unfold cutOk;rw [e2,h4,List.length_append,layB_len,h2];simp only [Bool.and_eq_true,decide_eq_true_eq,and_true];omega
 have hid:∀ c∈x.C,1<=c.1.2/\c.1.2<=4:=fun c hc=>by
  obtain ⟨i,pl⟩:=c;obtain ⟨d,o,h1,h2,_⟩:=hmem i pl hc;have:=(hd.tx d h1).lo;have:=(hd.tx d h1).hi;have e:(fpOf d).2=(d.length:Int):=rfl;show 1<=i.2/\i.2<=4;rw [h2,e];omega
 have hfl:flen x.F<=1000/\layN cs<=flen x.F:=by
  rcases hF with ⟨e,_,rfl⟩ | ⟨f,J,e,_,_,h2,_,h4⟩
  · rw [e];exact ⟨by simp [flen],by simp [layN]⟩
  rw [e];simp only [flen];omega
 have hmap:∀ i,i∈cs.map fpOf↔i∈P.map fpOf:=fun i=>by
  constructor
  · intro h;obtain ⟨c,hc,e⟩:=List.mem_map.1 h;exact List.mem_map.2 ⟨c,(hP c).1 hc,e⟩
  intro h;obtain ⟨c,hc,e⟩:=List.mem_map.1 h;exact List.mem_map.2 ⟨c,(hP c).2 hc,e⟩
 refine ⟨hnm,hops,?_,hd,hC,⟨fun i=>?_,fun bs hb=>?_,fun bs hb=>hd.tx bs ((hP bs).2 hb)⟩,fun f hf hcl=>?_⟩
 · exact {
    live:=hlive
    up:=hup
    name:=by show x.nm.size<=1000;rw [hnm];decide
    few:=by show x.C.length<=4096;omega
    ids:=fun c hc=>by have:=hid c hc;omega
    offs:=fun i o hc=>by
     obtain ⟨d,o',h1,h2,h3,_,h5⟩:=hmem i _ hc;injection h3 with h3;omega
    pends:=fun i d bs hc=>by obtain ⟨q,e⟩:=hdone _ hc;cases e
    whole:=fun f hf=>by
     cases hxF:x.F with
     | none=>simp [SR.cln,clnF,hxF] at hf
     | some g=>
      simp only [SR.cln,clnF,hxF,Option.map_some] at hf;injection hf with hf;rw [<- hf]
    own:=fun i d bs hc=>by obtain ⟨q,e⟩:=hdone _ hc;cases e
    ops:=by show x.s.ops.length<=900000;rw [hops];simp
    files:=fun n hn=>by
     obtain ⟨L,h1,h2,rfl⟩:=hn;have h2:∀ a,a∈L↔(x.s.now a).isSome=true:=h2
     have:=len_le_sub L [fileN nmS,freshN nmS] h1 (fun a ha=>by
      rcases hd.ns a ((h2 a).1 ha) with rfl | rfl<;>simp)
     simp at this;omega
    ids8:=fun c hc=>by have:=hid c hc;omega
    wait0:=by show 0<=x.wait;omega
    wait1:=by show x.wait<=_;omega
    keys:=hk
    f0:=rfl
    nv:=by show nameV x.nm=true;rw [hnm];exact nmS_ok
    ns1:=by show fileN x.nm∈_;rw [hnm];simp
    ns2:=by simp
    ns3:=fun m hm=>by
     rcases hd.ns m hm with rfl | rfl<;>simp
    no:=fun hf=>by
     rcases hF with ⟨e,e2,e3⟩ | ⟨f,J,e,_⟩
     · refine ⟨by show x.s.now (fileN x.nm)=none;rw [hnm];exact e2,fun i o hc=>?_⟩;obtain ⟨d,_,h1,_⟩:=hmem i _ hc;rw [e3] at h1;cases h1
     simp [SR.cln,clnF,e] at hf
    file:=fun g hg=>by
     rcases hF with ⟨e,_⟩ | ⟨f,J,e,e1,e2,e3,_⟩
     · simp [SR.cln,clnF,e] at hg
     simp only [SR.cln,clnF,e,Option.map_some] at hg;injection hg with hg;subst hg;refine ⟨e1,layB 0 cs++J,?_,by rw [List.length_append,layB_len];exact e3.symm,fun i o hc=>(hcut J i o hc).1⟩;show x.s.now (fileN x.nm)=_;rw [hnm];exact e2
    len:=by
     show flen (clnF x.F)<=_;rw [flen_cln];omega
    waits:=by
     show x.wait=((Go.Proofs.YteabgcollokgjaaGreatDoor.pends x.C).length:Int);rw [hpn,hw];rfl
    pA:=fun i d bs hc=>by obtain ⟨q,e⟩:=hdone _ hc;cases e
    size:=hsz
    frames:=by
     show entSum (durs x.C)<=flen (clnF x.F);rw [flen_cln,hsum];exact hfl.2 }
 · rw [Bool.eq_iff_iff,decide_eq_true_eq, <- hmap i, <- layC_keys 0 cs,asc_key];exact (hperm.map (·.1)).mem_iff
 · have hbc:=(hP bs).2 hb;have hkk:fpOf bs∈x.C.map (·.1):=(hperm.map (·.1)).mem_iff.2 (by rw [layC_keys];exact List.mem_map.2 ⟨bs,hbc,rfl⟩);obtain ⟨⟨i,pl⟩,h,e⟩:=List.mem_map.1 hkk;simp only at e;subst e;obtain ⟨c,o,h1,h2,rfl,h4,h5⟩:=hmem _ _ h;have hcb:bs=c:=text_inj (hd.tx bs hbc) (hd.tx c h1) h2;unfold valC;rw [asc_mem hk h];simp only [Option.bind_some];rcases hF with ⟨_,_,e3⟩ | ⟨f,J,e,e1,e2,e3,_⟩
   · rw [e3] at h1;cases h1
   obtain ⟨k1,k2⟩:=hcut J _ o h;rw [hnm,read_at hup nmS_ok e2 k1,k2,h4,hcb]
 rcases hF with ⟨e,_⟩ | ⟨g,J,e,e1,e2,e3,e4,_⟩
 · rw [e] at hf;cases hf
 rw [e] at hf;injection hf with hf;subst hf;rw [e2,e4 hcl,List.append_nil]
end
end
end Go.Proofs.YteabgcollokgjaaGreatDoor
