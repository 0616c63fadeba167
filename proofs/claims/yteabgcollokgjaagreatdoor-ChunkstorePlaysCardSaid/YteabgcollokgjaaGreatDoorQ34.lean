/- Q -/
import Derived.Test.YteabgcollokgjaaGreatDoorQ33
set_option linter.unusedSimpArgs false
set_option linter.unusedVariables false
set_option maxRecDepth 100000
set_option maxHeartbeats 32000000
open List renaming getD_eq_getElem?_getD → zA,length_map → zB,getElem?_eq_getElem → zC
namespace Go.Proofs.YteabgcollokgjaaGreatDoor
section
open Go.RowKit Go.MapKept Go.ChangeMaps Go.Shelf Go.Sort
theorem TX.flush {x x':SR} {P:List (List UInt8)} (h:TX x P) (ha:Flushed x x'):TX x' P:=⟨fun i=>(ha.has i).trans (h.has i),fun bs hb=>(ha.val _).trans (h.val bs hb),h.text⟩
theorem RTX.remL {r r':R3} {P:List (List UInt8)} (h:RTX r P) {ids:List ID} (he:r'.E=remE r.E ids):RTX r' (P.filter fun t=> !decide (fpOf t∈ids)):=by
 refine ⟨?_,fun i=>?_,fun e hm=>?_⟩
 · rw [he];exact List.Pairwise.sublist List.filter_sublist h.sort
 · show i∈r'.E.map (·.id)↔_;rw [he];have hh:=h.has i;simp only [remE,List.mem_map,List.mem_filter,R3.ids] at hh |-; constructor
   · rintro ⟨e,⟨h1,h2⟩,rfl⟩;obtain ⟨t,ht,e2⟩:=hh.1 ⟨e,h1,rfl⟩;exact ⟨t,⟨ht,by rw [e2];exact h2⟩,e2⟩
   rintro ⟨t,⟨h1,h2⟩,rfl⟩;obtain ⟨e,he,e2⟩:=hh.2 ⟨t,h1,rfl⟩;exact ⟨e,⟨he,by rw [e2];exact h2⟩,e2⟩
 rw [he] at hm;exact h.val e (List.mem_filter.1 hm).1
structure PlI (dp t:Nat) (x:SR) (r:R3):Prop where
 p:x.p=dp
 nm:x.nm=nmS
 lay:LayS x
 isi:∃ P,IsI [fileN nmS] x r P
 len:(flen x.F:Int)+32*x.wait<=32*t
section
variable {dp t:Nat} {x x':SR} {r r':R3}
theorem PlI.few (h:PlI dp t x r):x.C.length<=30:=by
 obtain ⟨P,hP⟩:=h.isi;exact hP.tx.few hP.cl.keys
theorem PlI.cl (h:PlI dp t x r):Cl [fileN nmS] x:=by
 obtain ⟨P,hP⟩:=h.isi;exact hP.cl
theorem PlI.room (h:PlI dp t x r) (ht:t<=1000):(pends x.C).length<=49/\flen x.F+frSum (pends x.C)<=1048576:=by
 obtain ⟨P,hP⟩:=h.isi;have h1:=h.few;have h2:=pends_le x.C;have h3:=hP.tx.pends;have h4:=hP.cl.waits;have h5:=h.len;omega
theorem PlI.more (h:PlI dp t x r) {u:Nat} (hu:t<=u):PlI dp u x r:=⟨h.p,h.nm,h.lay,h.isi,by have:=h.len;omega⟩
theorem PlI.flush (h:PlI dp t x r) (hc:Cl [fileN nmS] x') (hf:Flushed x x') (hr:r'.E=r.E.map fun e=>{ e with pn:=false }) (hT:∀ P,RTX r P->RTX r' P):PlI dp t x' r':=by
 obtain ⟨P,hP⟩:=h.isi;refine ⟨hf.p.trans h.p,hf.nm.trans h.nm,hf.lay h.lay,⟨P,hc,hP.tx.flush hf,hT P hP.rtx,fun f hm=>?_⟩,?_⟩
 · rw [pends_none hf.done];rw [hr] at hm;obtain ⟨e,_,rfl⟩:=List.mem_map.1 hm;simp
 have h3:=hP.tx.pends;have h4:=hP.cl.waits;have h5:=h.len;have h6:=hf.len;have h7:=hf.wait;omega
theorem PlI.again (h:PlI dp t x r) (hd:∀ c∈x.C,∃ o,c.2=Pl.at o) (hc:Cl [fileN nmS] x') (hl:LayS x') (ha:Again x x'):PlI dp t x' r:=by
 obtain ⟨P,hP⟩:=h.isi;refine ⟨ha.p.trans h.p,ha.nm.trans h.nm,hl,⟨P,hc,hP.tx.again ha,hP.rtx,fun f hm=>?_⟩,?_⟩
 · rw [pends_none ha.done, <- pends_none hd];exact hP.pn f hm
 have h4:=hP.cl.waits;have h5:=h.len;have h6:=ha.len;have h7:=ha.wait;omega
theorem PlI.gone (h:PlI dp t x r) {ids:List ID} (hc:Cl [fileN nmS] x') (hg:Gone x ids x') (hr:r'.E=remE r.E ids) (hT:∀ P,RTX r P->RTX r' (P.filter fun t=> !decide (fpOf t∈ids))):PlI dp t x' r':=by
 obtain ⟨P,hP⟩:=h.isi;refine ⟨hg.p.trans h.p,hg.nm.trans h.nm,hg.lay h.lay,⟨_,hc,hP.tx.gone hg,hT P hP.rtx,fun f hm=>?_⟩,?_⟩
 · rw [hr] at hm;obtain ⟨h1,h2⟩:=List.mem_filter.1 hm;have h2:f.id ∉ ids:=by simpa using h2
   rw [hg.pend _ h2];exact hP.pn f h1
 have h5:=h.len;have h6:=hg.len;have h7:=hg.wt;omega
theorem PlI.cnt (h:PlI dp t x r) (ids:List ID):(goneL x.C ids).length=cntE r.E ids:=by
 obtain ⟨P,hP⟩:=h.isi;have n1:((goneL x.C ids).map (·.1)).Nodup:=goneL_nodup _ _;have n2:((r.E.filter fun e=>decide (e.id∈ids)).map (·.id)).Nodup:=(ids_nodup hP.rtx).sublist (List.filter_sublist.map _)
 have hm:∀ i,i∈(goneL x.C ids).map (·.1)↔i∈(r.E.filter fun e=>decide (e.id∈ids)).map (·.id):=fun i=>by
  rw [goneL_key,asc_key,hP.key i];constructor
  · rintro ⟨h1,h2⟩;obtain ⟨f,hf,rfl⟩:=List.mem_map.1 h2;exact List.mem_map.2 ⟨f,List.mem_filter.2 ⟨hf,by simpa using h1⟩,rfl⟩
  intro h1;obtain ⟨f,hf,rfl⟩:=List.mem_map.1 h1;obtain ⟨h2,h3⟩:=List.mem_filter.1 hf;exact ⟨by simpa using h3,List.mem_map.2 ⟨f,h2,rfl⟩⟩
 have a1:=len_le_sub _ _ n1 (fun a ha=>(hm a).1 ha);have a2:=len_le_sub _ _ n2 (fun a ha=>(hm a).2 ha);rw [zB,zB] at a1 a2;unfold cntE;omega
structure PutX (x:SR) (bs:List UInt8) (x':SR):Prop where
 cl:Cl [fileN nmS] x'
 way:((asc x.C (fpOf bs)).isSome=true/\x'=x)∨(asc x.C (fpOf bs)=none/\∃ d,d.A.isSome=true/\x'=putS x (fpOf bs) d bs)
structure RPutX (r:R3) (bs:List UInt8) (r':R3):Prop where
 way:(hasAt r.E (fpOf bs)=true/\r'=r)∨(hasAt r.E (fpOf bs)=false/\∃ d,r'.E=putE r.E ⟨fpOf bs,d,bs,true⟩)
theorem PlI.has (h:PlI dp t x r) (i:ID):hasAt r.E i=(asc x.C i).isSome:=by
 obtain ⟨P,hP⟩:=h.isi;rw [Bool.eq_iff_iff,hasAt_iff hP.rtx.sort,asc_key,hP.key i]
theorem LayS.put (h:LayS x) {bs:List UInt8} {d:BD} (ha:asc x.C (fpOf bs)=none):LayS (putS x (fpOf bs) d bs):=by
 intro f hf;obtain ⟨D,h1,cs,h2,h3,h4,h5⟩:=h f hf;refine ⟨D,h1,cs,h2,h3,h4,fun i o=>?_⟩;rw [<- h5]
 have hn:fpOf bs ∉ x.C.map (·.1):=fun hm=>by
  have:=asc_key.2 hm;rw [ha] at this;cases this
 show (i,Pl.at o)∈setL x.C (fpOf bs) (.pend d bs)↔_;rw [setL_new hn];simp
theorem PlI.put (h:PlI dp t x r) {bs:List UInt8} (ht:IsText bs) (hx:PutX x bs x') (hr:RPutX r bs r'):PlI dp (t+1) x' r':=by
 obtain ⟨hc,hw⟩:=hx;obtain ⟨hrw⟩:=hr;have hh:=h.has (fpOf bs);rcases hw with ⟨h1,rfl⟩ | ⟨h1,d,hd,rfl⟩
 · rcases hrw with ⟨h2,rfl⟩ | ⟨h2,_⟩
   · exact h.more (by omega)
   rw [hh,h1] at h2;cases h2
 rcases hrw with ⟨h2,_⟩ | ⟨h2,d2,h3⟩
 · rw [hh,h1] at h2;cases h2
 obtain ⟨P,hP⟩:=h.isi;have hl:=h.len;refine ⟨h.p,h.nm,h.lay.put h1,⟨P++[bs],hc,hP.tx.put ht h1 d,hP.rtx.put ht h3 h2,fun f hm=>?_⟩,?_⟩
 · have hpe:pends (putS x (fpOf bs) d bs).C=pends x.C++[fpOf bs]:=by
    have hn:fpOf bs ∉ x.C.map (·.1):=fun hm=>by
     have:=asc_key.2 hm;rw [h1] at this;cases this
    show pends (setL x.C (fpOf bs) (.pend d bs))=_;rw [setL_new hn];unfold pends;rw [List.filter_append,List.map_append];simp [Pl.A,hd]
   rw [hpe,List.mem_append];rw [h3] at hm;rcases putE_mem.1 hm with rfl | hm
   · simp
   have hne:f.id≠fpOf bs:=fun e=>by
    have h5:=(hP.key f.id).2 (List.mem_map.2 ⟨f,hm,rfl⟩);rw [<- asc_key,e,h1] at h5;cases h5
   rw [hP.pn f hm];simp [hne]
 show (flen x.F:Int)+32*(x.wait+1)<=_;omega
end
section
variable {b:Nat} {w0 w:World} {x:SR} {r:R3} {dp t:Nat} {l:List Ob}
theorem Put_X (h:SW b w0 (x.obs l) w) (hI:PlI dp t x r) (A:Option Addr) (c:Nat) (bs:List UInt8) (hs:RS w A bs) (ht:IsText bs):
 Calls Tryz.prog 23 #[vPtr x.ps,.slice A bs.length c] w (fun e w'=>e= .returned (.tuple #[.agg #[.int .u64 (fpOf bs).1,.int .i64 (fpOf bs).2],.int .i64 0])/\∃ x',SW b w0 (x'.obs l) w'/\PutX x bs x'/\x'.ps=x.ps):=by
 have h1:=ht.lo;have h2:=ht.hi;obtain ⟨P,hP⟩:=hI.isi;cases ha:asc x.C (fpOf bs) with
 | none=>
  have hf:=hI.few;have hz:=sizeC_le x.C hP.cl.ids8;have hz2:=hP.cl.size;have hw:=hP.cl.waits;have hp:(Go.Proofs.YteabgcollokgjaaGreatDoor.pends x.C).length<=x.C.length:=by unfold Go.Proofs.YteabgcollokgjaaGreatDoor.pends;rw [zB];exact List.length_filter_le _ _
  refine (Put_new h.1 hP.cl.toWF A c bs hs h1 (by omega) ha (by omega) hP.cl.wait0 hP.cl.wait1 (by omega) (by omega)).mono ?_;rintro e w' ⟨rfl,d,hs',_,hb⟩;have hsw:SW b w0 ((putS x (fpOf bs) d bs).obs l) w':=⟨hs',h.2.trans hb⟩;have hr:=hs'.spend (x:=putS x (fpOf bs) d bs) (id:=fpOf bs) (d:=d) (bs:=bs) (mem_of_asc (by simp only [putS];rw [asc_setL];simp));have hA:=rb_some hr.1 h1;exact ⟨rfl,_,hsw,⟨put_cl hP.cl hA h1 (by omega) ha (by omega),.inr ⟨ha,d,hA,rfl⟩⟩,rfl⟩
 | some pl=>
  have hm:fpOf bs∈P.map fpOf:=by
   have:=hP.tx.has (fpOf bs);rw [ha] at this;exact of_decide_eq_true this.symm
  obtain ⟨t,ht',e⟩:=List.mem_map.1 hm;have e2:=text_inj (hP.tx.text t ht') ht e;subst e2;refine (PutS_L h hP.cl A c t hs (by omega) (by omega) (hP.tx.val t ht')).mono ?_;rintro e w' ⟨rfl,s⟩;exact ⟨rfl,x,s,⟨hP.cl,.inl ⟨by rw [ha];rfl,rfl⟩⟩,rfl⟩
theorem PutNil_X (h:SW b w0 (x.obs l) w) (hI:PlI dp t x r):Calls Tryz.prog 23 #[vPtr x.ps,.slice none 0 0] w (fun e w'=>e= .returned (.tuple #[.agg #[.int .u64 0,.int .i64 0],.int .i64 330])/\SW b w0 (x.obs l) w'):=by
 refine (Put_size h.1 hI.cl.toWF none 0 0 (by omega) (by omega)).mono ?_;rintro e w' ⟨rfl,hb⟩;exact ⟨rfl,h.on hb⟩
theorem rPut_X (h:SW b w0 l w) (hr:r3Ob r∈l) (hI:PlI dp t x r) (d:BD) (bs:List UInt8) (hb:RB w d bs) (ht:IsText bs):
 Calls Tryz.prog 36 #[.agg #[.slice r.A r.E.length r.c,.slice r.B r.E.length r.k],.slice d.A d.len d.cap] w (fun e w'=>∃ r':R3,e= .returned (.tuple #[.agg #[.slice r'.A r'.E.length r'.c,.slice r'.B r'.E.length r'.k],.agg #[.int .u64 (fpOf bs).1,.int .i64 (fpOf bs).2],.int .i64 0])/\SW b w0 (r3Ob r'::l) w'/\RPutX r bs r'):=by
 obtain ⟨P,hP⟩:=hI.isi;have hT:=hP.rtx;have hok:R3Ok w r:=h.1.holds (r3Ob r) hr;have h1:=ht.lo;have h2:=ht.hi
 have hlen:r.E.length<4096:=by
  have h3:=len_le_sub r.ids (x.C.map (·.1)) (ids_nodup hT) (fun i hi=>(hP.key i).2 hi);have h4:=hI.few;have h6:(x.C.map (·.1)).length=x.C.length:=zB _;have h5:r.ids.length=r.E.length:=zB _;omega
 cases hat:hasAt r.E (fpOf bs) with
 | false=>
  refine (rPut_new hok d bs hb h1 (by omega) hat hlen).mono ?_;rintro e w' ⟨r',d2,rfl,hok',he,hbel,hj⟩;exact ⟨r',rfl,h.alsoR hr hbel hok' hj,⟨.inr ⟨hat,d2,he⟩⟩⟩
 | true=>
  obtain ⟨f,hk,he,hid⟩:∃ f:RE,atI r.E (fpOf bs)<r.E.length/\r.E.getD (atI r.E (fpOf bs)) re0=f/\f.id=fpOf bs:=by
   have hat':=hat;unfold hasAt at hat';split at hat'
   · rename_i f hf
     exact ⟨f,(List.getElem?_eq_some_iff.1 hf).1,by rw [zA,hf];rfl,of_decide_eq_true hat'⟩
   cases hat'
  have hmem:f∈r.E:=by
   rw [<- he,zA,zC hk];exact List.getElem_mem hk
  obtain ⟨hv1,hv2⟩:=hT.val f hmem;have hbs:f.bs=bs:=text_inj hv2 ht (hv1.trans hid);refine (rPut_there hok d bs hb h1 (by omega) hat he hk hbs).mono ?_;rintro e w' ⟨rfl,hbel⟩;exact ⟨r,rfl,h.alsoR hr hbel (hok.on hbel) (fun j hj=> .inr hj),⟨.inl ⟨hat,rfl⟩⟩⟩
theorem Flush_X (h:SW b w0 (x.obs l) w) (hI:PlI dp t x r) (ht:t<=1000):Calls Tryz.prog 35 #[vPtr x.ps] w (FlushL [fileN nmS] b w0 x l):=by
 obtain ⟨h1,h2⟩:=hI.room ht;exact Flush_L h hI.cl h1 h2
theorem rFlush_X (h:SW b w0 l w) (hr:r3Ob r∈l):Calls Tryz.prog 43 #[.agg #[.slice r.A r.E.length r.c,.slice r.B r.E.length r.k]] w (fun e w'=>∃ r2:R3,e= .returned (.agg #[.slice r2.A r2.E.length r2.c,.slice r2.B r2.E.length r2.k])/\SW b w0 (r3Ob r2::l) w'/\r2.E=(r.E.map fun e=>{ e with pn:=false })/\∀ P,RTX r P->RTX r2 P):=by
 refine (rFlush_any (h.1.holds (r3Ob r) hr)).mono ?_;rintro e w' ⟨g,rfl,hg,hok,hb⟩;refine ⟨r.still g,by rw [still_len];rfl,h.alsoR hr hb hok (fun j hj=>?_),rfl,fun P hP=>hP.still g⟩;rcases still_rd hj with rfl | h1
 · exact .inl hg
 exact .inr h1
structure GetX (r:R3) (i:ID) (v:Bool) (d2:BD) (bs:List UInt8) (c:Int):Prop where
 eq:rGetV r i= .tuple #[.slice d2.A d2.len d2.cap,.int .i64 c]
 bytes:∀ W,R3Ok W r->RB W d2 bs
 two:(c=0/\v=true)∨(c=333/\v=false)
theorem Get_X (h:SW b w0 (x.obs l) w) (hI:PlI dp t x r) (i:ID) (hi:okID i):∃ (d2:BD) (bs:List UInt8) (c:Int),GetX r i (asc x.C i).isSome d2 bs c/\Calls Tryz.prog 30 #[vPtr x.ps,.agg #[.int .u64 i.1,.int .i64 i.2]] w (GetCP b w0 x c bs l):=by
 obtain ⟨P,hP⟩:=hI.isi;have hh:=hI.has i;cases ha:asc x.C i with
 | none=>
  rw [ha] at hh;have hh:hasAt r.E i=false:=hh;refine ⟨⟨none,0,0⟩,[],333,⟨by unfold rGetV;rw [hh];rfl,fun W _=>?_,.inr ⟨rfl,rfl⟩⟩,GetN_L h hP.cl i hi ha⟩;exact rb_nil W
 | some pl=>
  rw [ha] at hh;have hh:hasAt r.E i=true:=hh
  obtain ⟨f,he,hm,hid⟩:∃ f:RE,r.E.getD (atI r.E i) re0=f/\f∈r.E/\f.id=i:=by
   have hat':=hh;unfold hasAt at hat';split at hat'
   · rename_i f hf
     have hk:=(List.getElem?_eq_some_iff.1 hf).1;have he:r.E.getD (atI r.E i) re0=f:=by rw [zA,hf];rfl
     refine ⟨f,he,?_,of_decide_eq_true hat'⟩;rw [<- he,zA,zC hk];exact List.getElem_mem hk
   cases hat'
  have hv:=hP.val hm;rw [hid] at hv;refine ⟨f.d,f.bs,0,⟨by unfold rGetV;rw [hh,he];rfl,fun W hW=>hW.bytes f hm,.inl ⟨rfl,rfl⟩⟩,Get_L h hP.cl i hi f.bs hv⟩
theorem is_X {ps:Nat} (h:SW b w0 (x.obs l) w) (hI:PlI dp t x r) (hps:x.ps=ps) (hm:r3Ob r∈l):Calls Tryz.prog 40 #[vPtr ps,.agg #[.slice r.A r.E.length r.c,.slice r.B r.E.length r.k]] w (fun e w'=>e= .returned (.bool true)/\SW b w0 (x.obs l) w'):=by
 obtain ⟨P,hP⟩:=hI.isi;subst hps;exact is40 h hP hm
theorem dead_X {ps:Nat} (h:SW b w0 (x.obs l) w) (hI:PlI dp t x r) (hps:x.ps=ps):Calls Tryz.prog 47 #[vPtr ps] w (fun e w'=>e= .returned (.bool false)/\w=w'):=by
 subst hps;have h1:=Dead_any h.1;rw [hI.cl.live] at h1;exact h1
theorem again_X (h:SW b w0 (x.obs l) w) (hI:PlI dp t x r) (hd:∀ c∈x.C,∃ o,c.2=Pl.at o):Calls Tryz.prog 20 #[vPtr dp,.string nmS] w (fun e w'=>∃ x':SR,e= .returned (.tuple #[vPtr x'.ps,.int .i64 0])/\SW b w0 (x'.obs l) w'/\PlI dp t x' r):=by
 have h1:=Again_L h hI.cl hI.lay (fun m hm=>by rw [hI.nm];simpa using hm) hd;rw [hI.p,hI.nm] at h1;refine h1.mono ?_;rintro e w' ⟨x',rfl,s,hc,hl,ha⟩;exact ⟨x',rfl,s,hI.again hd hc hl ha⟩
theorem rem_X {ps:Nat} (h:SW b w0 (x.obs l) w) (hI:PlI dp t x r) (hps:x.ps=ps) (A:Option Addr) (c:Nat) (ids:List ID) (hA:riOb A ids∈l) (hok:∀ i∈ids,okID i) (hl:ids.length<=3):Calls Tryz.prog 25 #[vPtr ps,.slice A ids.length c] w (fun e w'=>e= .returned (.tuple #[.int .i64 ((cntE r.E ids:Nat):Int),.int .i64 0])/\∃ x',SW b w0 (x'.obs l) w'/\Cl [fileN nmS] x'/\Gone x ids x'):=by
 subst hps;rw [<- hI.cnt ids];exact Rem_L h hI.cl A c ids hA hok (by omega)
theorem PlI.start {p H:Nat} {rp:Rp}:PlI p 0 (openedS p rp St.new nmS H) r30:=
 ⟨rfl,rfl,(fun f hf=>by cases hf),⟨[],opened_cl nmS_ok rfl rfl (fun _=>rfl) (by decide) (by simp) (by simp),TX.empty rfl,RTX.empty,fun f hf=>by cases hf⟩,by simp [openedS,flen]⟩
end
end
section
open Go.RowKit Go.MapKept Go.ChangeMaps Go.Shelf Go.Sort
attribute [local go_sem] wext_cell
abbrev trL (x:SR) (r:R3) (g9 tg:Nat) (A:Option Addr) (cap:Nat) (L:List Int) (n:Nat) (l:List Ob):List Ob:=x.obs (r3Ob r::cellOb g9 54 #[.slice r.A r.E.length r.c,.slice r.B r.E.length r.k]::tpOb tg A cap L n::l)
theorem SW.toTr {b:Nat} {w0 w:World} {l:List Ob} {x:SR} {o1 o2:Ob} (h:SW b w0 (o1::o2::x.obs l) w):SW b w0 (x.obs (o1::o2::l)) w:=
 SW.front (pre:=[o1,o2,devOb x.p x.r x.s,cellOb x.ps 131 x.cells,chOb x.cm x.C,flOb x.fm x.F]) (t:=l) h [2,3,4,5,0,1] (n:=6) rfl (by decide)
end
section
open Go.RowKit Go.MapKept Go.ChangeMaps Go.Shelf Go.Sort

end
end Go.Proofs.YteabgcollokgjaaGreatDoor
