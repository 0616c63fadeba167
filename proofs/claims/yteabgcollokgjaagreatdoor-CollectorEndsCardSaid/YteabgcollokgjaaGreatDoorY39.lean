/- Q -/
import Derived.Test.YteabgcollokgjaaGreatDoorY38
set_option linter.unusedSimpArgs false
set_option linter.unusedVariables false
set_option maxRecDepth 100000
set_option maxHeartbeats 32000000
open List renaming mem_cons_of_mem → zA
namespace Go.Proofs.YteabgcollokgjaaGreatDoor
section
open Go.RowKit Go.MapKept Go.ChangeMaps Go.Shelf Go.Sort
structure PlayI (kp sp:Nat) (c:CR) (x:SR) (r:RC):Prop where
 cp:c.cp=kp
 ps:c.ps=x.ps
 xp:x.ps=sp
 cl:Cl [fileN nmS] x
 tx:∃ P,TX x P/\RTX r.r P
 se:SesI c r.hs
 cd:r.cd=c.cand
 ids:∀ i∈c.cand,okID i
 nz:∀ i∈c.cand,i≠id0
 len:c.cand.length<=11
 nd:c.cand.Nodup
structure Keeps (c:CR) (x:SR) (c':CR) (x':SR):Prop where
 cand:∀ i,i∈c'.cand->i∈c.cand
 has:∀ i,i ∉ c.cand->(asc x.C i).isSome=true->(asc x'.C i).isSome=true
theorem Keeps.same {c c':CR} {x:SR} (h:OnlyS c c'):Keeps c x c' x:=⟨fun i hi=>by rw [<- h.cand];exact hi,fun _ _ h=>h⟩
theorem Keeps.put {c c':CR} {x x':SR} (h:OnlyS c c') {P P':List (List UInt8)} (hT:TX x P) (hT':TX x' P') (hs:∀ t∈P,t∈P'):Keeps c x c' x':=⟨fun i hi=>by rw [<- h.cand];exact hi,fun i _ hi=>by
 rw [hT.has,decide_eq_true_eq] at hi;rw [hT'.has,decide_eq_true_eq];obtain ⟨t,ht,e⟩:=List.mem_map.1 hi;exact List.mem_map.2 ⟨t,hs t ht,e⟩⟩
theorem Keeps.keep (c:CR) (x:SR) (ids:List ID):Keeps c x { c with cand:=lessL (setI ids) c.cand } x:=⟨fun i hi=>((lessL_mem ids c.cand i).1 hi).1,fun _ _ h=>h⟩
theorem Keeps.step {c:CR} {x x':SR} {n:Int} {R:List ID} (hR:stepL c n=R) (hg:Gone x R x'):Keeps c x { c with cand:=lessL (setI R) c.cand } x':=⟨fun i hi=>((lessL_mem R c.cand i).1 hi).1,fun i hi h=>by
 have hn:i ∉ R:=fun hm=>by
  rw [<- hR] at hm;exact hi (stF_sub c n c.cand i hm)
 rw [hg.has,h];simp [hn]⟩
theorem lessL_lessR (ids l:List ID):lessL (setI ids) l=lessR l ids:=by
 unfold lessL lessR;refine List.filter_congr (fun i _=>?_);have:=setI_key ids i;cases hx:asc (setI ids) i with
 | none=>rw [hx] at this;rw [<- this];rfl
 | some v=>rw [hx] at this;rw [<- this];rfl
theorem IsText.nz {bs:List UInt8} (h:IsText bs):fpOf bs≠id0:=fun e=>by
 have h1:(fpOf bs).2=0:=by rw [e]
 rw [h.size] at h1;have:=h.lo;omega
theorem RTX.rem {r r':R3} {P:List (List UInt8)} (h:RTX r P) {ids:List ID} (he:r'.E=remE r.E ids):RTX r' (P.filter fun t=> !decide (fpOf t∈ids)):=by
 refine ⟨?_,fun i=>?_,fun e hm=>?_⟩
 · rw [he];exact List.Pairwise.sublist List.filter_sublist h.sort
 · show i∈r'.E.map (·.id)↔_;rw [he];have hh:=h.has i;simp only [remE,List.mem_map,List.mem_filter,R3.ids] at hh |-; constructor
   · rintro ⟨e,⟨h1,h2⟩,rfl⟩;obtain ⟨t,ht,e2⟩:=hh.1 ⟨e,h1,rfl⟩;exact ⟨t,⟨ht,by rw [e2];exact h2⟩,e2⟩
   rintro ⟨t,⟨h1,h2⟩,rfl⟩;obtain ⟨e,he,e2⟩:=hh.2 ⟨t,h1,rfl⟩;exact ⟨e,⟨he,by rw [e2];exact h2⟩,e2⟩
 rw [he] at hm;exact h.val e (List.mem_filter.1 hm).1
section
variable {kp sp:Nat} {c c':CR} {x x':SR} {r r':RC} {n:Int}
theorem PlayI.start {L:List Int} {p:PR} (h:BgOk L p):PlayI p.co.cp p.x.ps p.co p.x ⟨p.r,p.CA,p.cc,p.cd,none,0,[]⟩:=by
 refine ⟨rfl,h.ps,rfl,h.cl,⟨_,h.tx,h.rtx⟩,SesI.start h.se,?_,bg_ids h,fun i hi=>?_,bg_clen h,bg_nodup h⟩
 · obtain ⟨ys,e,hp,hs⟩:=h.cand;rw [e,lessL_lessR];show p.cd=_;rw [h.cd];congr 1
   refine sorted_uniq (List.pairwise_map.2 h.rtx.sort) (strict_of_sorted hs (hp.nodup_iff.2 h.cl.keys)) (fun i=>?_);rw [h.rtx.has,hp.mem_iff, <- asc_key,h.tx.has,decide_eq_true_eq]
 obtain ⟨t,_,e,ht⟩:=h.tx.key (bg_key h hi).1;rw [<- e];exact ht.nz
theorem PlayI.same (h:PlayI kp sp c x r) (ho:OnlyS c c') (hr:r'.r=r.r) (hd:r'.cd=r.cd) (hs:SesI c' r'.hs):PlayI kp sp c' x r':=
 ⟨ho.cp.trans h.cp,ho.ps.trans h.ps,h.xp,h.cl,by rw [hr];exact h.tx,hs,by rw [hd,ho.cand];exact h.cd,by rw [ho.cand];exact h.ids,by rw [ho.cand];exact h.nz,by rw [ho.cand];exact h.len,by rw [ho.cand];exact h.nd⟩
theorem PlayI.put (h:PlayI kp sp c x r) (ho:OnlyS c c') (hc:Cl [fileN nmS] x') (hps:x'.ps=x.ps) {P:List (List UInt8)} (hT:TX x' P) (hR:RTX r'.r P) (hd:r'.cd=r.cd) (hs:SesI c' r'.hs):PlayI kp sp c' x' r':=
 ⟨ho.cp.trans h.cp,ho.ps.trans (h.ps.trans hps.symm),hps.trans h.xp,hc,⟨P,hT,hR⟩,hs,by rw [hd,ho.cand];exact h.cd,by rw [ho.cand];exact h.ids,by rw [ho.cand];exact h.nz,by rw [ho.cand];exact h.len,by rw [ho.cand];exact h.nd⟩
theorem PlayI.keep (h:PlayI kp sp c x r) (ids:List ID) (hr:r'.r=r.r) (hd:r'.cd=lessR r.cd ids) (hh:r'.hs=r.hs):PlayI kp sp { c with cand:=lessL (setI ids) c.cand } x r':=by
 have hsub:∀ i,i∈lessL (setI ids) c.cand->i∈c.cand:=fun i hi=>((lessL_mem ids c.cand i).1 hi).1;exact ⟨h.cp,h.ps,h.xp,h.cl,by rw [hr];exact h.tx,by rw [hh];exact ⟨h.se.len,h.se.ok,h.se.emp,h.se.low,h.se.num,h.se.inj,h.se.has,h.se.of,h.se.held,h.se.zero⟩,by rw [hd,h.cd,lessL_lessR],fun i hi=>h.ids i (hsub i hi),fun i hi=>h.nz i (hsub i hi),Nat.le_trans (lessL_le _ _) h.len,lessL_nodup h.nd⟩
theorem PlayI.takes (h:PlayI kp sp c x r) (n:Int):stR r.hs r.cd n=stepL c n:=by
 unfold stR stepL stF lessR;rw [h.cd];congr 1
 refine List.filter_congr (fun i hi=>?_);rw [h.se.heldC (h.nz i hi)]
theorem PlayI.step (h:PlayI kp sp c x r) {R:List ID} (hg:Gone x R x') (hc:Cl [fileN nmS] x') (hr:r'.r.E=remE r.r.E R) (hd:r'.cd=lessR r.cd R) (hh:r'.hs=r.hs):PlayI kp sp { c with cand:=lessL (setI R) c.cand } x' r':=by
 have h0:=h.keep (r':={ r with cd:=lessR r.cd R }) R rfl rfl rfl;obtain ⟨P,hT,hR⟩:=h.tx;exact ⟨h0.cp,h.ps.trans hg.ps.symm,hg.ps.trans h.xp,hc,⟨_,hT.gone hg,hR.rem hr⟩,by rw [hh];exact h0.se,hd.trans h0.cd,h0.ids,h0.nz,h0.len,h0.nd⟩
theorem PlayI.few (h:PlayI kp sp c x r):x.C.length<=30/\r.r.E.length<=30:=by
 obtain ⟨P,hT,hR⟩:=h.tx;refine ⟨hT.few h.cl.keys,?_⟩;have hn:r.r.ids.Nodup:=(List.pairwise_map.2 hR.sort:r.r.ids.Pairwise fun x y=>ltID x y=true).imp (fun h e=>by rw [e,ltI_irr] at h;cases h)
 have:=len_le_sub r.r.ids (x.C.map (·.1)) hn (fun i hi=>by
  rw [<- asc_key,hT.has,decide_eq_true_eq, <- hR.has];exact hi)
 rw [List.length_map,List.length_map] at this;have:=hT.few h.cl.keys;omega
theorem PlayI.hasAt (h:PlayI kp sp c x r) (i:ID):Go.Proofs.YteabgcollokgjaaGreatDoor.hasAt r.r.E i=(asc x.C i).isSome:=by
 obtain ⟨P,hT,hR⟩:=h.tx;rw [Bool.eq_iff_iff,hasAt_iff hR.sort,hT.has,decide_eq_true_eq];exact hR.has i
end
section
variable {ns:List ByteArray} {b:Nat} {w0 w:World} {l:List Ob} {x:SR} {c:CR} {hs:List Hold}
abbrev PutPP (ns:List ByteArray) (b:Nat) (w0:World) (c:CR) (x:SR) (hs:List Hold) (P:List (List UInt8)) (N:Int) (bs:List UInt8) (l:List Ob) (v:Bool) (e:Ending) (w':World):Prop:=
 ∃ (i:ID) (code:Int) (c':CR) (x':SR) (hs':List Hold) (P':List (List UInt8)),e= .returned (.tuple #[.agg #[.int .u64 i.1,.int .i64 i.2],.int .i64 code])/\SW b w0 (coOb c'::x'.obs l) w'/\OnlyS c c'/\Cl ns x'/\x'.ps=x.ps/\TX x' P'/\SesI c' hs'/\
  (v=false->i=(0,0)/\code=401/\hs'=hs/\P'=P)/\(v=true->i=fpOf bs/\code=0/\hs'=hs++[(N,fpOf bs)]/\P'=P++[bs])
theorem PutT_P (h:SW b w0 (coOb c::x.obs l) w) (hI:SesI c hs) (hps:c.ps=x.ps) (hc:Cl ns x) {P:List (List UInt8)} (hT:TX x P) (N:Int) (A:Option Addr) (cap:Nat) (bs:List UInt8) (o:Ob) (ho:o∈l) (hr:∀ w',o.holds w'->RS w' A bs) (ht:IsText bs) {v:Bool} (hv:begH hs N=v):
 Calls Tryz.prog 72 #[vPtr c.cp,.int .i64 N,.slice A bs.length cap] w (PutPP ns b w0 c x hs P N bs l v):=by
 rw [hI.begun] at hv;cases hn:fiO (pNum N) c.se with
 | none=>
  rw [hn] at hv;subst hv;refine (CPut_none h N hn _).mono ?_;rintro e w' ⟨rfl,s⟩;exact ⟨(0,0),401,c,x,hs,P,rfl,s,⟨rfl,rfl,rfl⟩,hc,rfl,hT,hI,fun _=>⟨rfl,rfl,rfl,rfl⟩,(fun h=>by cases h)⟩
 | some f=>
  rw [hn] at hv;subst hv;obtain ⟨m,hm⟩:=hI.map hn
  have HP:PutC b w0 c (x.obs l) (fun l'=>∃ x':SR,l'=x'.obs l/\Cl ns x'/\TX x' (P++[bs])/\x'.ps=x.ps) (.slice A bs.length cap) (fpOf bs) 0:=fun o' w' s=>by
   have s2:SW b w0 (x.obs (o'::coOb c::l)) w':=SW.front (pre:=[_,_,_,_,_,_]) (t:=l) s [2,3,4,5,0,1] (n:=6) rfl (by decide);have hrs:RS w' A bs:=hr w' (s2.1.holds o (by simp [ho]));rw [hps];refine (PutT_L s2 hc hT A cap bs hrs ht).mono ?_;rintro e w'' ⟨rfl,x',s3,h1,h2,h3,_⟩;exact ⟨rfl,_,⟨x',rfl,h1,h2,h3⟩,SW.front (pre:=[_,_,_,_,_,_]) (t:=l) s3 [4,5,0,1,2,3] (n:=6) rfl (by decide)⟩
  refine (CPut_ok h N f hn m hm _ (fpOf bs) (okID_fp bs (by have:=ht.hi;omega)) HP).mono ?_;rintro e w' ⟨rfl,l',⟨x',rfl,h1,h2,h3⟩,s⟩;exact ⟨fpOf bs,0,c.hold f (fpOf bs),x',_,_,rfl,s,⟨rfl,rfl,rfl⟩,h1,h3,h2,hI.hold hn ht.nz,(fun h=>by cases h),fun _=>⟨rfl,rfl,rfl,rfl⟩⟩
theorem PutN_P (h:SW b w0 (coOb c::x.obs l) w) (hI:SesI c hs) (hps:c.ps=x.ps) (hc:Cl ns x) (N:Int) {v:Bool} (hv:begH hs N=v):
 Calls Tryz.prog 72 #[vPtr c.cp,.int .i64 N,.slice none 0 0] w (fun e w'=>e= .returned (.tuple #[.agg #[.int .u64 0,.int .i64 0],.int .i64 (if v=true then 330 else 401)])/\SW b w0 (coOb c::x.obs l) w'):=by
 rw [hI.begun] at hv;cases hn:fiO (pNum N) c.se with
 | none=>
  rw [hn] at hv;subst hv;exact CPut_none h N hn _
 | some f=>
  rw [hn] at hv;subst hv
  have HP:PutC b w0 c (x.obs l) (fun l'=>l'=x.obs l) (.slice none 0 0) (0,0) 330:=fun o' w' s=>by
   have s2:SW b w0 (x.obs (o'::coOb c::l)) w':=SW.front (pre:=[_,_,_,_,_,_]) (t:=l) s [2,3,4,5,0,1] (n:=6) rfl (by decide);rw [hps];refine (Put_size s2.1 hc.toWF none 0 0 (by omega) (by omega)).mono ?_;rintro e w'' ⟨rfl,hb⟩;exact ⟨rfl,_,rfl,s.on hb⟩
  refine (CPut_err h N f hn _ (0,0) 330 (by decide) HP).mono ?_;rintro e w' ⟨rfl,l',rfl,s⟩;exact ⟨rfl,s⟩
end
section
variable {b:Nat} {w0 w:World} {l:List Ob}
theorem SW.dup {o:Ob} (h:SW b w0 l w) (hm:o∈l) (hn:∀ i,¬ o.own i):SW b w0 (o::l) w:=
 h.again hm hn (h.1.holds o hm) hn (fun _ h=>h)
structure RIn (r:RC) (l:List Ob):Prop where
 mr:r3Ob r.r∈l
 mc:riOb r.CA r.cd∈l
 mh:hdOb r.HA r.hs∈l
abbrev rcL (r:RC) (l:List Ob):List Ob:=r3Ob r.r::riOb r.CA r.cd::hdOb r.HA r.hs::l
theorem SW.rc (h:SW b w0 l w) {r:RC} (hr:RIn r l):SW b w0 (rcL r l) w:=
 SW.dup (SW.dup (SW.dup h hr.mh (fun _ h=>h)) (zA _ hr.mc) (fun _ h=>h)) (zA _ (zA _ hr.mr)) (fun _ h=>h)
abbrev rcV (r:RC):Value:=.agg #[.slice r.r.A r.r.E.length r.r.c,.slice r.r.B r.r.E.length r.r.k,.slice r.CA r.cd.length r.cc,.slice r.HA r.hs.length r.hc]
theorem SW.rcH {r:RC} {A:Option Addr} {hc:Nat} {hs:List Hold} (h:SW b w0 (hdOb A hs::l) w) (hr:RIn r l):SW b w0 (rcL { r with HA:=A,hc:=hc,hs:=hs } l) w:=by
 have h1:=SW.dup (SW.dup h (o:=riOb r.CA r.cd) (zA _ hr.mc) (fun _ h=>h)) (o:=r3Ob r.r) (zA _ (zA _ hr.mr)) (fun _ h=>h);exact h1
theorem rBegin_R (h:SW b w0 l w) (r:RC) (hr:RIn r l) (N:Int) (v:Bool) (hv:(decide (N<0)||begH r.hs N||decide (16<=zerosH r.hs))=v) (hl:r.hs.length<=10000) {code:Int} (hc:(if v=true then 401 else 0)=code) {hs':List Hold} (hh:(if v=true then r.hs else r.hs++[(N,id0)])=hs'):
 Calls Tryz.prog 114 #[rcV r,.int .i64 N] w (fun e w'=>∃ r':RC,e= .returned (.tuple #[rcV r',.int .i64 code])/\SW b w0 (rcL r' l) w'/\r'.r=r.r/\r'.cd=r.cd/\r'.hs=hs'):=by
 subst hc;subst hh;refine (rBegin_S h r hr.mh N v hv hl).mono ?_;intro e w' hp;cases v with
 | true=>
  obtain ⟨rfl,s⟩:=hp;exact ⟨r,rfl,s.rc hr,rfl,rfl,rfl⟩
 | false=>
  obtain ⟨A,hc,rfl,s⟩:=hp;exact ⟨{ r with HA:=A,hc:=hc,hs:=r.hs++[(N,id0)] },rfl,s.rcH hr,rfl,rfl,rfl⟩
theorem rEnd_R (h:SW b w0 l w) (r:RC) (hr:RIn r l) (N:Int) (v:Bool) (hv:begH r.hs N=v) (hl:r.hs.length<=10000) {code:Int} (hc:(if v=true then 0 else 401)=code) {hs':List Hold} (hh:(if v=true then endH r.hs N else r.hs)=hs'):
 Calls Tryz.prog 68 #[rcV r,.int .i64 N] w (fun e w'=>∃ r':RC,e= .returned (.tuple #[rcV r',.int .i64 code])/\SW b w0 (rcL r' l) w'/\r'.r=r.r/\r'.cd=r.cd/\r'.hs=hs'):=by
 subst hc;subst hh;refine (rEnd_S h r hr.mh N v hv hl).mono ?_;intro e w' hp;cases v with
 | false=>
  obtain ⟨rfl,s⟩:=hp;exact ⟨r,rfl,s.rc hr,rfl,rfl,rfl⟩
 | true=>
  obtain ⟨A,hc,rfl,s⟩:=hp;exact ⟨{ r with HA:=A,hc:=hc,hs:=endH r.hs N },rfl,s.rcH hr,rfl,rfl,rfl⟩
theorem rTouch_R (h:SW b w0 l w) (r:RC) (hr:RIn r l) (N:Int) (i:ID) (v u:Bool) (hv:begH r.hs N=v) (hu:hasAt r.r.E i=u) (hl:r.hs.length<=10000) {vu:Bool} (hvu:(v&&u)=vu) {code:Int} (hc:(if v=true then 0 else 401)=code) {hs':List Hold} (hh:(if vu=true then r.hs++[(N,i)] else r.hs)=hs'):
 Calls Tryz.prog 117 #[rcV r,.int .i64 N,.agg #[.int .u64 i.1,.int .i64 i.2]] w (fun e w'=>∃ r':RC,e= .returned (.tuple #[rcV r',.bool vu,.int .i64 code])/\SW b w0 (rcL r' l) w'/\r'.r=r.r/\r'.cd=r.cd/\r'.hs=hs'):=by
 subst hc;subst hvu;subst hh;refine (rTouch_S h r hr.mh hr.mr N i v u hv hu hl).mono ?_;intro e w' hp;cases v with
 | false=>
  obtain ⟨rfl,s⟩:=hp;exact ⟨r,rfl,s.rc hr,rfl,rfl,rfl⟩
 | true=>
  cases u with
  | false=>
   obtain ⟨rfl,s⟩:=hp;exact ⟨r,rfl,s.rc hr,rfl,rfl,rfl⟩
  | true=>
   obtain ⟨A,hc,rfl,s⟩:=hp;exact ⟨{ r with HA:=A,hc:=hc,hs:=r.hs++[(N,i)] },rfl,s.rcH hr,rfl,rfl,rfl⟩
theorem rPutT_R (h:SW b w0 l w) (r:RC) (hr:RIn r l) (N:Int) {P:List (List UInt8)} (hT:RTX r.r P) (d:BD) (bs:List UInt8) (hd:bufOb d bs∈l) (ht:IsText bs) (v:Bool) (hv:begH r.hs N=v) (hl:r.hs.length<=10000) (hE:r.r.E.length<4096):
 Calls Tryz.prog 115 #[rcV r,.int .i64 N,.slice d.A d.len d.cap] w (fun e w'=>∃ (r':RC) (i:ID) (code:Int) (P':List (List UInt8)),e= .returned (.tuple #[rcV r',.agg #[.int .u64 i.1,.int .i64 i.2],.int .i64 code])/\SW b w0 (rcL r' l) w'/\RTX r'.r P'/\r'.cd=r.cd/\
  (v=false->i=(0,0)/\code=401/\r'.hs=r.hs/\P'=P)/\(v=true->i=fpOf bs/\code=0/\r'.hs=r.hs++[(N,fpOf bs)]/\P'=P++[bs])):=by
 have HP:PutH r d.A d.len d.cap (fpOf bs) 0 (fun r'=>RTX r' (P++[bs])) b w0 l:=fun t W s=>
  rPutT_S s (List.mem_append_right _ hr.mr) hT d bs (s.1.holds (bufOb d bs) (List.mem_append_right _ hd)) ht hE
 refine (rPut40_S h r hr.mh N d.A d.len d.cap (fpOf bs) 0 _ v hv HP hl).mono ?_;intro e w' hp;cases v with
 | false=>
  rw [rPutP,if_pos rfl] at hp;obtain ⟨rfl,s⟩:=hp;exact ⟨r,(0,0),401,P,rfl,s.rc hr,hT,rfl,fun _=>⟨rfl,rfl,rfl,rfl⟩,(fun h=>by cases h)⟩
 | true=>
  rw [rPutP,if_neg (by simp),if_neg (by simp)] at hp;obtain ⟨r',A,hc,rfl,s,hT'⟩:=hp;refine ⟨⟨r',r.CA,r.cc,r.cd,A,hc,r.hs++[(N,fpOf bs)]⟩,fpOf bs,0,P++[bs],rfl,?_,hT',rfl,(fun h=>by cases h),fun _=>⟨rfl,rfl,rfl,rfl⟩⟩;have s1:SW b w0 (r3Ob r'::hdOb A (r.hs++[(N,fpOf bs)])::l) w':=SW.front (pre:=[_,_]) s [1,0] (n:=2) rfl (by decide);have s2:=s1.dup (o:=riOb r.CA r.cd) (by simp [hr.mc]) (fun _ h=>h);exact SW.front (pre:=[_,_,_]) s2 [1,0,2] (n:=3) rfl (by decide)
theorem rPutN_R (h:SW b w0 l w) (r:RC) (hr:RIn r l) (N:Int) (v:Bool) (hv:begH r.hs N=v) (hl:r.hs.length<=10000) {code:Int} (hc:(if v=true then 330 else 401)=code):
 Calls Tryz.prog 115 #[rcV r,.int .i64 N,.slice none 0 0] w (fun e w'=>e= .returned (.tuple #[rcV r,.agg #[.int .u64 0,.int .i64 0],.int .i64 code])/\SW b w0 (rcL r l) w'):=by
 subst hc
 have HP:PutH r none 0 0 (0,0) 330 (fun _=>True) b w0 l:=fun t W s=>
  (rPut_nil s (List.mem_append_right _ hr.mr)).mono fun e w' ⟨he,s⟩=>⟨r.r,he,s,trivial⟩
 refine (rPut40_S h r hr.mh N none 0 0 (0,0) 330 _ v hv HP hl).mono ?_;intro e w' hp;cases v with
 | false=>
  rw [rPutP,if_pos rfl] at hp;obtain ⟨rfl,s⟩:=hp;exact ⟨rfl,s.rc hr⟩
 | true=>
  rw [rPutP,if_neg (by simp),if_pos (by decide)] at hp;obtain ⟨rfl,s⟩:=hp;exact ⟨rfl,s.rc hr⟩
theorem rKeep_R (h:SW b w0 l w) (r:RC) (hr:RIn r l) (A2:Option Addr) (c2:Nat) (ids:List ID) (h2:riOb A2 ids∈l) (n1:r.cd.length<=100000) (n2:ids.length<=100000):
 Calls Tryz.prog 118 #[rcV r,.slice A2 ids.length c2] w (fun e w'=>∃ r':RC,e= .returned (rcV r')/\SW b w0 (rcL r' l) w'/\r'.r=r.r/\r'.cd=lessR r.cd ids/\r'.hs=r.hs):=by
 refine (rKeep_S h r hr.mc n1 A2 c2 ids h2 n2).mono ?_;rintro e w' ⟨A,k,rfl,s⟩;refine ⟨{ r with CA:=A,cc:=k,cd:=lessR r.cd ids },rfl,?_,rfl,rfl,rfl⟩;have s1:=(s.dup (o:=hdOb r.HA r.hs) (zA _ hr.mh) (fun _ h=>h)).dup (o:=r3Ob r.r) (by simp [hr.mr]) (fun _ h=>h);exact SW.front (pre:=[_,_,_]) s1 [0,2,1] (n:=3) rfl (by decide)
theorem rStep_R (h:SW b w0 l w) (r:RC) (hr:RIn r l) (n:Int) (hl:r.hs.length<=10000) (hl2:r.cd.length<=10000) {G:List ID} (hG:stR r.hs r.cd n=G):
 Calls Tryz.prog 69 #[rcV r,.int .i64 n] w (fun e w'=>∃ (r':RC) (A2:Option Addr) (c2:Nat),e= .returned (.tuple #[rcV r',.slice A2 G.length c2])/\SW b w0 (rcL r' (riOb A2 G::l)) w'/\r'.r.E=remE r.r.E G/\r'.cd=lessR r.cd G/\r'.hs=r.hs):=by
 subst hG;refine (rStep_S h r hr.mh hr.mr hr.mc n hl hl2).mono ?_;rintro e w' ⟨r',A1,c1,A2,c2,hE,rfl,s⟩;refine ⟨⟨r',A1,c1,lessR r.cd (stR r.hs r.cd n),r.HA,r.hc,r.hs⟩,A2,c2,rfl,?_,hE,rfl,rfl⟩;have s1:=s.dup (o:=hdOb r.HA r.hs) (by simp [hr.mh]) (fun _ h=>h);exact SW.front (pre:=[_,_,_,_]) s1 [1,2,0,3] (n:=4) rfl (by decide)
end
end
end Go.Proofs.YteabgcollokgjaaGreatDoor
