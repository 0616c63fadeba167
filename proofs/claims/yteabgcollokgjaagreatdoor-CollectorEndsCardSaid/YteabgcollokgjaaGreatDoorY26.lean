/- Q -/
import Derived.Test.YteabgcollokgjaaGreatDoorY25
set_option linter.unusedSimpArgs false
set_option linter.unusedVariables false
set_option maxRecDepth 100000
set_option maxHeartbeats 32000000
open Go.Lib (hid)
open List renaming mem_cons_of_mem → zA,mem_cons_self → zB,map_cons → zC,length_cons → zD,filter_cons → zE,length_map → zF,length_filter_le → zG
open Nat renaming le_refl → zH,le_trans → zI
namespace Go.Proofs.YteabgcollokgjaaGreatDoor
section
open Go.RowKit Go.MapKept Go.ChangeMaps Go.Shelf Go.Sort
theorem goneL_key (C:Chs) (ids:List ID) (i:ID):i∈(goneL C ids).map (·.1)↔i∈ids/\(asc C i).isSome=true:=by
 have:∀ (ids:List ID) (G:List (ID×Bool)),i∈(ids.foldl (gstep C) G).map (·.1)↔i∈G.map (·.1)∨(i∈ids/\(asc C i).isSome=true):=by
  intro ids;induction ids with
  | nil=>intro G;simp
  | cons j ids ih=>
   intro G;rw [List.foldl_cons,ih];unfold gstep;by_cases hj:(asc C j).isSome=true
   · rw [if_pos hj,setL_keys];constructor
     · rintro ((rfl | h) | h)
       · exact .inr ⟨zB .., hj⟩
       · exact .inl h
       exact .inr ⟨zA _ h.1,h.2⟩
     rintro (h | ⟨h,h2⟩)
     · exact .inl (.inr h)
     rcases List.mem_cons.1 h with rfl | h
     · exact .inl (.inl rfl)
     exact .inr ⟨h,h2⟩
   rw [if_neg hj];constructor
   · rintro (h | h)
     · exact .inl h
     exact .inr ⟨zA _ h.1,h.2⟩
   rintro (h | ⟨h,h2⟩)
   · exact .inl h
   rcases List.mem_cons.1 h with rfl | h
   · exact absurd h2 hj
   exact .inr ⟨h,h2⟩
 have h:=this ids [];simpa [goneL] using h
theorem goneL_nodup (C:Chs) (ids:List ID):((goneL C ids).map (·.1)).Nodup:=by
 have:∀ (ids:List ID) (G:List (ID×Bool)),(G.map (·.1)).Nodup->((ids.foldl (gstep C) G).map (·.1)).Nodup:=by
  intro ids;induction ids with
  | nil=>intro G h;exact h
  | cons j ids ih=>
   intro G h;refine ih _ ?_;unfold gstep;split
   · exact setL_nodup h _ _
   exact h
 exact this ids [] List.nodup_nil
theorem delC_sub {C:Chs} (hn:(C.map (·.1)).Nodup) (a:ID):∀ c∈delL C a,c∈C:=fun c hc=>by
 have h1:=asc_mem (delL_keys hn a) hc;rw [asc_delL hn] at h1;by_cases e:a=c.1
 · rw [if_pos e] at h1;cases h1
 rw [if_neg e] at h1;exact mem_of_asc h1
theorem delAll_nodup:∀ (done:List (ID×Bool)) (C:Chs),(C.map (·.1)).Nodup->((delAll C done).map (·.1)).Nodup:=by
 intro done;induction done with
 | nil=>intro C h;exact h
 | cons g done ih=>intro C h;exact ih _ (delL_keys h g.1)
theorem delAll_sub:∀ (done:List (ID×Bool)) (C:Chs),(C.map (·.1)).Nodup->∀ c∈delAll C done,c∈C:=by
 intro done;induction done with
 | nil=>intro C _ c hc;exact hc
 | cons g done ih=>intro C h c hc;exact delC_sub h g.1 c (ih _ (delL_keys h g.1) c hc)
theorem delAll_in:∀ (done:List (ID×Bool)) (C:Chs),(C.map (·.1)).Nodup->∀ i∈done.map (·.1),asc (delAll C done) i=none:=by
 intro done;induction done with
 | nil=>intro C _ i hi;cases hi
 | cons g done ih=>
  intro C hn i hi;show asc (delAll (delL C g.1) done) i=none;by_cases hd:i∈done.map (·.1)
  · exact ih _ (delL_keys hn g.1) i hd
  rw [zC] at hi;rcases List.mem_cons.1 hi with e | hi
  · rw [delAll_asc _ _ (delL_keys hn g.1) i (fun k hk e2=>hd (List.mem_map.2 ⟨k,hk,e2⟩)),asc_delL hn,if_pos e.symm]
  exact absurd hi hd
theorem delL_len {C:Chs} {a:ID} {pl:Pl} (h:asc C a=some pl):(delL C a).length+1=C.length/\sizeC (delL C a)=sizeC C-a.2/\((pends (delL C a)).length:Int)=(pends C).length-(if pl.A.isSome then 1 else 0):=by
 induction C with
 | nil=>cases h
 | cons c C ih=>
  unfold asc at h;unfold delL;by_cases e:c.1=a
  · rw [if_pos e] at h |-; injection h with h;subst h;subst e;refine ⟨rfl,by simp [sizeC];omega,?_⟩;unfold pends;rw [zE];by_cases hA:c.2.A.isSome=true
    · rw [if_pos hA];simp [hA]
    rw [if_neg hA];simp [hA]
  rw [if_neg e] at h |-; obtain ⟨i1,i2,i3⟩:=ih h;refine ⟨by simp only [zD];omega,?_,?_⟩
  · have k1:sizeC (c::delL C a)=c.1.2+sizeC (delL C a):=by simp [sizeC]
    have k2:sizeC (c::C)=c.1.2+sizeC C:=by simp [sizeC]
    omega
  unfold pends at i3 |-; rw [zE,zE];by_cases hA:c.2.A.isSome=true
  · simp only [if_pos hA,zC,zD];omega
  simp only [if_neg hA];exact i3
theorem delAll_len:∀ (done:List (ID×Bool)) (C:Chs),(C.map (·.1)).Nodup->(done.map (·.1)).Nodup->(∀ g∈done,(asc C g.1).isSome=true)->(∀ c∈C,c.2.isP=c.2.A.isSome)->
 sizeC (delAll C done)=sizeC C-sizeN done/\((pends (delAll C done)).length:Int)=(pends C).length-pendN C done/\(delAll C done).length+done.length=C.length:=by
 intro done;induction done with
 | nil=>intro C _ _ _ _;simp [delAll,sizeN,pendN]
 | cons g done ih=>
  intro C hn hd hs hp;rw [zC,List.nodup_cons] at hd;obtain ⟨pl,hpl⟩:=Option.isSome_iff_exists.1 (hs g (zB ..));have hne:∀ k∈done,k.1≠g.1:=fun k hk e=>hd.1 (List.mem_map.2 ⟨k,hk,e⟩)
  have hk:∀ k∈done,asc (delL C g.1) k.1=asc C k.1:=fun k hk=>by
   rw [asc_delL hn,if_neg (fun e=>hne k hk e.symm)]
  obtain ⟨a1,a2,a3⟩:=delL_len hpl;obtain ⟨b1,b2,b3⟩:=ih (delL C g.1) (delL_keys hn g.1) hd.2 (fun k hkk=>by rw [hk k hkk];exact hs k (zA _ hkk)) (fun c hc=>hp c (delC_sub hn g.1 c hc))
  have e1:pendN (delL C g.1) done=pendN C done:=by
   unfold pendN;congr 2
   refine List.filter_congr (fun k hkk=>?_);unfold pendB1;rw [hk k hkk]
  have e2:pendN C (g::done)=(if pl.A.isSome then 1 else 0)+pendN C done:=by
   have hpp:=hp _ (mem_of_asc hpl);simp only at hpp;unfold pendN;rw [zE]
   have:pendB1 C g=pl.A.isSome:=by
    unfold pendB1;rw [hpl, <- hpp];rfl
   rw [this];cases pl.A.isSome
   · simp
   simp;omega
  have e3:sizeN (g::done)=g.1.2+sizeN done:=by simp [sizeN]
  have e4:delAll C (g::done)=delAll (delL C g.1) done:=rfl;rw [e4,e2,e3];refine ⟨by omega,by omega,by simp only [zD];omega⟩
theorem pendN_nn (C:Chs) (done:List (ID×Bool)):0<=pendN C done:=Int.natCast_nonneg _
structure Gone (x:SR) (ids:List ID) (x':SR):Prop where
 val:∀ i,valC x' i=if i∈ids then none else valC x i
 has:∀ i,(asc x'.C i).isSome=(!decide (i∈ids)&&(asc x.C i).isSome)
 nm:x'.nm=x.nm
 p:x'.p=x.p
 ps:x'.ps=x.ps
 len:flen x'.F<=flen x.F
 cnt:x'.C.length+(goneL x.C ids).length=x.C.length
 bytes:x'.bytes=x.bytes-sizeN (goneL x.C ids)
 wt:x'.wait<=x.wait
 now:∀ m,m≠fileN x.nm->m≠freshN x.nm->x'.s.now m=x.s.now m
theorem Cl.isP {ns:List ByteArray} {x:SR} (h:Cl ns x):∀ c∈x.C,c.2.isP=c.2.A.isSome:=fun c hc=>by
 obtain ⟨i,pl⟩:=c;cases pl with
 | pend d bs=>simp [Pl.isP,Pl.A,(h.pA i d bs hc).1]
 | «at» o=>rfl
theorem Cl.reqDel {ns:List ByteArray} {x:SR} (h:Cl ns x) (n:Nat) (hF:∃ f,x.F=some f):reqE x.s n (delOp x.nm)=0/\reqS x.s n (delOp x.nm)={ x.s with ops:=x.s.ops++[delOp x.nm] }:=by
 refine req_ok ?_ h.f0;obtain ⟨f,hF⟩:=hF;obtain ⟨_,D,h1,_⟩:=h.file f hF;simp [gate,delOp,h.up,nameB_file h.nv,h1]
theorem anyAt_file {ns:List ByteArray} {x:SR} (h:Cl ns x) {G:List (ID×Bool)} (ha:anyAt x.C G=true):∃ f,x.F=some f:=by
 unfold anyAt at ha;obtain ⟨g,hg,h2⟩:=List.any_eq_true.1 ha;cases hF:x.F with
 | some f=>exact ⟨f,rfl⟩
 | none=>
  exfalso
  cases hg2:asc x.C g.1 with
  | none=>rw [hg2] at h2;cases h2
  | some pl=>
   rw [hg2] at h2;cases pl with
   | pend d bs=>cases h2
   | «at» o=>exact (h.no hF).2 _ _ (mem_of_asc hg2)
theorem durs_of {C:Chs} {i:ID} {o:Nat} (h:(i,Pl.at o)∈C):(i,o)∈durs C:=by
 induction C with
 | nil=>cases h
 | cons c C ih=>
  obtain ⟨j,pl⟩:=c;rcases List.mem_cons.1 h with e | h2
  · cases e
    unfold durs;exact zB ..
  cases pl with
  | pend d bs=>unfold durs;exact ih h2
  | «at» p=>unfold durs;exact zA _ (ih h2)
theorem sizeN_perm {a b:List (ID×Bool)} (h:a.Perm b):sizeN a=sizeN b:=by
 induction h with
 | nil=>rfl
 | cons x _ ih=>simp only [sizeN,zC,List.sum_cons] at *; rw [ih]
 | swap x y l=>simp only [sizeN,zC,List.sum_cons];omega
 | trans _ _ ih1 ih2=>exact ih1.trans ih2
theorem frames_delL (a:ID) (C:Chs):entSum (durs (delL C a))<=entSum (durs C):=by
 induction C with
 | nil=>exact zH _
 | cons c C ih=>
  obtain ⟨i,pl⟩:=c;unfold delL;split
  · cases pl with
    | pend d bs=>exact zH _
    | «at» o=>
     have e4:entSum (durs ((i,Pl.at o)::C))=28+i.2.toNat+entSum (durs C):=by simp [entSum,durs]
     omega
  cases pl with
  | pend d bs=>exact ih
  | «at» o=>
   have e4:entSum (durs ((i,Pl.at o)::C))=28+i.2.toNat+entSum (durs C):=by simp [entSum,durs]
   have e5:entSum (durs ((i,Pl.at o)::delL C a))=28+i.2.toNat+entSum (durs (delL C a)):=by simp [entSum,durs]
   omega
theorem frames_del:∀ (done:List (ID×Bool)) (C:Chs),entSum (durs (delAll C done))<=entSum (durs C):=by
 intro done;induction done with
 | nil=>intro C;exact zH _
 | cons g done ih=>intro C;exact zI (ih (delL C g.1)) (frames_delL g.1 C)
theorem Cl.renew_len {ns:List ByteArray} {x:SR} (h:Cl ns x) {G:List (ID×Bool)} (hany:anyAt x.C G=true) {ys:List Ent} (hys:ys.Perm (durs x.C)):∃ D,readB x.s (fileN x.nm)=D/\(rfold D [] (stays G ys)).2.length<=1048576:=by
 obtain ⟨f0,hF⟩:=anyAt_file h hany;obtain ⟨hT0,D0,hD1,hD2,hD3⟩:=h.file f0 hF;obtain ⟨hR1,hR2⟩:=readE_ok h.up (nameB_file h.nv) hD1;refine ⟨D0,hR2,?_⟩
 have hYlen:∀ y∈stays G ys,0<=y.1.2/\(y.2:Int)+28+y.1.2<=D0.length:=fun y hy=>by
  have hm:=durs_mem (hys.mem_iff.1 (List.mem_filter.1 hy).1);have h0:0<=y.1.2:=by have:=(h.ids8 _ hm).1;simp only at this;omega
  have:=(cutOk_len (hD3 _ _ hm)).2 h0;exact ⟨h0,by omega⟩
 rw [rfold_len _ _ _ hYlen];have h1:entSum (stays G ys)<=entSum ys:=entSum_filter _ ys;rw [entSum_perm hys] at h1;have h2:=h.frames;have h3:=h.len;omega
theorem ren_cl {ns:List ByteArray} {x:SR} {ids:List ID} {done:List (ID×Bool)} {n1 n2:Nat} {r:Rp} {ys:List Ent} {mv:Chs} {f:FR} {D:List UInt8} (h:Cl ns x) (hd:done.Perm (goneL x.C ids)) (hDr:readB x.s (fileN x.nm)=D) (hany:anyAt x.C (goneL x.C ids)=true) (hys:ys.Perm (durs x.C)) (hn1:Cnt x.s.now n1)
 (hmv:mv.Perm (rfold D [] (stays (goneL x.C ids) ys)).1) (hfl:f.len=entSum (stays (goneL x.C ids) ys)) (hfc:f.clean=true) (hfT:f.T=[]):
 Cl ns (rmS { x with r:=r,s:=syncS (rqS x.s x.nm n1 n2 (rfold D [] (stays (goneL x.C ids) ys)).2),C:=updAll x.C mv,wait:=x.wait-pdN x.C mv,F:=some f } done)/\Gone x ids (rmS { x with r:=r,s:=syncS (rqS x.s x.nm n1 n2 (rfold D [] (stays (goneL x.C ids) ys)).2),C:=updAll x.C mv,wait:=x.wait-pdN x.C mv,F:=some f } done):=by
 obtain ⟨D',hDr',hbs⟩:=h.renew_len hany hys;obtain rfl:D=D':=hDr.symm.trans hDr';obtain ⟨f0,hF⟩:=anyAt_file h hany;obtain ⟨hT0,D0,hD1,hD2,hD3⟩:=h.file f0 hF;obtain ⟨hR1,hR2⟩:=readE_ok h.up (nameB_file h.nv) hD1;obtain rfl:D=D0:=hDr.symm.trans hR2;obtain ⟨q1,q2⟩:=rq_ok (n1:=n1) (n2:=n2) h.up h.f0 h.nv (h.cnt hn1) hbs;obtain ⟨Y,hY⟩:∃ Y,stays (goneL x.C ids) ys=Y:=⟨_,rfl⟩
 have hYin:∀ i o,i ∉ ids->(i,Pl.at o)∈x.C->(i,o)∈Y:=fun i o hi hm=>by
  rw [<- hY];refine List.mem_filter.2 ⟨hys.mem_iff.2 (durs_of hm),?_⟩
  have:asc (goneL x.C ids) i=none:=by
   cases hv:asc (goneL x.C ids) i with
   | none=>rfl
   | some v=>exact absurd ((goneL_key x.C ids i).1 (asc_key.1 (by rw [hv];rfl))).1 hi
  simp only [this];rfl
 have hYat:∀ y∈Y,(y.1,Pl.at y.2)∈x.C:=fun y hy=>by
  rw [<- hY] at hy;exact durs_mem (hys.mem_iff.1 (List.mem_filter.1 hy).1)
 have hYle:entSum Y<=flen x.F:=by
  have h1:entSum Y<=entSum ys:=by rw [<- hY];exact entSum_filter _ ys
  rw [entSum_perm hys] at h1;have h2:=h.frames;omega
 rw [hY] at hmv hfl hbs q1 q2 |-
 have hYlen:∀ y∈Y,0<=y.1.2/\(y.2:Int)+28+y.1.2<=D.length:=fun y hy=>by
  have hm:=hYat y hy;have h0:0<=y.1.2:=by have:=(h.ids8 _ hm).1;simp only at this;omega
  have:=(cutOk_len (hD3 _ _ hm)).2 h0;exact ⟨h0,by omega⟩
 have hbl:=rfold_len D [] Y hYlen;have hK:=rfold_keys D x.C Y;have hAt:=rfold_at D Y hYlen;have hmvn:(mv.map (·.1)).Nodup:=(hmv.map _).nodup_iff.2 (rfold_nodup D Y);obtain ⟨bs,hbse⟩:∃ bs,(rfold D [] Y).2=bs:=⟨_,rfl⟩;rw [hbse] at hbl hAt q1 q2 hbs |-; have hmv2:∀ c∈mv,∃ y∈Y,y.1=c.1/\∃ o,c.2=Pl.at o/\cutB bs c.1 o=cutB D c.1 y.2/\o+28+c.1.2.toNat<=bs.length:=fun c hc=>hAt c (hmv.mem_iff.1 hc);have hmvk:∀ i,i∈mv.map (·.1)↔i∈Y.map (·.1):=fun i=>(hmv.map _).mem_iff.trans (hK.2 i)
 have hmvx:∀ c∈mv,∃ p,asc x.C c.1=some (Pl.at p):=fun c hc=>by
  obtain ⟨y,hy,e,_⟩:=hmv2 c hc;exact ⟨y.2,by rw [<- e];exact asc_mem h.keys (hYat y hy)⟩
 have hpd:pdN x.C mv=0:=by
  unfold pdN;rw [List.filter_eq_nil_iff.2 (fun c hc=>?_)]
  · rfl
  obtain ⟨p,hp⟩:=hmvx c hc;rw [hp];simp [Pl.isP]
 have hsame:(updAll x.C mv).map (·.1)=x.C.map (·.1):=updAll_same x.C mv (fun c hc=>by
  obtain ⟨p,hp⟩:=hmvx c hc;exact asc_key.1 (by rw [hp];rfl))
 have hpe:Go.Proofs.YteabgcollokgjaaGreatDoor.pends (updAll x.C mv)=Go.Proofs.YteabgcollokgjaaGreatDoor.pends x.C:=pends_updAll mv x.C (fun c hc=>by
  obtain ⟨y,_,_,o,ho,_⟩:=hmv2 c hc;exact ⟨⟨o,ho⟩,hmvx c hc⟩)
 have hup:∀ i,asc (updAll x.C mv) i=match asc mv i with | some pl=>some pl | none=>asc x.C i:=fun i=>updAll_asc x.C mv hmvn i
 rw [hpd,q2,(sync_ok (s:={ x.s with ops:=x.s.ops++[crOp x.nm bs]++[rnOp x.nm] }) h.up h.f0).2];have hnow:=rn_now x.s x.nm bs;obtain ⟨N,hN⟩:∃ N,St.now { x.s with ops:=x.s.ops++[crOp x.nm bs]++[rnOp x.nm] }=N:=⟨_,rfl⟩;rw [hN] at hnow |-; obtain ⟨C1,hC1⟩:∃ C1,updAll x.C mv=C1:=⟨_,rfl⟩;rw [hC1] at hsame hpe hup |-
 have hcore:∀ i,i ∉ ids->∀ o,asc x.C i=some (Pl.at o)->∃ o',asc C1 i=some (Pl.at o')/\cutB bs i o'=cutB D i o/\cutOk bs i o'=true/\o'+28+i.2.toNat<=bs.length:=fun i hi o ha=>by
  have hm:=mem_of_asc ha;have hy:=hYin i o hi hm;have hk:i∈mv.map (·.1):=(hmvk i).2 (List.mem_map.2 ⟨_,hy,rfl⟩);obtain ⟨c,hc,rfl⟩:=List.mem_map.1 hk;obtain ⟨z,hz,e,o',h1,h2,h3⟩:=hmv2 c hc;have hzo:z.2=o:=durs_uniq h.keys (by rw [<- e];exact hYat z hz) hm;rw [hzo] at h2;have hai:asc mv c.1=some c.2:=asc_mem hmvn hc;refine ⟨o',?_,h2,?_,h3⟩
  · rw [hup,hai,h1]
  have h4:=cutOk_len (hD3 _ _ hm);have h0:0<=c.1.2:=by have:=(h.ids8 _ hm).1;simp only at this;omega
  unfold cutOk;rw [h2,h4.1];simp only [Bool.and_eq_true,decide_eq_true_eq,and_true];omega
 have hpcore:∀ i d b,asc x.C i=some (Pl.pend d b)->asc C1 i=some (Pl.pend d b):=fun i d b ha=>by
  have:asc mv i=none:=by
   cases hv:asc mv i with
   | none=>rfl
   | some v=>
    obtain ⟨p,hp⟩:=hmvx _ (mem_of_asc hv);rw [ha] at hp;cases hp
  rw [hup,this];exact ha
 have hisome:∀ i,(asc C1 i).isSome=(asc x.C i).isSome:=fun i=>by
  rw [Bool.eq_iff_iff,asc_key,asc_key,hsame]
 have hC1n:(C1.map (·.1)).Nodup:=by rw [hsame];exact h.keys
 have hdn:(done.map (·.1)).Nodup:=(hd.map _).nodup_iff.2 (goneL_nodup _ _);have hdk:∀ i,i∈done.map (·.1)↔i∈ids/\(asc x.C i).isSome=true:=fun i=>(hd.map _).mem_iff.trans (goneL_key x.C ids i)
 have hds:∀ g∈done,(asc C1 g.1).isSome=true:=fun g hg=>by
  rw [hisome];exact ((hdk g.1).1 (List.mem_map.2 ⟨g,hg,rfl⟩)).2
 have hisP:∀ c∈C1,c.2.isP=c.2.A.isSome:=fun c hc=>by
  have ha:=asc_mem hC1n hc;obtain ⟨i,pl⟩:=c;cases pl with
  | «at» o=>rfl
  | pend d b=>
   simp only at ha;cases hv:asc mv i with
   | some v=>
    obtain ⟨_,_,_,o,ho,_⟩:=hmv2 _ (mem_of_asc hv);rw [hup,hv] at ha;injection ha with ha;rw [ha] at ho;cases ho
   | none=>
    rw [hup,hv] at ha;have:=(h.pA i d b (mem_of_asc ha)).1;simp [Pl.isP,Pl.A,this]
 obtain ⟨l1,l2,l3⟩:=delAll_len done C1 hC1n hdn hds hisP;have hkeys:=delAll_nodup done C1 hC1n
 have hasc:∀ i,asc (delAll C1 done) i=if i∈ids then none else asc C1 i:=fun i=>by
  by_cases hi:i∈done.map (·.1)
  · rw [delAll_in done C1 hC1n i hi,if_pos ((hdk i).1 hi).1]
  rw [delAll_asc done C1 hC1n i (fun k hk e=>hi (List.mem_map.2 ⟨k,hk,e⟩))];by_cases hj:i∈ids
  · rw [if_pos hj];cases hx:asc C1 i with
    | none=>rfl
    | some pl=>exact absurd ((hdk i).2 ⟨hj,by rw [<- hisome,hx];rfl⟩) hi
  rw [if_neg hj]
 have hfull:∀ c∈delAll C1 done,c.1 ∉ ids/\((∃ o',c.2=Pl.at o'/\cutOk bs c.1 o'=true/\o'+28+c.1.2.toNat<=bs.length/\∃ o,(c.1,Pl.at o)∈x.C)∨∃ d b,c.2=Pl.pend d b/\(c.1,Pl.pend d b)∈x.C):=fun c hc=>by
  have ha:=asc_mem hkeys hc;rw [hasc] at ha;by_cases hj:c.1∈ids
  · rw [if_pos hj] at ha;cases ha
  rw [if_neg hj] at ha;refine ⟨hj,?_⟩;cases hx:asc x.C c.1 with
  | none=>
   have:=hisome c.1;rw [ha,hx] at this;cases this
  | some pl=>
   cases pl with
   | «at» o=>
    obtain ⟨o',h1,h2,h3,h4⟩:=hcore c.1 hj o hx;rw [h1] at ha;injection ha with ha;exact .inl ⟨o',ha.symm,h3,h4,o,mem_of_asc hx⟩
   | pend d b=>
    rw [hpcore _ _ _ hx] at ha;injection ha with ha;exact .inr ⟨d,b,ha.symm,mem_of_asc hx⟩
 have hkey:∀ c∈delAll C1 done,∃ pl,(c.1,pl)∈x.C:=fun c hc=>by
  rcases (hfull c hc).2 with ⟨o',_,_,_,o,hm⟩ | ⟨d,b,_,hm⟩
  · exact ⟨_,hm⟩
  exact ⟨_,hm⟩
 have hlC:C1.length=x.C.length:=by
  have:=congrArg List.length hsame;simpa using this
 have hsz:sizeC C1=sizeC x.C:=by unfold sizeC;rw [hsame]
 have hw:=h.waits;have hfew:=h.few;have hlen8:=h.len;have hpl:(Go.Proofs.YteabgcollokgjaaGreatDoor.pends (delAll C1 done)).length<=(delAll C1 done).length:=by unfold Go.Proofs.YteabgcollokgjaaGreatDoor.pends;rw [zF];exact zG _ _
 have hns:∀ m,(N m).isSome=true->m∈ns:=fun m hm=>by
  rw [hnow] at hm;by_cases e:freshN x.nm=m
  · rw [if_pos e] at hm;cases hm
  rw [if_neg e] at hm;by_cases e2:fileN x.nm=m
  · rw [<- e2];exact h.ns1
  rw [if_neg e2] at hm;exact h.ns3 m hm
 have hfile:N (fileN x.nm)=some bs:=by rw [hnow,if_neg (fresh_ne x.nm),if_pos rfl]
 have hN2:St.now ⟨N,[],false,0⟩=N:=rfl
 refine ⟨{
  live:=h.live
  up:=rfl
  name:=h.name
  few:=by simp only [rmS];omega
  ids:=fun c hc=>by
   obtain ⟨pl,hm⟩:=hkey c hc;exact h.ids (c.1,pl) hm
  offs:=fun i o hc=>by
   rcases (hfull _ hc).2 with ⟨o',h1,_,h3,_⟩ | ⟨d,b,h1,_⟩
   · simp only at h1 h3;injection h1 with h1;omega
   cases h1
  pends:=fun i d bs' hc=>by
   rcases (hfull _ hc).2 with ⟨o',h1,_⟩ | ⟨d',b',h1,h2⟩
   · cases h1
   simp only at h1 h2;rw [<- h1] at h2;exact h.pends i d bs' h2
  whole:=fun f' hf'=>by
   injection hf' with hf';rw [<- hf'];exact hfc
  own:=fun i d bs' hc=>by
   rcases (hfull _ hc).2 with ⟨o',h1,_⟩ | ⟨d',b',h1,h2⟩
   · cases h1
   simp only at h1 h2;rw [<- h1] at h2;exact h.own i d bs' h2
  ops:=by simp [rmS]
  files:=fun k hk=>by
   obtain ⟨L,k1,k2,rfl⟩:=hk;exact zI (len_le_sub L ns k1 (fun a ha=>hns a ((k2 a).1 ha))) h.ns2
  ids8:=fun c hc=>by
   obtain ⟨pl,hm⟩:=hkey c hc;exact h.ids8 (c.1,pl) hm
  wait0:=by rw [hpe] at l2;simp only [rmS];omega
  wait1:=by rw [hpe] at l2;simp only [rmS];omega
  keys:=hkeys
  f0:=rfl
  nv:=h.nv
  ns1:=h.ns1
  ns2:=h.ns2
  ns3:=hns
  no:=fun hF=>by cases hF
  file:=fun f' hf'=>by
   injection hf' with hf';rw [<- hf'];refine ⟨hfT,bs,hfile,by rw [hfl,hbl],fun i o hc=>?_⟩;rcases (hfull _ hc).2 with ⟨o',h1,h2,_⟩ | ⟨d',b',h1,_⟩
   · simp only at h1 h2;injection h1 with h1;rw [h1];exact h2
   cases h1
  len:=by simp only [rmS,flen,hfl];omega
  waits:=by rw [hpe] at l2;simp only [rmS];omega
  pA:=fun i d bs' hc=>by
   rcases (hfull _ hc).2 with ⟨o',h1,_⟩ | ⟨d',b',h1,h2⟩
   · cases h1
   simp only at h1 h2;rw [<- h1] at h2;exact h.pA i d bs' h2
  size:=by have:=h.size;simp only [rmS];omega
  frames:=by
   simp only [rmS,flen,hfl];rw [entSum_keys,entSum_keys];refine frSum_sub _ _ ((durs_sub _).nodup hkeys) (fun a ha=>?_);obtain ⟨y,hy,rfl⟩:=List.mem_map.1 ha;obtain ⟨hni,hc⟩:=hfull _ (durs_mem hy);rcases hc with ⟨o',_,_,_,o,hm⟩ | ⟨d',b',h1,_⟩
   · exact List.mem_map.2 ⟨_,hYin _ o hni hm,rfl⟩
   cases h1 },{
  val:=fun i=>by
   unfold valC;simp only [rmS];rw [hasc];by_cases hj:i∈ids
   · rw [if_pos hj,if_pos hj];rfl
   rw [if_neg hj,if_neg hj];cases hx:asc x.C i with
   | none=>
    have:asc C1 i=none:=by
     have:=hisome i;rw [hx] at this;cases hy:asc C1 i with
     | none=>rfl
     | some v=>rw [hy] at this;cases this
    rw [this];rfl
   | some pl=>
    cases pl with
    | pend d b=>rw [hpcore _ _ _ hx];rfl
    | «at» o=>
     obtain ⟨o',h1,h2,h3,h4⟩:=hcore i hj o hx;rw [h1];simp only [Option.bind_some];rw [read_at (s:=⟨N,[],false,0⟩) rfl h.nv hfile h3,read_at h.up h.nv hD1 (hD3 _ _ (mem_of_asc hx)),h2]
  has:=fun i=>by
   simp only [rmS];rw [hasc];by_cases hj:i∈ids
   · simp [hj]
   simp [hj,hisome]
  nm:=rfl
  p:=rfl
  ps:=rfl
  len:=by simp only [rmS,flen,hfl];exact hYle
  cnt:=by have:=hd.length_eq;simp only [rmS];omega
  bytes:=by simp only [rmS];rw [sizeN_perm hd]
  wt:=by simp only [rmS];have:=pendN_nn C1 done;omega
  now:=fun m hm1 hm2=>by
   show N m=_;rw [hnow,if_neg (fun e=>hm2 e.symm),if_neg (fun e=>hm1 e.symm)] }⟩
theorem gone_cl {ns:List ByteArray} {x x1:SR} {ids:List ID} {done:List (ID×Bool)} (h:Cl ns x) (ha:After x (goneL x.C ids) x1) (hd:done.Perm (goneL x.C ids)):
 Cl ns (rmS x1 done)/\Gone x ids (rmS x1 done):=by
 have hdn:(done.map (·.1)).Nodup:=(hd.map _).nodup_iff.2 (goneL_nodup _ _);have hdk:∀ i,i∈done.map (·.1)↔i∈ids/\(asc x.C i).isSome=true:=fun i=>(hd.map _).mem_iff.trans (goneL_key x.C ids i);have hds:∀ g∈done,(asc x.C g.1).isSome=true:=fun g hg=>((hdk g.1).1 (List.mem_map.2 ⟨g,hg,rfl⟩)).2;obtain ⟨l1,l2,l3⟩:=delAll_len done x.C h.keys hdn hds h.isP;have hkeys:=delAll_nodup done x.C h.keys;have hsub:=delAll_sub done x.C h.keys
 have hasc:∀ i,asc (delAll x.C done) i=if i∈ids then none else asc x.C i:=fun i=>by
  by_cases hi:i∈done.map (·.1)
  · rw [delAll_in done x.C h.keys i hi,if_pos ((hdk i).1 hi).1]
  rw [delAll_asc done x.C h.keys i (fun k hk e=>hi (List.mem_map.2 ⟨k,hk,e⟩))];by_cases hj:i∈ids
  · rw [if_pos hj];cases hx:asc x.C i with
    | none=>rfl
    | some pl=>exact absurd ((hdk i).2 ⟨hj,by rw [hx];rfl⟩) hi
  rw [if_neg hj]
 have hw:=h.waits;have hlen:(goneL x.C ids).length=done.length:=hd.length_eq.symm
 have hhas:∀ i,(asc (delAll x.C done) i).isSome=(!decide (i∈ids)&&(asc x.C i).isSome):=fun i=>by
  rw [hasc];by_cases hj:i∈ids<;>simp [hj]
 have hpl:(Go.Proofs.YteabgcollokgjaaGreatDoor.pends (delAll x.C done)).length<=(delAll x.C done).length:=by unfold Go.Proofs.YteabgcollokgjaaGreatDoor.pends;rw [zF];exact zG _ _
 have hfew:=h.few;cases ha with
 | none hno=>
  refine ⟨{
   live:=h.live
   up:=h.up
   name:=h.name
   few:=by simp only [rmS];omega
   ids:=fun c hc=>h.ids c (hsub c hc)
   offs:=fun i o hc=>h.offs i o (hsub _ hc)
   pends:=fun i d bs hc=>h.pends i d bs (hsub _ hc)
   whole:=h.whole
   own:=fun i d bs hc=>h.own i d bs (hsub _ hc)
   ops:=h.ops
   files:=h.files
   ids8:=fun c hc=>h.ids8 c (hsub c hc)
   wait0:=by simp only [rmS];omega
   wait1:=by simp only [rmS];omega
   keys:=hkeys
   f0:=h.f0
   nv:=h.nv
   ns1:=h.ns1
   ns2:=h.ns2
   ns3:=h.ns3
   no:=fun hF=>⟨(h.no hF).1,fun i o hc=>(h.no hF).2 i o (hsub _ hc)⟩
   file:=fun f hF=>by
    obtain ⟨k1,D,k2,k3,k4⟩:=h.file f hF;exact ⟨k1,D,k2,k3,fun i o hc=>k4 i o (hsub _ hc)⟩
   len:=h.len
   waits:=by simp only [rmS];omega
   pA:=fun i d bs hc=>h.pA i d bs (hsub _ hc)
   size:=by have:=h.size;simp only [rmS];omega
   frames:=by
    have h1:=h.frames;have h2:=frames_del done x.C;simp only [rmS];omega },{
   val:=fun i=>by
    unfold valC;simp only [rmS];rw [hasc];by_cases hj:i∈ids
    · rw [if_pos hj,if_pos hj];rfl
    rw [if_neg hj,if_neg hj]
   has:=hhas
   nm:=rfl
   p:=rfl
   ps:=rfl
   len:=zH _
   cnt:=by simp only [rmS];omega
   bytes:=by simp only [rmS];rw [sizeN_perm hd]
   wt:=by simp only [rmS];have:=pendN_nn x.C done;omega
   now:=fun m _ _=>rfl }⟩
 | ren n1 n2 r ys mv f hany hys hsrt hst hn1 hn2 e1 e2 hmv hfl hfc hfT=>exact ren_cl h hd rfl hany hys hn1 hmv hfl hfc hfT
 | del n r hyes hcn e1 e2 hgo=>
  obtain ⟨f,hF⟩:=anyAt_file h hyes;obtain ⟨q1,q2⟩:=h.reqDel n ⟨f,hF⟩;obtain ⟨s1,s2⟩:=sync_ok (s:={ x.s with ops:=x.s.ops++[delOp x.nm] }) h.up h.f0;rw [q2,s2,now_add];have hnow:∀ m,applyF x.s.now (delOp x.nm) m=if fileN x.nm=m then none else x.s.now m:=fun m=>rfl
  have hnoat:∀ i o,(i,Pl.at o) ∉ delAll x.C done:=fun i o hc=>by
   have hm:=hsub _ hc;have hst:=hgo _ (List.Perm.refl _);have hy:=durs_of hm
   have hb:(!((asc (goneL x.C ids) i).getD false))=false:=by
    cases hv:(!((asc (goneL x.C ids) i).getD false)) with
    | false=>rfl
    | true=>
     have:(i,o)∈stays (goneL x.C ids) (durs x.C):=List.mem_filter.2 ⟨hy,hv⟩;rw [hst] at this;cases this
   have hk:i∈(goneL x.C ids).map (·.1):=by
    cases hv:asc (goneL x.C ids) i with
    | none=>rw [hv] at hb;cases hb
    | some v=>exact asc_key.1 (by rw [hv];rfl)
   have:=delAll_in done x.C h.keys i ((hd.map _).mem_iff.2 hk);rw [asc_mem hkeys hc] at this;cases this
  refine ⟨{
   live:=h.live
   up:=rfl
   name:=h.name
   few:=by simp only [rmS];omega
   ids:=fun c hc=>h.ids c (hsub c hc)
   offs:=fun i o hc=>absurd hc (hnoat i o)
   pends:=fun i d bs hc=>h.pends i d bs (hsub _ hc)
   whole:=fun f hf=>by cases hf
   own:=fun i d bs hc=>h.own i d bs (hsub _ hc)
   ops:=by simp [rmS]
   files:=fun k hk=>by
    obtain ⟨L,k1,k2,rfl⟩:=hk;refine zI (len_le_sub L ns k1 (fun a ha=>?_)) h.ns2;have:=(k2 a).1 ha;simp only [rmS,St.now,List.foldl_nil] at this;rw [show List.foldl applyF x.s.K x.s.ops=x.s.now from rfl,hnow] at this;by_cases ea:fileN x.nm=a
    · rw [<- ea];exact h.ns1
    rw [if_neg ea] at this;exact h.ns3 a this
   ids8:=fun c hc=>h.ids8 c (hsub c hc)
   wait0:=by simp only [rmS];omega
   wait1:=by simp only [rmS];omega
   keys:=hkeys
   f0:=rfl
   nv:=h.nv
   ns1:=h.ns1
   ns2:=h.ns2
   ns3:=fun a this=>by
    simp only [rmS,St.now,List.foldl_nil] at this;rw [show List.foldl applyF x.s.K x.s.ops=x.s.now from rfl,hnow] at this;by_cases ea:fileN x.nm=a
    · rw [<- ea];exact h.ns1
    rw [if_neg ea] at this;exact h.ns3 a this
   no:=fun _=>⟨by simp only [rmS,St.now,List.foldl_nil];rw [show List.foldl applyF x.s.K x.s.ops=x.s.now from rfl,hnow,if_pos rfl],hnoat⟩
   file:=fun f hf=>by cases hf
   len:=by simp [rmS,flen]
   waits:=by simp only [rmS];omega
   pA:=fun i d bs hc=>h.pA i d bs (hsub _ hc)
   size:=by have:=h.size;simp only [rmS];omega
   frames:=by
    simp only [rmS];rw [durs_nil hnoat];simp [entSum] },{
   val:=fun i=>by
    unfold valC;simp only [rmS];rw [hasc];by_cases hj:i∈ids
    · rw [if_pos hj,if_pos hj];rfl
    rw [if_neg hj,if_neg hj];cases hx:asc x.C i with
    | none=>rfl
    | some pl=>
     cases pl with
     | pend d bs=>rfl
     | «at» o=>exact absurd (mem_of_asc (by rw [hasc,if_neg hj];exact hx)) (hnoat i o)
   has:=hhas
   nm:=rfl
   p:=rfl
   ps:=rfl
   len:=by simp [rmS,flen]
   cnt:=by simp only [rmS];omega
   bytes:=by simp only [rmS];rw [sizeN_perm hd]
   wt:=by simp only [rmS];have:=pendN_nn x.C done;omega
   now:=fun m hm _=>by
    simp only [rmS,St.now,List.foldl_nil];rw [show List.foldl applyF x.s.K x.s.ops=x.s.now from rfl,hnow,if_neg (fun e=>hm e.symm)] }⟩
theorem rem_cl {ns:List ByteArray} {x:SR} {b:Nat} {w w':World} {ids:List ID} {l:List Ob} {e:Ending} (h:Cl ns x) (hp:RemPost b x ids l w e w'):
 e= .returned (.tuple #[.int .i64 ((goneL x.C ids).length:Int),.int .i64 0])/\∃ x',Cl ns x'/\Gone x ids x'/\SW b w (x'.obs l) w':=by
 rcases hp with ⟨E,x1,hE,_,hf,_⟩ | ⟨x1,done,he,ha,hd,hs⟩
 · exfalso
   cases hf with
   | req n r E hany hcn e1 e2=>
    have hF:=anyAt_file h hany;obtain ⟨q1,q2⟩:=h.reqDel n hF;exact e2 (e1.trans q1)
   | sync n r E hany hcn e0 e1 e2=>
    have hF:=anyAt_file h hany;obtain ⟨q1,q2⟩:=h.reqDel n hF;rw [q2,(sync_ok (s:={ x.s with ops:=x.s.ops++[delOp x.nm] }) h.up h.f0).1] at e1;exact e2 e1
   | rreq n1 n2 r ys E hany hys hsrt hn1 hn2 e1 e2=>
    obtain ⟨D,hDr,hb⟩:=h.renew_len hany hys;rw [hDr] at e1;exact e2 (e1.trans (rq_ok h.up h.f0 h.nv (h.cnt hn1) hb).1)
   | rsync n1 n2 r ys E hany hys hsrt hn1 hn2 e0 e1 e2=>
    obtain ⟨D,hDr,hb⟩:=h.renew_len hany hys;rw [hDr,(rq_ok h.up h.f0 h.nv (h.cnt hn1) hb).2,(sync_ok (s:={ x.s with ops:=x.s.ops++[crOp x.nm (rfold D [] (stays (goneL x.C ids) ys)).2]++[rnOp x.nm] }) h.up h.f0).1] at e1;exact e2 e1
 obtain ⟨a1,a2⟩:=gone_cl h ha hd;exact ⟨he,_,a1,a2,hs⟩
section
variable {b:Nat} {w0 w w':World} {l l':List Ob}
theorem SW.then (h:SW b w0 l w) (k:SW b w l' w'):SW b w0 l' w':=⟨k.1,h.2.trans k.2⟩
theorem SW.behind {x:SR} {o:Ob} (h:SW b w0 (o::x.obs l) w):SW b w0 (x.obs (o::l)) w:=
 SW.front (pre:=[o,devOb x.p x.r x.s,cellOb x.ps 131 x.cells,chOb x.cm x.C,flOb x.fm x.F]) (t:=l) h [1,2,3,4,0] (n:=5) rfl (by decide)
end
section
variable {ns:List ByteArray} {b:Nat} {w0 w:World} {x:SR} {l:List Ob}
def PutNL (ns:List ByteArray) (b:Nat) (w0:World) (x:SR) (bs:List UInt8) (l:List Ob) (e:Ending) (w':World):Prop:=
 e= .returned (.tuple #[.agg #[.int .u64 (fpOf bs).1,.int .i64 (fpOf bs).2],.int .i64 0])/\∃ d,SW b w0 ((putS x (fpOf bs) d bs).obs l) w'/\Cl ns (putS x (fpOf bs) d bs)
theorem PutN_L (h:SW b w0 (x.obs l) w) (hc:Cl ns x) (A:Option Addr) (c:Nat) (bs:List UInt8) (hs:RS w A bs) (h1:1<=bs.length) (h2:bs.length<=8192) (ha:asc x.C (fpOf bs)=none) (hl:x.C.length<4096):
 Calls Tryz.prog 23 #[vPtr x.ps,.slice A bs.length c] w (PutNL ns b w0 x bs l):=by
 have hz:=sizeC_le x.C hc.ids8;have hz2:=hc.size;have hw:=hc.waits;have hp:(Go.Proofs.YteabgcollokgjaaGreatDoor.pends x.C).length<=x.C.length:=by unfold Go.Proofs.YteabgcollokgjaaGreatDoor.pends;rw [zF];exact zG _ _
 refine (Put_new h.1 hc.toWF A c bs hs h1 h2 ha hl hc.wait0 hc.wait1 (by omega) (by omega)).mono ?_;rintro e w' ⟨rfl,d,hs',_,hb⟩;have hsw:SW b w0 ((putS x (fpOf bs) d bs).obs l) w':=⟨hs',h.2.trans hb⟩;have hr:=hs'.spend (x:=putS x (fpOf bs) d bs) (id:=fpOf bs) (d:=d) (bs:=bs) (mem_of_asc (by simp only [putS];rw [asc_setL];simp));exact ⟨rfl,d,hsw,put_cl hc (rb_some hr.1 h1) h1 h2 ha hl⟩
theorem PutS_L (h:SW b w0 (x.obs l) w) (hc:Cl ns x) (A:Option Addr) (c:Nat) (bs:List UInt8) (hs:RS w A bs) (h1:1<=bs.length) (h2:bs.length<=8192) (hv:valC x (fpOf bs)=some bs):
 Calls Tryz.prog 23 #[vPtr x.ps,.slice A bs.length c] w (fun e w'=>e= .returned (.tuple #[.agg #[.int .u64 (fpOf bs).1,.int .i64 (fpOf bs).2],.int .i64 0])/\SW b w0 (x.obs l) w'):=by
 unfold valC at hv;cases ha:asc x.C (fpOf bs) with
 | none=>rw [ha] at hv;cases hv
 | some pl=>
  rw [ha] at hv;have:=Put_there h.1 hc.toWF A c bs hs h1 h2 pl ha bs hv;rw [if_pos rfl,if_pos rfl] at this;refine this.mono ?_;rintro e w' ⟨rfl,hb⟩;exact ⟨rfl,h.on hb⟩
def FlushL (ns:List ByteArray) (b:Nat) (w0:World) (x:SR) (l:List Ob) (e:Ending) (w':World):Prop:=
 e= .returned (.int .i64 0)/\∃ x',SW b w0 (x'.obs l) w'/\Cl ns x'/\Flushed x x'
theorem Flush_L (h:SW b w0 (x.obs l) w) (hc:Cl ns x) (hp2:(pends x.C).length<=49) (hsum:flen x.F+frSum (pends x.C)<=1048576):Calls Tryz.prog 35 #[vPtr x.ps] w (FlushL ns b w0 x l):=by
 have hw:=hc.waits;by_cases hp:pends x.C=[]
 · have h0:x.wait=0:=by rw [hw,hp];rfl
   refine (Flush_idle h.1 hc.live hc.up h0).mono ?_;rintro e w' ⟨rfl,rfl⟩;refine ⟨rfl,x,h,hc,⟨fun _=>rfl,fun _=>rfl,fun c hcc=>?_,h0,rfl,rfl,rfl,rfl,by rw [hp];simp [frSum],fun _ _=>rfl,fun h=>h⟩⟩;obtain ⟨i,pl⟩:=c;cases pl with
   | «at» o=>exact ⟨o,rfl⟩
   | pend d bs=>
    have:=pends_of hcc (hc.pA i d bs hcc).1;rw [hp] at this;cases this
 have h0:x.wait≠0:=by
  have:=List.length_pos_iff.2 hp;omega
 refine (Flush_any h.1 hc.toWH h0 hp hp2 hsum).mono ?_;rintro e w' ⟨q,k1,k2,k3,k4⟩;obtain ⟨he,x',a1,a2,a3⟩:=flush_cl hc k1 hp hsum k3 k4;exact ⟨he,x',h.then a3,a1,a2⟩
def RemL (ns:List ByteArray) (b:Nat) (w0:World) (x:SR) (ids:List ID) (l:List Ob) (e:Ending) (w':World):Prop:=
 e= .returned (.tuple #[.int .i64 ((goneL x.C ids).length:Int),.int .i64 0])/\∃ x',SW b w0 (x'.obs l) w'/\Cl ns x'/\Gone x ids x'
theorem Cl.ren {ns:List ByteArray} {x:SR} (hc:Cl ns x) {G:List (ID×Bool)} (ha:anyAt x.C G=true):readE x.s (fileN x.nm)=0/\(∀ y∈durs x.C,(y.2:Int)+28+y.1.2<=(readB x.s (fileN x.nm)).length)/\entSum (durs x.C)<=1048576:=by
 obtain ⟨f0,hF⟩:=anyAt_file hc ha;obtain ⟨hT0,D0,hD1,hD2,hD3⟩:=hc.file f0 hF;obtain ⟨hR1,hR2⟩:=readE_ok hc.up (nameB_file hc.nv) hD1;refine ⟨hR1,fun y hy=>?_,zI hc.frames hc.len⟩;have hm:=durs_mem hy;have h0:0<=y.1.2:=by have:=(hc.ids8 _ hm).1;simp only at this;omega
 have:=(cutOk_len (hD3 _ _ hm)).2 h0;rw [hR2];omega
theorem Rem_L (h:SW b w0 (x.obs l) w) (hc:Cl ns x) (A:Option Addr) (c:Nat) (ids:List ID) (hA:riOb A ids∈l) (hok:∀ i∈ids,okID i) (hl:ids.length<=100000):Calls Tryz.prog 25 #[vPtr x.ps,.slice A ids.length c] w (RemL ns b w0 x ids l):=by
 have hz:=sizeC_le x.C hc.ids8;have hz2:=hc.size;have hfew:=hc.few;refine (Remove_any h.1 hc.toWH A c ids hA hok hl (fun f hf=>(hc.file f hf).1) (fun ha=>hc.ren ha) (fun ha=>anyAt_file hc ha) (by omega) (by omega)).mono ?_;intro e w' hp;obtain ⟨he,x',a1,a2,a3⟩:=rem_cl hc hp;exact ⟨he,x',h.then a3,a1,a2⟩
end
def OpenL (ns:List ByteArray) (b p:Nat) (nm:ByteArray) (w0:World) (l:List Ob) (e:Ending) (w':World):Prop:=
 ∃ x,e= .returned (.tuple #[vPtr x.ps,.int .i64 0])/\SW b w0 (x.obs l) w'/\Cl ns x/\x.C=[]/\x.F=none/\x.nm=nm/\x.p=p/\x.wait=0/\x.bytes=0
theorem Open_L {ns:List ByteArray} {b:Nat} {w0 w:World} {l:List Ob} {p:Nat} {r:Rp} {s:St} (h:SW b w0 (devOb p r s::l) w) (nm:ByteArray) (hn:nameV nm=true) (hd:s.dn=false) (hf:s.f=0) (he:∀ m,s.now m=none) (ho:s.ops.length<=900000) (h1:fileN nm∈ns) (h2:ns.length<=200):
 Calls Tryz.prog 20 #[vPtr p,.string nm] w (OpenL ns b p nm w0 l):=by
 refine (Open_empty h.1 nm hn hd he).mono ?_;rintro e w' ⟨H,hH,rfl,hs⟩;exact ⟨openedS p r s nm H,rfl,h.then hs,opened_cl hn hd hf he ho h1 h2,rfl,rfl,rfl,rfl,rfl,rfl⟩
theorem SW.newIds1 {b:Nat} {w0 w:World} {l:List Ob} (h:SW b w0 l w) (i:ID):SW b w0 (riOb (some ⟨w.heap.size,0,none⟩) [i]::l) (w.alloc (.cells #[.int .u64 i.1,.int .i64 i.2] 31)):=by
 have hlt:w.heap.size<(w.alloc (.cells #[.int .u64 i.1,.int .i64 i.2] 31)).heap.size:=by simp
 refine h.addN ((Below.refl _ _).alloc (zH _) _) ⟨(fun e=>by cases e),fun ad e=>?_⟩ (fun i hi=>hi.elim) (fun k hk=>?_)
 · injection e with e;subst e;refine ⟨_,rfl,⟨_,IsB.new _ _ _,by simp,fun k hk=>?_⟩,hlt⟩;have:k=0:=by simp at hk;omega
   subst this;exact ⟨rfl,rfl⟩
 have hk':(some ⟨w.heap.size,0,none⟩:Option Addr)=some ⟨k,0,none⟩:=hk;injection hk' with hk';injection hk' with hk';subst hk';exact ⟨zH _,hlt⟩
def tbytes (L:List Int) (n:Nat) (k:Int):Nat->List UInt8
 | 0=>[]
 | c+1=>tbytes L n k c++[UInt8.ofNat (tnext L (n+c) k).toNat]
theorem tbytes_len (L:List Int) (n:Nat) (k:Int):∀ c,(tbytes L n k c).length=c
 | 0=>rfl
 | c+1=>by rw [tbytes,List.length_append,tbytes_len L n k c];rfl
theorem sb_const (w:World) (g:Nat) (hg:g=w.heap.size) (bs:List UInt8) (fr:Nat×Nat):SB (w.alloc (.cells (bs.map encU).toArray 5 fr)) (some ⟨g,0,none⟩) bs:=by
 subst hg;refine ⟨(fun e=>by cases e),fun ad e j u hu=>?_⟩;injection e with e;subst e;rw [lit_add,Nat.zero_add];have:(w.alloc (.cells (bs.map encU).toArray 5 fr)).heap[w.heap.size]? =some (.cells (bs.map encU).toArray 5 fr):=heap_alloc_new w _;rw [cell_of_row _ _ j _ _ _ this,List.getElem?_toArray];exact hu
theorem mk_slice (w:World) (n:Nat) (hn:n<=100000):∃ cs:Array Value,n<=cs.size/\(Instr.makeSlice 34 (.int .i64 0) (.int .i64 n)).run Tryz.prog w= .ok (.slice (some ⟨w.heap.size,0,none⟩) 0 n) (w.alloc (.cells cs 5)):=by
 obtain ⟨i0,hi,hz0,hz1,hz2⟩:=info_parts info5;have:=run_makeSlice (P:=Tryz.prog) w 34 5 i0 _ Tryz.underlying34 hi hz0 .i64 .i64 0 n (by omega) (by omega) (by rw [hz1];omega) (by rw [hz2];omega) (by omega);simp only [Int.toNat_zero,Int.toNat_natCast] at this;exact ⟨_,by rw [size_madeCells,hz1];omega,this⟩
section
variable {b:Nat} {w0 w w':World} {l:List Ob} {g:Nat} {A:Option Addr} {c:Nat} {L:List Int} {n:Nat}
theorem SW.newBuT {d:BD} {bs:List UInt8} (h:SW b w0 l w) (hb:Below w.heap.size w w') (hr:RB w' d bs) (hn:∀ g,blk d=some g->w.heap.size<=g):SW b w0 (bufOb d bs::l) w':=by
 have:=h.1.add (o':=bufOb d bs) hb hr (fun i hi=>⟨hn i hi,hr.lt hi⟩) (fun i hi=>hi.elim) (fun i hi=>hi.elim);exact ⟨this.1,h.2.trans this.2⟩
theorem SW.appB {d d':BD} {bs bs':List UInt8} (h:SW b w0 l w) (k:Nat) (hk:l[k]? =some (bufOb d bs)) (ha:AppB w d bs' d' w'):SW b w0 (l.set k (bufOb d' bs')) w':=⟨(h.1.app k hk ha).1,h.2.trans (h.1.app k hk ha).2⟩
theorem Bytes_x (h:SW b w0 l w) (kk:Nat) (hk:l[kk]? =some (tpOb g A c L n)) (m:Nat) (k:Int) (hm:m<=10000) (hk1:1<k) (hk2:k<=256) (hn:n+m<=1000000):
 Calls Tryz.prog 54 #[vPtr g,.int .i64 m,.int .i64 k] w (fun e w'=>∃ d,e= .returned (.slice d.A d.len d.cap)/\SW b w0 (bufOb d (tbytes L n k m)::l.set kk (tpOb g A c L (n+m))) w'):=by
 obtain ⟨cs,hcs,hmk⟩:=mk_slice w m (by omega);have hmx:max (m:Int) 0=m:=by omega
 have hkl:kk<l.length:=(List.getElem?_eq_some_iff.1 hk).1;have S0:Hid (SW b w0 (bufOb ⟨some ⟨w.heap.size,0,none⟩,0,m⟩ []::l) (w.alloc (.cells cs 5))):=h.newBuT ((Below.refl _ _).alloc (zH _) _) (new_bytes w cs _ _ _ _ rfl rfl (Nat.zero_le _) hcs (by simp)) (fun g hg=>by simp [blk] at hg;omega);have HK:=hid hk;clear h hk;go_enter Tryz.func54,Tryz.ntmps54;go_wp2_with fail
 go_loopw [7,8] (fun v i wr=>∃ (j:Nat) (d:BD),j<=m/\i= .int .i64 j/\v= .slice d.A d.len d.cap/\SW b w0 (bufOb d (tbytes L n k j)::l.set kk (tpOb g A c L (n+j))) wr) (fun _ i _=>m-(intOf i).toNat)
 case atStart=>
  refine ⟨0,⟨some ⟨w.heap.size,0,none⟩,0,m⟩,by omega,rfl,rfl,?_⟩;have e:l.set kk (tpOb g A c L (n+0))=l:=set_self l kk _ HK.out;rw [e];exact S0.out
 obtain ⟨j,d,hj,rfl,rfl,hs⟩:=hrel;have S1:=hid hs;clear hs hmk S0;have HN:=hid (Next_x S1.out (kk+1) (by rw [List.getElem?_cons_succ,List.getElem?_set_self hkl]) k (by omega) (by omega));simp only [List.set_cons_succ,List.set_set] at HN;by_cases hlt:j<m
 · go_wp2_with (first
    | (go_at_call 33;(with_reducible refine HN.out.mono ?_);refine halt_ ?_)
    | (at_builtin;refine halt_ ?_))
   rintro e w1 ⟨rfl,s2⟩;have S2:=hid s2;clear s2 HN;obtain ⟨hy0,hy1⟩:=tnext_in L (n+j) k;have hy1:=hy1 hk1;have HT:Hid (tbytes L n k (j+1)=tbytes L n k j++[UInt8.ofNat (tnext L (n+j) k).toNat]):=rfl;have HL:=hid (tbytes_len L n k j);generalize tbytes L n k j=bs at S1 S2 HL HT;generalize tnext L (n+j) k=y at hy0 hy1 HT |-; have hyw:IntKind.u8.wrap y=y:=IntWalk.u8_in y (by omega);obtain ⟨yb,hyb⟩:∃ yb:UInt8,((yb.toNat:Nat):Int)=y:=⟨UInt8.ofNat y.toNat,by rw [UInt8.toNat_ofNat'];omega⟩;subst hyb;have e1:UInt8.ofNat (((yb.toNat:Nat):Int)).toNat=yb:=by simp
   rw [e1] at HT;clear S1 e1;go_wp2_with (at_builtin;refine halt_ ?_)
   have hrb:RB w1 d bs:=S2.out.get 0 (o:=bufOb d bs) rfl;have SB1:Hid (SB (w1.alloc (.cells #[.int .u8 ((yb.toNat:Nat):Int)] 5)) (some ⟨w1.heap.size,0,none⟩) [yb]):=sb_const w1 _ rfl [yb] (0,0);refine wpList_append_bytes rfl _ _ rfl d bs rfl (hrb.on (bel1 _ _)) (some ⟨w1.heap.size,0,none⟩) 1 [yb] rfl SB1.out (by rw [HL.out];simp only [zD,List.length_nil];omega) ?_;intro d2 w2 hl2 happ
   have S3:Hid (SW b w0 (bufOb d2 (tbytes L n k (j+1))::l.set kk (tpOb g A c L (n+(j+1)))) w2):=by
    rw [Hid,HT.out];have:=(S2.out.alloc (.cells #[.int .u8 ((yb.toNat:Nat):Int)] 5)).appB 0 rfl happ;exact this
   clear happ hl2 hyw hy0 hy1 hrb SB1 S2;go_wp2_with fail
   go_roundw
   case rel=>exact ⟨j+1,d2,by omega,by go_num,rfl,S3.out⟩
   simp [intOf];omega
 obtain rfl:j=m:=by omega
 go_wp2_with fail
 go_ret;exact ⟨d,rfl,S1.out⟩
def textN (L:List Int) (n:Nat):Nat:=1+(tnext L n 4).toNat
def textB (L:List Int) (n:Nat):List UInt8:=tbytes L (n+1) 2 (textN L n)
theorem textN_in (L:List Int) (n:Nat):1<=textN L n/\textN L n<=4:=by
 obtain ⟨h1,h2⟩:=tnext_in L n 4;have:=h2 (by omega);unfold textN;omega
abbrev TextP (b:Nat) (w0:World) (l:List Ob) (kk g:Nat) (A:Option Addr) (c:Nat) (L:List Int) (n:Nat) (e:Ending) (w':World):Prop:=
 ∃ d,e= .returned (.slice d.A d.len d.cap)/\SW b w0 (bufOb d (textB L n)::l.set kk (tpOb g A c L (n+1+textN L n))) w'
theorem text74_x (h:SW b w0 l w) (kk:Nat) (hk:l[kk]? =some (tpOb g A c L n)) (hn:n<=999000):Calls Tryz.prog 74 #[vPtr g] w (TextP b w0 l kk g A c L n):=by
 have hkl:kk<l.length:=(List.getElem?_eq_some_iff.1 hk).1;have HN:=hid (Next_x h kk hk 4 (by omega) (by omega));have HT:=hid (textN_in L n);obtain ⟨q,hq⟩:∃ q:Nat,tnext L n 4=(q:Int):=⟨(tnext L n 4).toNat,by have:=(tnext_in L n 4).1;omega⟩;have e1:textN L n=1+q:=by unfold textN;rw [hq];simp
 have hq4:q<=3:=by have:=HT.out.2;omega
 rw [hq] at HN;clear h;go_enter Tryz.func74,Tryz.ntmps74;go_wp2_with (go_at_call 33;(with_reducible refine HN.out.mono ?_);refine halt_ ?_)
 rintro e w1 ⟨rfl,s1⟩;have HB:=hid (Bytes_x s1 kk (List.getElem?_set_self hkl) (1+q) 2 (by omega) (by omega) (by omega) (by omega));rw [<- e1,List.set_set] at HB;have e2:Hid ((1:Int)+(q:Int)=((textN L n:Nat):Int)):=by rw [Hid,e1];omega
 clear e1 hq;clear s1 HN;go_wp2_with (go_at_call 54;refine halt_ ?_)
 rw [e2.out];refine HB.out.mono ?_;rintro e w2 ⟨d,rfl,s2⟩;have S2:=hid s2;clear s2 HB;go_wp2_with fail
 go_ret;exact ⟨d,rfl,S2.out⟩
end
end
end Go.Proofs.YteabgcollokgjaaGreatDoor
