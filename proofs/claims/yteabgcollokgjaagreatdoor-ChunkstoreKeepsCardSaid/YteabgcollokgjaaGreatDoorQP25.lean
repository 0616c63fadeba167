/- Q -/
import Derived.Test.YteabgcollokgjaaGreatDoorQP24
set_option linter.unusedSimpArgs false
set_option linter.unusedVariables false
set_option maxRecDepth 100000
set_option maxHeartbeats 32000000
open List renaming mem_cons_of_mem → zA,mem_cons_self → zB,map_cons → zC,length_cons → zD,filter_cons → zE,length_filter_le → zF
namespace Go.Proofs.YteabgcollokgjaaGreatDoor
section
open Go.RowKit Go.MapKept Go.ChangeMaps Go.Shelf Go.Sort
theorem goneL_key (C:Chs) (ids:List ID) (i:ID):i∈(goneL C ids).map (·.1)↔i∈ids/\(asc C i).isSome=true:=by
 have:∀ (ids:List ID) (G:List (ID×Bool)),i∈(ids.foldl (gstep C) G).map (·.1)↔i∈G.map (·.1)∨(i∈ids/\(asc C i).isSome=true):=by
  intro ids;induction ids with
  | nil=>intro G;simp
  | cons j ids ih=>
   intro G;rw [List.foldl_cons,ih];unfold gstep;by_cases hj:(asc C j).isSome=true
   · rw [if_pos hj,setL_keys];constructor
     · rintro ((rfl | h) | h)
       · exact .inr ⟨zB .., hj⟩
       · exact .inl h
       exact .inr ⟨zA _ h.1,h.2⟩
     rintro (h | ⟨h,h2⟩)
     · exact .inl (.inr h)
     rcases List.mem_cons.1 h with rfl | h
     · exact .inl (.inl rfl)
     exact .inr ⟨h,h2⟩
   rw [if_neg hj];constructor
   · rintro (h | h)
     · exact .inl h
     exact .inr ⟨zA _ h.1,h.2⟩
   rintro (h | ⟨h,h2⟩)
   · exact .inl h
   rcases List.mem_cons.1 h with rfl | h
   · exact absurd h2 hj
   exact .inr ⟨h,h2⟩
 have h:=this ids [];simpa [goneL] using h
theorem goneL_nodup (C:Chs) (ids:List ID):((goneL C ids).map (·.1)).Nodup:=by
 have:∀ (ids:List ID) (G:List (ID×Bool)),(G.map (·.1)).Nodup->((ids.foldl (gstep C) G).map (·.1)).Nodup:=by
  intro ids;induction ids with
  | nil=>intro G h;exact h
  | cons j ids ih=>
   intro G h;refine ih _ ?_;unfold gstep;split
   · exact setL_nodup h _ _
   exact h
 exact this ids [] List.nodup_nil
theorem delC_sub {C:Chs} (hn:(C.map (·.1)).Nodup) (a:ID):∀ c∈delL C a,c∈C:=fun c hc=>by
 have h1:=asc_mem (delL_keys hn a) hc;rw [asc_delL hn] at h1;by_cases e:a=c.1
 · rw [if_pos e] at h1;cases h1
 rw [if_neg e] at h1;exact mem_of_asc h1
theorem delAll_nodup:∀ (done:List (ID×Bool)) (C:Chs),(C.map (·.1)).Nodup->((delAll C done).map (·.1)).Nodup:=by
 intro done;induction done with
 | nil=>intro C h;exact h
 | cons g done ih=>intro C h;exact ih _ (delL_keys h g.1)
theorem delAll_sub:∀ (done:List (ID×Bool)) (C:Chs),(C.map (·.1)).Nodup->∀ c∈delAll C done,c∈C:=by
 intro done;induction done with
 | nil=>intro C _ c hc;exact hc
 | cons g done ih=>intro C h c hc;exact delC_sub h g.1 c (ih _ (delL_keys h g.1) c hc)
theorem delAll_in:∀ (done:List (ID×Bool)) (C:Chs),(C.map (·.1)).Nodup->∀ i∈done.map (·.1),asc (delAll C done) i=none:=by
 intro done;induction done with
 | nil=>intro C _ i hi;cases hi
 | cons g done ih=>
  intro C hn i hi;show asc (delAll (delL C g.1) done) i=none;by_cases hd:i∈done.map (·.1)
  · exact ih _ (delL_keys hn g.1) i hd
  rw [zC] at hi;rcases List.mem_cons.1 hi with e | hi
  · rw [delAll_asc _ _ (delL_keys hn g.1) i (fun k hk e2=>hd (List.mem_map.2 ⟨k,hk,e2⟩)),asc_delL hn,if_pos e.symm]
  exact absurd hi hd
theorem delL_len {C:Chs} {a:ID} {pl:Pl} (h:asc C a=some pl):(delL C a).length+1=C.length/\sizeC (delL C a)=sizeC C-a.2/\((pends (delL C a)).length:Int)=(pends C).length-(if pl.A.isSome then 1 else 0):=by
 induction C with
 | nil=>cases h
 | cons c C ih=>
  unfold asc at h;unfold delL;by_cases e:c.1=a
  · rw [if_pos e] at h |-; injection h with h;subst h;subst e;refine ⟨rfl,by simp [sizeC];omega,?_⟩;unfold pends;rw [zE];by_cases hA:c.2.A.isSome=true
    · rw [if_pos hA];simp [hA]
    rw [if_neg hA];simp [hA]
  rw [if_neg e] at h |-; obtain ⟨i1,i2,i3⟩:=ih h;refine ⟨by simp only [zD];omega,?_,?_⟩
  · have k1:sizeC (c::delL C a)=c.1.2+sizeC (delL C a):=by simp [sizeC]
    have k2:sizeC (c::C)=c.1.2+sizeC C:=by simp [sizeC]
    omega
  unfold pends at i3 |-; rw [zE,zE];by_cases hA:c.2.A.isSome=true
  · simp only [if_pos hA,zC,zD];omega
  simp only [if_neg hA];exact i3
theorem delAll_len:∀ (done:List (ID×Bool)) (C:Chs),(C.map (·.1)).Nodup->(done.map (·.1)).Nodup->(∀ g∈done,(asc C g.1).isSome=true)->(∀ c∈C,c.2.isP=c.2.A.isSome)->
 sizeC (delAll C done)=sizeC C-sizeN done/\((pends (delAll C done)).length:Int)=(pends C).length-pendN C done/\(delAll C done).length+done.length=C.length:=by
 intro done;induction done with
 | nil=>intro C _ _ _ _;simp [delAll,sizeN,pendN]
 | cons g done ih=>
  intro C hn hd hs hp;rw [zC,List.nodup_cons] at hd;obtain ⟨pl,hpl⟩:=Option.isSome_iff_exists.1 (hs g (zB ..));have hne:∀ k∈done,k.1≠g.1:=fun k hk e=>hd.1 (List.mem_map.2 ⟨k,hk,e⟩)
  have hk:∀ k∈done,asc (delL C g.1) k.1=asc C k.1:=fun k hk=>by
   rw [asc_delL hn,if_neg (fun e=>hne k hk e.symm)]
  obtain ⟨a1,a2,a3⟩:=delL_len hpl;obtain ⟨b1,b2,b3⟩:=ih (delL C g.1) (delL_keys hn g.1) hd.2 (fun k hkk=>by rw [hk k hkk];exact hs k (zA _ hkk)) (fun c hc=>hp c (delC_sub hn g.1 c hc))
  have e1:pendN (delL C g.1) done=pendN C done:=by
   unfold pendN;congr 2
   refine List.filter_congr (fun k hkk=>?_);unfold pendB1;rw [hk k hkk]
  have e2:pendN C (g::done)=(if pl.A.isSome then 1 else 0)+pendN C done:=by
   have hpp:=hp _ (mem_of_asc hpl);simp only at hpp;unfold pendN;rw [zE]
   have:pendB1 C g=pl.A.isSome:=by
    unfold pendB1;rw [hpl, <- hpp];rfl
   rw [this];cases pl.A.isSome
   · simp
   simp;omega
  have e3:sizeN (g::done)=g.1.2+sizeN done:=by simp [sizeN]
  have e4:delAll C (g::done)=delAll (delL C g.1) done:=rfl;rw [e4,e2,e3];refine ⟨by omega,by omega,by simp only [zD];omega⟩
theorem pendN_nn (C:Chs) (done:List (ID×Bool)):0<=pendN C done:=Int.natCast_nonneg _
structure Gone (x:SR) (ids:List ID) (x':SR):Prop where
 val:∀ i,valC x' i=if i∈ids then none else valC x i
 has:∀ i,(asc x'.C i).isSome=(!decide (i∈ids)&&(asc x.C i).isSome)
 nm:x'.nm=x.nm
 p:x'.p=x.p
 ps:x'.ps=x.ps
 len:flen x'.F<=flen x.F
 cnt:x'.C.length+(goneL x.C ids).length=x.C.length
 bytes:x'.bytes=x.bytes-sizeN (goneL x.C ids)
 wt:x'.wait<=x.wait
 now:∀ m,m≠fileN x.nm->m≠freshN x.nm->x'.s.now m=x.s.now m
 lay:LayS x->LayS x'
 pend:∀ i,i ∉ ids->(i∈pends x'.C↔i∈pends x.C)
theorem goneT {C:Chs} {ids:List ID} {i:ID} (hi:i∈(goneL C ids).map (·.1)):asc (goneL C ids) i=some true:=by
 obtain ⟨v,hv⟩:=Option.isSome_iff_exists.1 (asc_key.2 hi);have h1:=(goneL_in C ids _ (mem_of_asc hv)).1;rw [hv];exact congrArg some h1
theorem Cl.isP {ns:List ByteArray} {x:SR} (h:Cl ns x):∀ c∈x.C,c.2.isP=c.2.A.isSome:=fun c hc=>by
 obtain ⟨i,pl⟩:=c;cases pl with
 | pend d bs=>simp [Pl.isP,Pl.A,(h.pA i d bs hc).1]
 | «at» o=>rfl
theorem Cl.reqDel {ns:List ByteArray} {x:SR} (h:Cl ns x) (n:Nat) (hF:∃ f,x.F=some f):reqE x.s n (delOp x.nm)=0/\reqS x.s n (delOp x.nm)={ x.s with ops:=x.s.ops++[delOp x.nm] }:=by
 refine req_ok ?_ h.f0;obtain ⟨f,hF⟩:=hF;obtain ⟨_,D,h1,_⟩:=h.file f hF;simp [gate,delOp,h.up,nameB_file h.nv,h1]
theorem anyAt_file {ns:List ByteArray} {x:SR} (h:Cl ns x) {G:List (ID×Bool)} (ha:anyAt x.C G=true):∃ f,x.F=some f:=by
 unfold anyAt at ha;obtain ⟨g,hg,h2⟩:=List.any_eq_true.1 ha;cases hF:x.F with
 | some f=>exact ⟨f,rfl⟩
 | none=>
  exfalso
  cases hg2:asc x.C g.1 with
  | none=>rw [hg2] at h2;cases h2
  | some pl=>
   rw [hg2] at h2;cases pl with
   | pend d bs=>cases h2
   | «at» o=>exact (h.no hF).2 _ _ (mem_of_asc hg2)
theorem durs_of {C:Chs} {i:ID} {o:Nat} (h:(i,Pl.at o)∈C):(i,o)∈durs C:=by
 induction C with
 | nil=>cases h
 | cons c C ih=>
  obtain ⟨j,pl⟩:=c;rcases List.mem_cons.1 h with e | h2
  · cases e
    unfold durs;exact zB ..
  cases pl with
  | pend d bs=>unfold durs;exact ih h2
  | «at» p=>unfold durs;exact zA _ (ih h2)
theorem rfold_lay (D:List UInt8):∀ (ys:List Ent) (p:Chs×List UInt8),(∀ y∈ys,fpOf (cutB D y.1 y.2)=y.1)->(ys.map (·.1)).Nodup->(∀ y∈ys,y.1 ∉ p.1.map (·.1))->
 ys.foldl (rstep D) p=(p.1++layC p.2.length (ys.map (fun y=>cutB D y.1 y.2)),p.2++layB p.2.length (ys.map (fun y=>cutB D y.1 y.2))):=by
 intro ys;induction ys with
 | nil=>intro p _ _ _;simp [layC,layB]
 | cons y ys ih=>
  intro p hid hn hp;have hi:=hid y (by simp)
  have e1:rstep D p y=(p.1++[(y.1,.at p.2.length)],p.2++headB y.1 1 p.2.length++cutB D y.1 y.2):=by
   unfold rstep;rw [setL_new (hp y (by simp)),Nat.zero_add]
  rw [List.foldl_cons,e1,ih _ (fun j hj=>hid j (by simp [hj])) (List.nodup_cons.1 hn).2 (fun j hj=>by
   rw [List.map_append,List.mem_append];rintro (h | h)
   · exact hp j (by simp [hj]) h
   have e:j.1=y.1:=by simpa using h
   exact (List.nodup_cons.1 hn).1 (List.mem_map.2 ⟨j,hj,e⟩))]
  rw [zC,layC,layB,hi];simp only [List.length_append,headB_len,List.append_assoc,List.singleton_append];have e:p.2.length+(28+(cutB D y.1 y.2).length)=p.2.length+28+(cutB D y.1 y.2).length:=by omega
  rw [e]
theorem asc_iff {L:Chs} (hL:(L.map (·.1)).Nodup) (i:ID) (p:Pl):(i,p)∈L↔asc L i=some p:=⟨fun hm=>asc_mem hL hm,fun h=>mem_of_asc h⟩
theorem delAll_iff (C:Chs) (hk:(C.map (·.1)).Nodup) (done:List (ID×Bool)) (i:ID) (p:Pl):(i,p)∈delAll C done↔i ∉ done.map (·.1)/\(i,p)∈C:=by
 rw [asc_iff (delAll_nodup done C hk),asc_iff hk];by_cases hi:i∈done.map (·.1)
 · rw [delAll_in done C hk i hi];simp [hi]
 rw [delAll_asc done C hk i (fun g hg e=>hi (List.mem_map.2 ⟨g,hg,e⟩))];simp [hi]
theorem pends_iff {C:Chs} {i:ID}:i∈pends C↔∃ pl:Pl,(i,pl)∈C/\pl.A.isSome=true:=by
 unfold pends;rw [List.mem_map];constructor
 · rintro ⟨c,hc,rfl⟩;obtain ⟨h1,h2⟩:=List.mem_filter.1 hc;exact ⟨c.2,h1,h2⟩
 rintro ⟨pl,h1,h2⟩;exact ⟨_,List.mem_filter.2 ⟨h1,h2⟩,rfl⟩
theorem pends_del {C:Chs} (hk:(C.map (·.1)).Nodup) (done:List (ID×Bool)) {i:ID} (hi:i ∉ done.map (·.1)):i∈pends (delAll C done)↔i∈pends C:=by
 simp only [pends_iff,delAll_iff C hk];simp only [hi,not_false_eq_true,true_and]
theorem del_lay {C:Chs} {D:List UInt8} (h:LayD D C) (hk:(C.map (·.1)).Nodup) {G done:List (ID×Bool)} (hd:done.Perm G) (hno:anyAt C G=false):LayD D (delAll C done):=by
 obtain ⟨cs,hD,hsz,hnd,hat⟩:=h;refine ⟨cs,hD,hsz,hnd,fun i o=>?_⟩;rw [delAll_iff C hk,hat];constructor
 · exact fun h=>h.2
 refine fun h=>⟨fun hi=>?_,h⟩;obtain ⟨g,hg,rfl⟩:=List.mem_map.1 hi;have h1:=asc_mem hk ((hat g.1 o).2 h)
 have:anyAt C G=true:=by
  unfold anyAt;rw [List.any_eq_true];exact ⟨g,hd.mem_iff.1 hg,by rw [h1];rfl⟩
 rw [hno] at this;cases this
theorem ren_lay {C:Chs} {D:List UInt8} (hk:(C.map (·.1)).Nodup) (hok:∀ i o,(i,Pl.at o)∈C->cutOk D i o=true/\1<=i.2/\i.2<=8192) {G done:List (ID×Bool)} (hd:done.Perm G) (hG:∀ i,i∈G.map (·.1)->asc G i=some true) {ys:List Ent} (hys:ys.Perm (durs C)) {mv:Chs} (hmv:mv.Perm (rfold D [] (stays G ys)).1):LayD (rfold D [] (stays G ys)).2 (delAll (updAll C mv) done):=by
 have hmem:∀ y∈stays G ys,(y.1,Pl.at y.2)∈C/\y.1 ∉ G.map (·.1):=fun y hy=>by
  obtain ⟨h1,h2⟩:=List.mem_filter.1 hy;refine ⟨durs_mem (hys.mem_iff.1 h1),fun hi=>?_⟩;rw [hG y.1 hi] at h2;simp at h2
 have hid:∀ y∈stays G ys,fpOf (cutB D y.1 y.2)=y.1:=fun y hy=>(cutOk_len (hok _ _ (hmem y hy).1).1).1
 have hdk:∀ {ys:List Ent},ys.Perm (durs C)->(ys.map (·.1)).Nodup:=fun hp=>by
  refine (hp.map (·.1)).nodup_iff.2 ?_
  have:∀ C:Chs,(C.map (·.1)).Nodup->((durs C).map (·.1)).Nodup:=by
   intro C;induction C with
   | nil=>intro _;exact List.nodup_nil
   | cons c C ih=>
    intro hn;obtain ⟨i,pl⟩:=c;have h2:=ih (List.nodup_cons.1 hn).2;cases pl with
    | pend d bs=>exact h2
    | «at» o=>
     rw [durs,zC,List.nodup_cons];refine ⟨fun hi=>?_,h2⟩;obtain ⟨y,hy,e⟩:=List.mem_map.1 hi;exact (List.nodup_cons.1 hn).1 (List.mem_map.2 ⟨_,durs_mem hy,e⟩)
  exact this C hk
 have hyn:((stays G ys).map (·.1)).Nodup:=(hdk hys).sublist ((List.filter_sublist).map _)
 have hr:rfold D [] (stays G ys)=(layC 0 ((stays G ys).map (fun y=>cutB D y.1 y.2)),layB 0 ((stays G ys).map (fun y=>cutB D y.1 y.2))):=by
  have:=rfold_lay D (stays G ys) ([],[]) hid hyn (by simp);simpa [rfold] using this
 have hmp:((stays G ys).map (fun y=>cutB D y.1 y.2)).map fpOf=(stays G ys).map (·.1):=by
  rw [List.map_map];exact List.map_congr_left (fun y hy=>hid y hy)
 rw [hr] at hmv |-; have hmn:(mv.map (·.1)).Nodup:=(hmv.map _).nodup_iff.2 (by rw [layC_keys,hmp];exact hyn);refine ⟨(stays G ys).map (fun y=>cutB D y.1 y.2),rfl,fun c hc=>?_,by rw [hmp];exact hyn,fun i o=>?_⟩
 · obtain ⟨y,hy,rfl⟩:=List.mem_map.1 hc;obtain ⟨h1,h2,h3⟩:=hok _ _ (hmem y hy).1;have h4:=congrArg (·.2) (hid y hy);simp only [fpOf] at h4;omega
 have hun:=updAll_nodup C mv hk;rw [delAll_iff _ hun,asc_iff hun,updAll_asc C mv hmn i]
 have hin:∀ j,j∈mv.map (·.1)↔j∈(stays G ys).map (·.1):=fun j=>by
  rw [(hmv.map (·.1)).mem_iff,layC_keys,hmp]
 have hl:(i,Pl.at o)∈layC 0 ((stays G ys).map (fun y=>cutB D y.1 y.2))↔asc mv i=some (.at o):=by
  rw [<- hmv.mem_iff];exact asc_iff hmn i _
 rw [hl];cases hm:asc mv i with
 | some pl=>
  simp only;constructor
  · exact fun h=>h.2
  refine fun h=>⟨fun hi=>?_,h⟩;obtain ⟨y,hy,e⟩:=List.mem_map.1 ((hin i).1 (asc_key.1 (by rw [hm];rfl)));rw [(hd.map (·.1)).mem_iff] at hi;exact (hmem y hy).2 (e ▸ hi)
 | none=>
  simp only;constructor
  · rintro ⟨h1,h2⟩;exfalso
    have hc:(i,Pl.at o)∈C:=mem_of_asc h2;have hy:(i,o)∈ys:=hys.mem_iff.2 (durs_of hc)
    have hs:(i,o)∈stays G ys:=List.mem_filter.2 ⟨hy,by
     cases hg:asc G i with
     | none=>rfl
     | some v=>
      have:i∈G.map (·.1):=asc_key.1 (by rw [hg];rfl);exact absurd ((hd.map (·.1)).mem_iff.2 this) h1⟩
    have h5:i∈mv.map (·.1):=(hin i).2 (List.mem_map.2 ⟨_,hs,rfl⟩);have h6:=asc_key.2 h5;rw [hm] at h6;cases h6
  intro h;cases h
theorem sizeN_perm {a b:List (ID×Bool)} (h:a.Perm b):sizeN a=sizeN b:=by
 induction h with
 | nil=>rfl
 | cons x _ ih=>simp only [sizeN,zC,List.sum_cons] at *; rw [ih]
 | swap x y l=>simp only [sizeN,zC,List.sum_cons];omega
 | trans _ _ ih1 ih2=>exact ih1.trans ih2
theorem frames_delL (a:ID) (C:Chs):entSum (durs (delL C a))<=entSum (durs C):=by
 induction C with
 | nil=>exact Nat.le_refl _
 | cons c C ih=>
  obtain ⟨i,pl⟩:=c;unfold delL;split
  · cases pl with
    | pend d bs=>exact Nat.le_refl _
    | «at» o=>
     have e4:entSum (durs ((i,Pl.at o)::C))=28+i.2.toNat+entSum (durs C):=by simp [entSum,durs]
     omega
  cases pl with
  | pend d bs=>exact ih
  | «at» o=>
   have e4:entSum (durs ((i,Pl.at o)::C))=28+i.2.toNat+entSum (durs C):=by simp [entSum,durs]
   have e5:entSum (durs ((i,Pl.at o)::delL C a))=28+i.2.toNat+entSum (durs (delL C a)):=by simp [entSum,durs]
   omega
theorem frames_del:∀ (done:List (ID×Bool)) (C:Chs),entSum (durs (delAll C done))<=entSum (durs C):=by
 intro done;induction done with
 | nil=>intro C;exact Nat.le_refl _
 | cons g done ih=>intro C;exact Nat.le_trans (ih (delL C g.1)) (frames_delL g.1 C)
theorem Cl.renew_len {ns:List ByteArray} {x:SR} (h:Cl ns x) {G:List (ID×Bool)} (hany:anyAt x.C G=true) {ys:List Ent} (hys:ys.Perm (durs x.C)):∃ D,readB x.s (fileN x.nm)=D/\(rfold D [] (stays G ys)).2.length<=1048576:=by
 obtain ⟨f0,hF⟩:=anyAt_file h hany;obtain ⟨hT0,D0,hD1,hD2,hD3⟩:=h.file f0 hF;obtain ⟨hR1,hR2⟩:=readE_ok h.up (nameB_file h.nv) hD1;refine ⟨D0,hR2,?_⟩
 have hYlen:∀ y∈stays G ys,0<=y.1.2/\(y.2:Int)+28+y.1.2<=D0.length:=fun y hy=>by
  have hm:=durs_mem (hys.mem_iff.1 (List.mem_filter.1 hy).1);have h0:0<=y.1.2:=by have:=(h.ids8 _ hm).1;simp only at this;omega
  have:=(cutOk_len (hD3 _ _ hm)).2 h0;exact ⟨h0,by omega⟩
 rw [rfold_len _ _ _ hYlen];have h1:entSum (stays G ys)<=entSum ys:=entSum_filter _ ys;rw [entSum_perm hys] at h1;have h2:=h.frames;have h3:=h.len;omega
theorem ren_cl {ns:List ByteArray} {x:SR} {ids:List ID} {done:List (ID×Bool)} {n1 n2:Nat} {r:Rp} {ys:List Ent} {mv:Chs} {f:FR} {D:List UInt8} (h:Cl ns x) (hd:done.Perm (goneL x.C ids)) (hDr:readB x.s (fileN x.nm)=D) (hany:anyAt x.C (goneL x.C ids)=true) (hys:ys.Perm (durs x.C)) (hn1:Cnt x.s.now n1)
 (hmv:mv.Perm (rfold D [] (stays (goneL x.C ids) ys)).1) (hfl:f.len=entSum (stays (goneL x.C ids) ys)) (hfc:f.clean=true) (hfT:f.T=[]):
 Cl ns (rmS { x with r:=r,s:=syncS (rqS x.s x.nm n1 n2 (rfold D [] (stays (goneL x.C ids) ys)).2),C:=updAll x.C mv,wait:=x.wait-pdN x.C mv,F:=some f } done)/\Gone x ids (rmS { x with r:=r,s:=syncS (rqS x.s x.nm n1 n2 (rfold D [] (stays (goneL x.C ids) ys)).2),C:=updAll x.C mv,wait:=x.wait-pdN x.C mv,F:=some f } done):=by
 obtain ⟨D',hDr',hbs⟩:=h.renew_len hany hys;obtain rfl:D=D':=hDr.symm.trans hDr';obtain ⟨f0,hF⟩:=anyAt_file h hany;obtain ⟨hT0,D0,hD1,hD2,hD3⟩:=h.file f0 hF;obtain ⟨hR1,hR2⟩:=readE_ok h.up (nameB_file h.nv) hD1;obtain rfl:D=D0:=hDr.symm.trans hR2;obtain ⟨q1,q2⟩:=rq_ok (n1:=n1) (n2:=n2) h.up h.f0 h.nv (h.cnt hn1) hbs;have hlay:LayD (rfold D [] (stays (goneL x.C ids) ys)).2 (delAll (updAll x.C mv) done):=ren_lay h.keys (fun i o hm=>⟨hD3 i o hm,h.ids8 _ hm⟩) hd (fun i hi=>goneT hi) hys hmv;obtain ⟨Y,hY⟩:∃ Y,stays (goneL x.C ids) ys=Y:=⟨_,rfl⟩
 have hYin:∀ i o,i ∉ ids->(i,Pl.at o)∈x.C->(i,o)∈Y:=fun i o hi hm=>by
  rw [<- hY];refine List.mem_filter.2 ⟨hys.mem_iff.2 (durs_of hm),?_⟩
  have:asc (goneL x.C ids) i=none:=by
   cases hv:asc (goneL x.C ids) i with
   | none=>rfl
   | some v=>exact absurd ((goneL_key x.C ids i).1 (asc_key.1 (by rw [hv];rfl))).1 hi
  simp only [this];rfl
 have hYat:∀ y∈Y,(y.1,Pl.at y.2)∈x.C:=fun y hy=>by
  rw [<- hY] at hy;exact durs_mem (hys.mem_iff.1 (List.mem_filter.1 hy).1)
 have hYle:entSum Y<=flen x.F:=by
  have h1:entSum Y<=entSum ys:=by rw [<- hY];exact entSum_filter _ ys
  rw [entSum_perm hys] at h1;have h2:=h.frames;omega
 rw [hY] at hmv hfl hbs q1 q2 hlay |-
 have hYlen:∀ y∈Y,0<=y.1.2/\(y.2:Int)+28+y.1.2<=D.length:=fun y hy=>by
  have hm:=hYat y hy;have h0:0<=y.1.2:=by have:=(h.ids8 _ hm).1;simp only at this;omega
  have:=(cutOk_len (hD3 _ _ hm)).2 h0;exact ⟨h0,by omega⟩
 have hbl:=rfold_len D [] Y hYlen;have hK:=rfold_keys D x.C Y;have hAt:=rfold_at D Y hYlen;have hmvn:(mv.map (·.1)).Nodup:=(hmv.map _).nodup_iff.2 (rfold_nodup D Y);obtain ⟨bs,hbse⟩:∃ bs,(rfold D [] Y).2=bs:=⟨_,rfl⟩;rw [hbse] at hbl hAt q1 q2 hbs hlay |-; have hmv2:∀ c∈mv,∃ y∈Y,y.1=c.1/\∃ o,c.2=Pl.at o/\cutB bs c.1 o=cutB D c.1 y.2/\o+28+c.1.2.toNat<=bs.length:=fun c hc=>hAt c (hmv.mem_iff.1 hc);have hmvk:∀ i,i∈mv.map (·.1)↔i∈Y.map (·.1):=fun i=>(hmv.map _).mem_iff.trans (hK.2 i)
 have hmvx:∀ c∈mv,∃ p,asc x.C c.1=some (Pl.at p):=fun c hc=>by
  obtain ⟨y,hy,e,_⟩:=hmv2 c hc;exact ⟨y.2,by rw [<- e];exact asc_mem h.keys (hYat y hy)⟩
 have hpd:pdN x.C mv=0:=by
  unfold pdN;rw [List.filter_eq_nil_iff.2 (fun c hc=>?_)]
  · rfl
  obtain ⟨p,hp⟩:=hmvx c hc;rw [hp];simp [Pl.isP]
 have hsame:(updAll x.C mv).map (·.1)=x.C.map (·.1):=updAll_same x.C mv (fun c hc=>by
  obtain ⟨p,hp⟩:=hmvx c hc;exact asc_key.1 (by rw [hp];rfl))
 have hpe:Go.Proofs.YteabgcollokgjaaGreatDoor.pends (updAll x.C mv)=Go.Proofs.YteabgcollokgjaaGreatDoor.pends x.C:=pends_updAll mv x.C (fun c hc=>by
  obtain ⟨y,_,_,o,ho,_⟩:=hmv2 c hc;exact ⟨⟨o,ho⟩,hmvx c hc⟩)
 have hup:∀ i,asc (updAll x.C mv) i=match asc mv i with | some pl=>some pl | none=>asc x.C i:=fun i=>updAll_asc x.C mv hmvn i
 rw [hpd,q2,(sync_ok (s:={ x.s with ops:=x.s.ops++[crOp x.nm bs]++[rnOp x.nm] }) h.up h.f0).2];have hnow:=rn_now x.s x.nm bs;obtain ⟨N,hN⟩:∃ N,St.now { x.s with ops:=x.s.ops++[crOp x.nm bs]++[rnOp x.nm] }=N:=⟨_,rfl⟩;rw [hN] at hnow |-; obtain ⟨C1,hC1⟩:∃ C1,updAll x.C mv=C1:=⟨_,rfl⟩;rw [hC1] at hsame hpe hup hlay |-
 have hcore:∀ i,i ∉ ids->∀ o,asc x.C i=some (Pl.at o)->∃ o',asc C1 i=some (Pl.at o')/\cutB bs i o'=cutB D i o/\cutOk bs i o'=true/\o'+28+i.2.toNat<=bs.length:=fun i hi o ha=>by
  have hm:=mem_of_asc ha;have hy:=hYin i o hi hm;have hk:i∈mv.map (·.1):=(hmvk i).2 (List.mem_map.2 ⟨_,hy,rfl⟩);obtain ⟨c,hc,rfl⟩:=List.mem_map.1 hk;obtain ⟨z,hz,e,o',h1,h2,h3⟩:=hmv2 c hc;have hzo:z.2=o:=durs_uniq h.keys (by rw [<- e];exact hYat z hz) hm;rw [hzo] at h2;have hai:asc mv c.1=some c.2:=asc_mem hmvn hc;refine ⟨o',?_,h2,?_,h3⟩
  · rw [hup,hai,h1]
  have h4:=cutOk_len (hD3 _ _ hm);have h0:0<=c.1.2:=by have:=(h.ids8 _ hm).1;simp only at this;omega
  unfold cutOk;rw [h2,h4.1];simp only [Bool.and_eq_true,decide_eq_true_eq,and_true];omega
 have hpcore:∀ i d b,asc x.C i=some (Pl.pend d b)->asc C1 i=some (Pl.pend d b):=fun i d b ha=>by
  have:asc mv i=none:=by
   cases hv:asc mv i with
   | none=>rfl
   | some v=>
    obtain ⟨p,hp⟩:=hmvx _ (mem_of_asc hv);rw [ha] at hp;cases hp
  rw [hup,this];exact ha
 have hisome:∀ i,(asc C1 i).isSome=(asc x.C i).isSome:=fun i=>by
  rw [Bool.eq_iff_iff,asc_key,asc_key,hsame]
 have hC1n:(C1.map (·.1)).Nodup:=by rw [hsame];exact h.keys
 have hdn:(done.map (·.1)).Nodup:=(hd.map _).nodup_iff.2 (goneL_nodup _ _);have hdk:∀ i,i∈done.map (·.1)↔i∈ids/\(asc x.C i).isSome=true:=fun i=>(hd.map _).mem_iff.trans (goneL_key x.C ids i)
 have hds:∀ g∈done,(asc C1 g.1).isSome=true:=fun g hg=>by
  rw [hisome];exact ((hdk g.1).1 (List.mem_map.2 ⟨g,hg,rfl⟩)).2
 have hisP:∀ c∈C1,c.2.isP=c.2.A.isSome:=fun c hc=>by
  have ha:=asc_mem hC1n hc;obtain ⟨i,pl⟩:=c;cases pl with
  | «at» o=>rfl
  | pend d b=>
   simp only at ha;cases hv:asc mv i with
   | some v=>
    obtain ⟨_,_,_,o,ho,_⟩:=hmv2 _ (mem_of_asc hv);rw [hup,hv] at ha;injection ha with ha;rw [ha] at ho;cases ho
   | none=>
    rw [hup,hv] at ha;have:=(h.pA i d b (mem_of_asc ha)).1;simp [Pl.isP,Pl.A,this]
 obtain ⟨l1,l2,l3⟩:=delAll_len done C1 hC1n hdn hds hisP;have hkeys:=delAll_nodup done C1 hC1n
 have hasc:∀ i,asc (delAll C1 done) i=if i∈ids then none else asc C1 i:=fun i=>by
  by_cases hi:i∈done.map (·.1)
  · rw [delAll_in done C1 hC1n i hi,if_pos ((hdk i).1 hi).1]
  rw [delAll_asc done C1 hC1n i (fun k hk e=>hi (List.mem_map.2 ⟨k,hk,e⟩))];by_cases hj:i∈ids
  · rw [if_pos hj];cases hx:asc C1 i with
    | none=>rfl
    | some pl=>exact absurd ((hdk i).2 ⟨hj,by rw [<- hisome,hx];rfl⟩) hi
  rw [if_neg hj]
 have hfull:∀ c∈delAll C1 done,c.1 ∉ ids/\((∃ o',c.2=Pl.at o'/\cutOk bs c.1 o'=true/\o'+28+c.1.2.toNat<=bs.length/\∃ o,(c.1,Pl.at o)∈x.C)∨∃ d b,c.2=Pl.pend d b/\(c.1,Pl.pend d b)∈x.C):=fun c hc=>by
  have ha:=asc_mem hkeys hc;rw [hasc] at ha;by_cases hj:c.1∈ids
  · rw [if_pos hj] at ha;cases ha
  rw [if_neg hj] at ha;refine ⟨hj,?_⟩;cases hx:asc x.C c.1 with
  | none=>
   have:=hisome c.1;rw [ha,hx] at this;cases this
  | some pl=>
   cases pl with
   | «at» o=>
    obtain ⟨o',h1,h2,h3,h4⟩:=hcore c.1 hj o hx;rw [h1] at ha;injection ha with ha;exact .inl ⟨o',ha.symm,h3,h4,o,mem_of_asc hx⟩
   | pend d b=>
    rw [hpcore _ _ _ hx] at ha;injection ha with ha;exact .inr ⟨d,b,ha.symm,mem_of_asc hx⟩
 have hkey:∀ c∈delAll C1 done,∃ pl,(c.1,pl)∈x.C:=fun c hc=>by
  rcases (hfull c hc).2 with ⟨o',_,_,_,o,hm⟩ | ⟨d,b,_,hm⟩
  · exact ⟨_,hm⟩
  exact ⟨_,hm⟩
 have hlC:C1.length=x.C.length:=by
  have:=congrArg List.length hsame;simpa using this
 have hsz:sizeC C1=sizeC x.C:=by unfold sizeC;rw [hsame]
 have hw:=h.waits;have hfew:=h.few;have hlen8:=h.len;have hpl:(Go.Proofs.YteabgcollokgjaaGreatDoor.pends (delAll C1 done)).length<=(delAll C1 done).length:=by unfold Go.Proofs.YteabgcollokgjaaGreatDoor.pends;rw [List.length_map];exact zF _ _
 have hns:∀ m,(N m).isSome=true->m∈ns:=fun m hm=>by
  rw [hnow] at hm;by_cases e:freshN x.nm=m
  · rw [if_pos e] at hm;cases hm
  rw [if_neg e] at hm;by_cases e2:fileN x.nm=m
  · rw [<- e2];exact h.ns1
  rw [if_neg e2] at hm;exact h.ns3 m hm
 have hfile:N (fileN x.nm)=some bs:=by rw [hnow,if_neg (fresh_ne x.nm),if_pos rfl]
 have hN2:St.now ⟨N,[],false,0⟩=N:=rfl
 refine ⟨{
  live:=h.live
  up:=rfl
  name:=h.name
  few:=by simp only [rmS];omega
  ids:=fun c hc=>by
   obtain ⟨pl,hm⟩:=hkey c hc;exact h.ids (c.1,pl) hm
  offs:=fun i o hc=>by
   rcases (hfull _ hc).2 with ⟨o',h1,_,h3,_⟩ | ⟨d,b,h1,_⟩
   · simp only at h1 h3;injection h1 with h1;omega
   cases h1
  pends:=fun i d bs' hc=>by
   rcases (hfull _ hc).2 with ⟨o',h1,_⟩ | ⟨d',b',h1,h2⟩
   · cases h1
   simp only at h1 h2;rw [<- h1] at h2;exact h.pends i d bs' h2
  whole:=fun f' hf'=>by
   injection hf' with hf';rw [<- hf'];exact hfc
  own:=fun i d bs' hc=>by
   rcases (hfull _ hc).2 with ⟨o',h1,_⟩ | ⟨d',b',h1,h2⟩
   · cases h1
   simp only at h1 h2;rw [<- h1] at h2;exact h.own i d bs' h2
  ops:=by simp [rmS]
  files:=fun k hk=>by
   obtain ⟨L,k1,k2,rfl⟩:=hk;exact Nat.le_trans (len_le_sub L ns k1 (fun a ha=>hns a ((k2 a).1 ha))) h.ns2
  ids8:=fun c hc=>by
   obtain ⟨pl,hm⟩:=hkey c hc;exact h.ids8 (c.1,pl) hm
  wait0:=by rw [hpe] at l2;simp only [rmS];omega
  wait1:=by rw [hpe] at l2;simp only [rmS];omega
  keys:=hkeys
  f0:=rfl
  nv:=h.nv
  ns1:=h.ns1
  ns2:=h.ns2
  ns3:=hns
  no:=fun hF=>by cases hF
  file:=fun f' hf'=>by
   injection hf' with hf';rw [<- hf'];refine ⟨hfT,bs,hfile,by rw [hfl,hbl],fun i o hc=>?_⟩;rcases (hfull _ hc).2 with ⟨o',h1,h2,_⟩ | ⟨d',b',h1,_⟩
   · simp only at h1 h2;injection h1 with h1;rw [h1];exact h2
   cases h1
  len:=by simp only [rmS,flen,hfl];omega
  waits:=by rw [hpe] at l2;simp only [rmS];omega
  pA:=fun i d bs' hc=>by
   rcases (hfull _ hc).2 with ⟨o',h1,_⟩ | ⟨d',b',h1,h2⟩
   · cases h1
   simp only at h1 h2;rw [<- h1] at h2;exact h.pA i d bs' h2
  size:=by have:=h.size;simp only [rmS];omega
  frames:=by
   simp only [rmS,flen,hfl];rw [entSum_keys,entSum_keys];refine frSum_sub _ _ ((durs_sub _).nodup hkeys) (fun a ha=>?_);obtain ⟨y,hy,rfl⟩:=List.mem_map.1 ha;obtain ⟨hni,hc⟩:=hfull _ (durs_mem hy);rcases hc with ⟨o',_,_,_,o,hm⟩ | ⟨d',b',h1,_⟩
   · exact List.mem_map.2 ⟨_,hYin _ o hni hm,rfl⟩
   cases h1 },{
  val:=fun i=>by
   unfold valC;simp only [rmS];rw [hasc];by_cases hj:i∈ids
   · rw [if_pos hj,if_pos hj];rfl
   rw [if_neg hj,if_neg hj];cases hx:asc x.C i with
   | none=>
    have:asc C1 i=none:=by
     have:=hisome i;rw [hx] at this;cases hy:asc C1 i with
     | none=>rfl
     | some v=>rw [hy] at this;cases this
    rw [this];rfl
   | some pl=>
    cases pl with
    | pend d b=>rw [hpcore _ _ _ hx];rfl
    | «at» o=>
     obtain ⟨o',h1,h2,h3,h4⟩:=hcore i hj o hx;rw [h1];simp only [Option.bind_some];rw [read_at (s:=⟨N,[],false,0⟩) rfl h.nv hfile h3,read_at h.up h.nv hD1 (hD3 _ _ (mem_of_asc hx)),h2]
  has:=fun i=>by
   simp only [rmS];rw [hasc];by_cases hj:i∈ids
   · simp [hj]
   simp [hj,hisome]
  nm:=rfl
  p:=rfl
  ps:=rfl
  len:=by simp only [rmS,flen,hfl];exact hYle
  cnt:=by have:=hd.length_eq;simp only [rmS];omega
  bytes:=by simp only [rmS];rw [sizeN_perm hd]
  wt:=by simp only [rmS];have:=pendN_nn C1 done;omega
  now:=fun m hm1 hm2=>by
   show N m=_;rw [hnow,if_neg (fun e=>hm2 e.symm),if_neg (fun e=>hm1 e.symm)]
  lay:=fun _ f' hf'=>⟨bs,hfile,hlay⟩
  pend:=fun i hi=>by
   have:=pends_del hC1n done (i:=i) (fun hm=>hi ((hdk i).1 hm).1);rw [hpe] at this;exact this }⟩
theorem gone_cl {ns:List ByteArray} {x x1:SR} {ids:List ID} {done:List (ID×Bool)} (h:Cl ns x) (ha:After x (goneL x.C ids) x1) (hd:done.Perm (goneL x.C ids)):
 Cl ns (rmS x1 done)/\Gone x ids (rmS x1 done):=by
 have hdn:(done.map (·.1)).Nodup:=(hd.map _).nodup_iff.2 (goneL_nodup _ _);have hdk:∀ i,i∈done.map (·.1)↔i∈ids/\(asc x.C i).isSome=true:=fun i=>(hd.map _).mem_iff.trans (goneL_key x.C ids i);have hds:∀ g∈done,(asc x.C g.1).isSome=true:=fun g hg=>((hdk g.1).1 (List.mem_map.2 ⟨g,hg,rfl⟩)).2;obtain ⟨l1,l2,l3⟩:=delAll_len done x.C h.keys hdn hds h.isP;have hkeys:=delAll_nodup done x.C h.keys;have hsub:=delAll_sub done x.C h.keys
 have hasc:∀ i,asc (delAll x.C done) i=if i∈ids then none else asc x.C i:=fun i=>by
  by_cases hi:i∈done.map (·.1)
  · rw [delAll_in done x.C h.keys i hi,if_pos ((hdk i).1 hi).1]
  rw [delAll_asc done x.C h.keys i (fun k hk e=>hi (List.mem_map.2 ⟨k,hk,e⟩))];by_cases hj:i∈ids
  · rw [if_pos hj];cases hx:asc x.C i with
    | none=>rfl
    | some pl=>exact absurd ((hdk i).2 ⟨hj,by rw [hx];rfl⟩) hi
  rw [if_neg hj]
 have hw:=h.waits;have hlen:(goneL x.C ids).length=done.length:=hd.length_eq.symm
 have hhas:∀ i,(asc (delAll x.C done) i).isSome=(!decide (i∈ids)&&(asc x.C i).isSome):=fun i=>by
  rw [hasc];by_cases hj:i∈ids<;>simp [hj]
 have hpl:(Go.Proofs.YteabgcollokgjaaGreatDoor.pends (delAll x.C done)).length<=(delAll x.C done).length:=by unfold Go.Proofs.YteabgcollokgjaaGreatDoor.pends;rw [List.length_map];exact zF _ _
 have hfew:=h.few;cases ha with
 | none hno=>
  refine ⟨{
   live:=h.live
   up:=h.up
   name:=h.name
   few:=by simp only [rmS];omega
   ids:=fun c hc=>h.ids c (hsub c hc)
   offs:=fun i o hc=>h.offs i o (hsub _ hc)
   pends:=fun i d bs hc=>h.pends i d bs (hsub _ hc)
   whole:=h.whole
   own:=fun i d bs hc=>h.own i d bs (hsub _ hc)
   ops:=h.ops
   files:=h.files
   ids8:=fun c hc=>h.ids8 c (hsub c hc)
   wait0:=by simp only [rmS];omega
   wait1:=by simp only [rmS];omega
   keys:=hkeys
   f0:=h.f0
   nv:=h.nv
   ns1:=h.ns1
   ns2:=h.ns2
   ns3:=h.ns3
   no:=fun hF=>⟨(h.no hF).1,fun i o hc=>(h.no hF).2 i o (hsub _ hc)⟩
   file:=fun f hF=>by
    obtain ⟨k1,D,k2,k3,k4⟩:=h.file f hF;exact ⟨k1,D,k2,k3,fun i o hc=>k4 i o (hsub _ hc)⟩
   len:=h.len
   waits:=by simp only [rmS];omega
   pA:=fun i d bs hc=>h.pA i d bs (hsub _ hc)
   size:=by have:=h.size;simp only [rmS];omega
   frames:=by
    have h1:=h.frames;have h2:=frames_del done x.C;simp only [rmS];omega },{
   val:=fun i=>by
    unfold valC;simp only [rmS];rw [hasc];by_cases hj:i∈ids
    · rw [if_pos hj,if_pos hj];rfl
    rw [if_neg hj,if_neg hj]
   has:=hhas
   nm:=rfl
   p:=rfl
   ps:=rfl
   len:=Nat.le_refl _
   cnt:=by simp only [rmS];omega
   bytes:=by simp only [rmS];rw [sizeN_perm hd]
   wt:=by simp only [rmS];have:=pendN_nn x.C done;omega
   now:=fun m _ _=>rfl
   lay:=fun hL f hF=>by
    obtain ⟨D,h1,h2⟩:=hL f hF;exact ⟨D,h1,del_lay h2 h.keys hd hno⟩
   pend:=fun i hi=>pends_del h.keys done (fun hm=>hi ((hdk i).1 hm).1) }⟩
 | ren n1 n2 r ys mv f hany hys hsrt hst hn1 hn2 e1 e2 hmv hfl hfc hfT=>exact ren_cl h hd rfl hany hys hn1 hmv hfl hfc hfT
 | del n r hyes hcn e1 e2 hgo=>
  obtain ⟨f,hF⟩:=anyAt_file h hyes;obtain ⟨q1,q2⟩:=h.reqDel n ⟨f,hF⟩;obtain ⟨s1,s2⟩:=sync_ok (s:={ x.s with ops:=x.s.ops++[delOp x.nm] }) h.up h.f0;rw [q2,s2,now_add];have hnow:∀ m,applyF x.s.now (delOp x.nm) m=if fileN x.nm=m then none else x.s.now m:=fun m=>rfl
  have hnoat:∀ i o,(i,Pl.at o) ∉ delAll x.C done:=fun i o hc=>by
   have hm:=hsub _ hc;have hst:=hgo _ (List.Perm.refl _);have hy:=durs_of hm
   have hb:(!((asc (goneL x.C ids) i).getD false))=false:=by
    cases hv:(!((asc (goneL x.C ids) i).getD false)) with
    | false=>rfl
    | true=>
     have:(i,o)∈stays (goneL x.C ids) (durs x.C):=List.mem_filter.2 ⟨hy,hv⟩;rw [hst] at this;cases this
   have hk:i∈(goneL x.C ids).map (·.1):=by
    cases hv:asc (goneL x.C ids) i with
    | none=>rw [hv] at hb;cases hb
    | some v=>exact asc_key.1 (by rw [hv];rfl)
   have:=delAll_in done x.C h.keys i ((hd.map _).mem_iff.2 hk);rw [asc_mem hkeys hc] at this;cases this
  refine ⟨{
   live:=h.live
   up:=rfl
   name:=h.name
   few:=by simp only [rmS];omega
   ids:=fun c hc=>h.ids c (hsub c hc)
   offs:=fun i o hc=>absurd hc (hnoat i o)
   pends:=fun i d bs hc=>h.pends i d bs (hsub _ hc)
   whole:=fun f hf=>by cases hf
   own:=fun i d bs hc=>h.own i d bs (hsub _ hc)
   ops:=by simp [rmS]
   files:=fun k hk=>by
    obtain ⟨L,k1,k2,rfl⟩:=hk;refine Nat.le_trans (len_le_sub L ns k1 (fun a ha=>?_)) h.ns2;have:=(k2 a).1 ha;simp only [rmS,St.now,List.foldl_nil] at this;rw [show List.foldl applyF x.s.K x.s.ops=x.s.now from rfl,hnow] at this;by_cases ea:fileN x.nm=a
    · rw [<- ea];exact h.ns1
    rw [if_neg ea] at this;exact h.ns3 a this
   ids8:=fun c hc=>h.ids8 c (hsub c hc)
   wait0:=by simp only [rmS];omega
   wait1:=by simp only [rmS];omega
   keys:=hkeys
   f0:=rfl
   nv:=h.nv
   ns1:=h.ns1
   ns2:=h.ns2
   ns3:=fun a this=>by
    simp only [rmS,St.now,List.foldl_nil] at this;rw [show List.foldl applyF x.s.K x.s.ops=x.s.now from rfl,hnow] at this;by_cases ea:fileN x.nm=a
    · rw [<- ea];exact h.ns1
    rw [if_neg ea] at this;exact h.ns3 a this
   no:=fun _=>⟨by simp only [rmS,St.now,List.foldl_nil];rw [show List.foldl applyF x.s.K x.s.ops=x.s.now from rfl,hnow,if_pos rfl],hnoat⟩
   file:=fun f hf=>by cases hf
   len:=by simp [rmS,flen]
   waits:=by simp only [rmS];omega
   pA:=fun i d bs hc=>h.pA i d bs (hsub _ hc)
   size:=by have:=h.size;simp only [rmS];omega
   frames:=by
    simp only [rmS];rw [durs_nil hnoat];simp [entSum] },{
   val:=fun i=>by
    unfold valC;simp only [rmS];rw [hasc];by_cases hj:i∈ids
    · rw [if_pos hj,if_pos hj];rfl
    rw [if_neg hj,if_neg hj];cases hx:asc x.C i with
    | none=>rfl
    | some pl=>
     cases pl with
     | pend d bs=>rfl
     | «at» o=>exact absurd (mem_of_asc (by rw [hasc,if_neg hj];exact hx)) (hnoat i o)
   has:=hhas
   nm:=rfl
   p:=rfl
   ps:=rfl
   len:=by simp [rmS,flen]
   cnt:=by simp only [rmS];omega
   bytes:=by simp only [rmS];rw [sizeN_perm hd]
   wt:=by simp only [rmS];have:=pendN_nn x.C done;omega
   now:=fun m hm _=>by
    simp only [rmS,St.now,List.foldl_nil];rw [show List.foldl applyF x.s.K x.s.ops=x.s.now from rfl,hnow,if_neg (fun e=>hm e.symm)]
   lay:=fun _ f hf=>by cases hf
   pend:=fun i hi=>pends_del h.keys done (fun hm=>hi ((hdk i).1 hm).1) }⟩
theorem rem_cl {ns:List ByteArray} {x:SR} {b:Nat} {w w':World} {ids:List ID} {l:List Ob} {e:Ending} (h:Cl ns x) (hp:RemPost b x ids l w e w'):
 e= .returned (.tuple #[.int .i64 ((goneL x.C ids).length:Int),.int .i64 0])/\∃ x',Cl ns x'/\Gone x ids x'/\SW b w (x'.obs l) w':=by
 rcases hp with ⟨E,x1,hE,_,hf,_⟩ | ⟨x1,done,he,ha,hd,hs⟩
 · exfalso
   cases hf with
   | req n r E hany hcn e1 e2=>
    have hF:=anyAt_file h hany;obtain ⟨q1,q2⟩:=h.reqDel n hF;exact e2 (e1.trans q1)
   | sync n r E hany hcn e0 e1 e2 _=>
    have hF:=anyAt_file h hany;obtain ⟨q1,q2⟩:=h.reqDel n hF;rw [q2,(sync_ok (s:={ x.s with ops:=x.s.ops++[delOp x.nm] }) h.up h.f0).1] at e1;exact e2 e1
   | rreq n1 n2 r ys E hany hys hsrt hn1 hn2 e1 e2=>
    obtain ⟨D,hDr,hb⟩:=h.renew_len hany hys;rw [hDr] at e1;exact e2 (e1.trans (rq_ok h.up h.f0 h.nv (h.cnt hn1) hb).1)
   | rsync n1 n2 r ys E hany hys hsrt hn1 hn2 e0 e1 e2=>
    obtain ⟨D,hDr,hb⟩:=h.renew_len hany hys;rw [hDr,(rq_ok h.up h.f0 h.nv (h.cnt hn1) hb).2,(sync_ok (s:={ x.s with ops:=x.s.ops++[crOp x.nm (rfold D [] (stays (goneL x.C ids) ys)).2]++[rnOp x.nm] }) h.up h.f0).1] at e1;exact e2 e1
 obtain ⟨a1,a2⟩:=gone_cl h ha hd;exact ⟨he,_,a1,a2,hs⟩
end
end Go.Proofs.YteabgcollokgjaaGreatDoor
