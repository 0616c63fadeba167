/- Q -/
import Derived.Test.YteabgcollokgjaaGreatDoorQC28
set_option linter.unusedSimpArgs false
set_option linter.unusedVariables false
set_option maxRecDepth 100000
set_option maxHeartbeats 32000000
open List renaming getD_eq_getElem?_getD → zA,length_append → zB,mem_cons_self → zC,length_cons → zD,mem_append → zE,getElem?_eq_getElem → zF,getElem?_append_left → zG
namespace Go.Proofs.YteabgcollokgjaaGreatDoor
section
open Go.RowKit Go.MapKept Go.ChangeMaps Go.Shelf Go.Sort
def joinT (T:List BS):List UInt8:=T.flatMap (·.bs)
theorem joinT_snoc (T:List BS) (e:BS):joinT (T++[e])=joinT T++e.bs:=by simp [joinT]
section
variable {b:Nat} {w0 w w':World} {l:List Ob}
theorem Joined_any (h:SW b w0 l w) {A:Option Addr} {T:List BS} (hA:blOb A T∈l) (c:Nat) (hn:T.length<=1000) (hb:∀ e∈T,e.bs.length<=1000):
 Calls Tryz.prog 56 #[.slice A T.length c] w (fun e w'=>∃ d,e= .returned (.slice d.A d.len d.cap)/\SW b w0 (bufOb d (joinT T)::l) w'):=by
 have HA:=Lib.hid hA;have HB:=Lib.hid hb;have S0:=Lib.hid h.newBuf;clear h hA hb;go_enter Tryz.func56,Tryz.ntmps56;go_wp2_with fail
 go_loopw [3,4] (fun s3 s4 wr=>∃ (k:Nat) (d:BD),k<=T.length/\s4= .int .i64 (k:Int)/\s3= .slice d.A d.len d.cap/\Hid ((joinT (T.take k)).length<=1000*k)/\SW b w0 (bufOb d (joinT (T.take k))::l) wr) (fun _ s4 _=>T.length-(intOf s4).toNat)
 case atStart=>exact ⟨0,⟨none,0,0⟩,Nat.zero_le _,rfl,rfl,by simp [Hid,joinT],S0.out⟩
 obtain ⟨k,d,hk,rfl,rfl,HL,hs⟩:=hrel;have S1:=Lib.hid hs;clear hs S0;by_cases hlt:k<T.length
 · obtain ⟨e,HE⟩:∃ e,Hid (T.getD k bs0=e):=⟨_,rfl⟩;have hbl:=HB.out e (by rw [<- HE.out];exact getD_mem _ _ _ hlt);obtain ⟨gA,hAe,_,a0,hrb⟩:=blOb_at (S1.out.1.holds (blOb A T) (by simp [HA.out])) hlt HE.out;have HTS:Hid (joinT (T.take (k+1))=joinT (T.take k)++e.bs):=by rw [Hid,take_snoc _ bs0 _ hlt,joinT_snoc,HE.out]
   have hdl:e.d.len=e.bs.length:=hrb.1.symm;have HSRC:=Lib.hid hrb.src;have hrd:RB wr d (joinT (T.take k)):=S1.out.get 0 (o:=bufOb d (joinT (T.take k))) rfl;have hlen:=HL.out;subst hAe;rw [hdl] at a0;clear hrb;go_wp2_with (at_builtin;refine halt_ ?_)
   refine wpList_append_bytes rfl _ _ rfl d (joinT (T.take k)) rfl hrd e.d.A e.d.cap e.bs rfl HSRC.out (by omega) ?_;intro d2 w7 hl2 happ;have S2:=Lib.hid (S1.out.appB 0 rfl happ);clear happ hl2 hrd a0 S1;go_wp2_with fail
   go_roundw
   case rel=>
    refine ⟨k+1,d2,by omega,by go_num,rfl,?_,?_⟩
    · rw [Hid,HTS.out,zB];omega
    rw [HTS.out];exact S2.out
   simp [intOf];omega
 obtain rfl:k=T.length:=by omega
 rw [List.take_length] at S1;go_wp2_with fail
 go_ret;exact ⟨d,rfl,S1.out⟩
end
theorem idS_at {T:List BS} {k:Nat} (hk:k<T.length) {e:BS} (he:T.getD k bs0=e):(idS T).getD k id0=fpOf e.bs:=by
 rw [<- he];simp [idS,zA,zF hk]
theorem idS_len (T:List BS):(idS T).length=T.length:=by simp [idS]
theorem distB_inj {T:List BS} (h:DistB T):∀ a∈T.map (·.bs),∀ b∈T.map (·.bs),fpOf a=fpOf b->a=b:=by
 have key:∀ j k,j<T.length->k<T.length->fpOf (T.getD j bs0).bs=fpOf (T.getD k bs0).bs->(T.getD j bs0).bs=(T.getD k bs0).bs:=fun j k hj hk e=>by
  rcases Nat.lt_trichotomy j k with h1 | rfl | h1
  · exact (h k j hk h1 e.symm).symm
  · rfl
  exact h j k hj h1 e
 intro a ha b hb e;obtain ⟨x,hx,rfl⟩:=List.mem_map.1 ha;obtain ⟨y,hy,rfl⟩:=List.mem_map.1 hb;obtain ⟨j,hj,rfl⟩:=List.mem_iff_getElem.1 hx;obtain ⟨k,hk,rfl⟩:=List.mem_iff_getElem.1 hy;have:=key j k hj hk;rw [zA,zF hj,zA,zF hk] at this;exact this e
theorem endsF_app (c:CutP) (h t:List UInt8):endsF c (h++t)=t.foldl (stepE c) (endsF c h):=by
 unfold endsF;rw [List.foldl_append]
theorem fold_more (c:CutP):∀ (t:List UInt8) (s:Nat×Nat×List Nat),∃ es,(t.foldl (stepE c) s).2.2=s.2.2++es
 | [],s=>⟨[],by simp⟩
 | y::t,s=>by
  obtain ⟨es,h⟩:=fold_more c t (stepE c s y);rw [List.foldl_cons,h];unfold stepE;split
  · exact ⟨[s.1+1]++es,by simp⟩
  exact ⟨es,rfl⟩
theorem cutEnds_app (c:CutP) (h t:List UInt8):∃ es,cutEnds c (h++t)=(endsF c h).2.2++es:=by
 obtain ⟨es,e⟩:=fold_more c t (endsF c h);unfold cutEnds;rw [endsF_app,e];split
 · exact ⟨es++[(h++t).length],by rw [List.append_assoc]⟩
 exact ⟨es,rfl⟩
def headP (c:CutP) (h:List UInt8):List (List UInt8):=(List.range (endsF c h).2.2.length).map (pieceE h (endsF c h).2.2)
def restP (c:CutP) (h t:List UInt8):List (List UInt8):=(cutsF c (h++t)).drop (headP c h).length
theorem headP_take (c:CutP) (h t:List UInt8):(cutsF c (h++t)).take (headP c h).length=headP c h:=by
 obtain ⟨es,e⟩:=cutEnds_app c h t;have hch:=endsF_chain c h;have hln:(headP c h).length=(endsF c h).2.2.length:=by simp [headP]
 rw [hln];unfold cutsF headP;rw [e];generalize (endsF c h).2.2=e1 at hch |-; rw [<- List.map_take,List.take_range,zB,Nat.min_eq_left (by omega)];refine List.map_congr_left (fun k hk=>?_);have hk:=List.mem_range.1 hk;obtain ⟨h1,h2⟩:=hch.at hk;have g1:(e1++es).getD k 0=e1.getD k 0:=by rw [zA,zA,zG hk]
 have g0:(0::(e1++es)).getD k 0=(0::e1).getD k 0:=by
  rw [<- List.cons_append,zA,zA,zG (by rw [zD];omega)]
 unfold pieceE;rw [g1,g0];generalize (0::e1).getD k 0=a at h1 |-; generalize e1.getD k 0=z at h1 h2 |-; rw [List.drop_append_of_le_length (by omega),List.take_append_of_le_length (by rw [List.length_drop];omega)]
theorem cuts_split (c:CutP) (h t:List UInt8):cutsF c (h++t)=headP c h++restP c h t:=by
 have:=List.take_append_drop (headP c h).length (cutsF c (h++t));rw [headP_take] at this;exact this.symm
theorem lenS_app (M N:List (List UInt8)):lenS' (M++N)=lenS' M+lenS' N:=by simp [lenS']
theorem headP_len (c:CutP) (h:List UInt8):lenS' (headP c h)=h.length-(endsF c h).2.1:=by
 have hp:=pieces_chain h (endsF c h).2.2 0 (h.length-(endsF c h).2.1) (endsF_chain c h) (by omega);rw [lenS_flat];have e:(headP c h).flatten=(h.drop 0).take (h.length-(endsF c h).2.1-0):=hp;rw [e,List.length_take,List.drop_zero];omega
theorem restP_len (c:CutP) (h t:List UInt8):lenS' (restP c h t)=t.length+(endsF c h).2.1:=by
 have h1:lenS' (cutsF c (h++t))=(h++t).length:=by rw [lenS_flat,cuts_all]
 rw [cuts_split,lenS_app,headP_len,zB] at h1;have:=(endsF_pos c h).2.1;omega
def c6:CutP:=⟨2,6,1⟩
theorem c6_ok:c6.Ok:=⟨by decide,by decide,by decide⟩
theorem ends6 (y:Nat):c6.ends 6 y=true:=by
 unfold CutP.ends;rfl
theorem endsF_few (h:List UInt8):(endsF c6 h).2.1<=5:=by
 have:∀ (t:List UInt8) (s:Nat×Nat×List Nat),s.2.1<=5->(t.foldl (stepE c6) s).2.1<=5:=by
  intro t;induction t with
  | nil=>intro s hs;exact hs
  | cons y t ih=>
   intro s hs;rw [List.foldl_cons];refine ih _ ?_;unfold stepE;split
   · exact Nat.zero_le _
   rename_i hne
   show s.2.1+1<=5;rcases Nat.lt_or_ge s.2.1 5 with h1 | h1
   · omega
   exfalso
   have e:s.2.1=5:=by omega
   rw [e] at hne;exact hne (ends6 _)
 exact this h _ (Nat.zero_le _)
def onceQ (h:List UInt8) (ts:List (List UInt8)):List (List UInt8):=ts.flatMap fun t=>cutsF c6 (h++t)
theorem onceQ_snoc (h:List UInt8) (ts:List (List UInt8)) (t:List UInt8):onceQ h (ts++[t])=onceQ h ts++cutsF c6 (h++t):=by simp [onceQ]
theorem onceQ_pos (h:List UInt8) (ts:List (List UInt8)):∀ q∈onceQ h ts,∃ t∈ts,1<=q.length/\q.length<=(h++t).length/\∀ x∈q,x∈h++t:=fun q hq=>by
 obtain ⟨t,ht,hq⟩:=List.mem_flatMap.1 hq;exact ⟨t,ht,cuts_pos c6 (h++t) q hq⟩
theorem TS.once {h:List UInt8} {ts:List (List UInt8)} (hh:h.length<=39) (hn:ts.length<=4) (ht:∀ t∈ts,t.length<=11) (h4:∀ x∈h,x.toNat<4) (t4:∀ t∈ts,∀ x∈t,x.toNat<4) (hinj:∀ a∈onceQ h ts,∀ b∈onceQ h ts,fpOf a=fpOf b->a=b):TS (onceQ h ts) where
 inj:=hinj
 lo:=fun q hq=>by
  obtain ⟨t,_,h1,_⟩:=onceQ_pos h ts q hq;exact h1
 hi:=fun q hq=>by
  obtain ⟨t,hm,_,h2,_⟩:=onceQ_pos h ts q hq;have:=ht t hm;rw [zB] at h2;omega
 few:=fun cs hcs hs=>by
  have hr:=endsF_few h
  have hsum:∀ ts:List (List UInt8),(∀ t∈ts,t.length<=11)->lenS' (ts.flatMap (restP c6 h))<=ts.length*(11+(endsF c6 h).2.1):=by
   intro ts;induction ts with
   | nil=>intro _;simp [lenS']
   | cons t ts ih=>
    intro ht;have h1:=ih (fun s hs=>ht s (List.mem_cons_of_mem _ hs));have h2:=ht t (by simp);rw [List.flatMap_cons,lenS_app,restP_len,zD,Nat.add_mul];omega
  have h1:=count_in (L:=cs) (M:=headP c6 h++ts.flatMap (restP c6 h)) hcs (fun q hq=>by
   obtain ⟨t,hm,hq⟩:=List.mem_flatMap.1 (hs q hq);rw [cuts_split] at hq;rcases List.mem_append.1 hq with hq | hq
   · exact List.mem_append_left _ hq
   · exact List.mem_append_right _ (List.mem_flatMap.2 ⟨t,hm,hq⟩)) (fun q hq=>by
   rcases List.mem_append.1 hq with hq | hq
   · have h5:q∈cutsF c6 (h++[]):=by rw [cuts_split];exact List.mem_append_left _ hq
     exact List.length_pos_iff.1 (cuts_pos c6 _ q h5).1
   · obtain ⟨t,hm,hq⟩:=List.mem_flatMap.1 hq;have h5:q∈cutsF c6 (h++t):=by rw [cuts_split];exact List.mem_append_right _ hq
     exact List.length_pos_iff.1 (cuts_pos c6 _ q h5).1) (fun q hq x hx=>by
   rcases List.mem_append.1 hq with hq | hq
   · have h5:q∈cutsF c6 (h++[]):=by rw [cuts_split];exact List.mem_append_left _ hq
     have h6:=(cuts_pos c6 _ q h5).2.2 x hx;rw [List.append_nil] at h6;exact h4 x h6
   obtain ⟨t,hm,hq⟩:=List.mem_flatMap.1 hq;have h5:q∈cutsF c6 (h++t):=by rw [cuts_split];exact List.mem_append_right _ hq
   rcases List.mem_append.1 ((cuts_pos c6 _ q h5).2.2 x hx) with h6 | h6
   · exact h4 x h6
   exact t4 t hm x h6)
  rw [lenS_app,headP_len] at h1;have h2:=hsum ts ht;have h3:ts.length*(11+(endsF c6 h).2.1)<=4*(11+(endsF c6 h).2.1):=Nat.mul_le_mul_right _ hn;omega
theorem TQ.widen {Q Q':List (List UInt8)} {x:SR} {P:List (List UInt8)} (h:TQ Q x P) (hs:∀ t∈Q,t∈Q'):TQ Q' x P:=⟨h.has,h.val,fun t ht=>hs t (h.text t ht)⟩
structure AllI (all:List ID) (P:List (List UInt8)):Prop where
 nd:all.Nodup
 mem:∀ i,i∈all↔i∈P.map fpOf
def sumI (all:List ID):Int:=(all.map (·.2)).sum
theorem sumI_snoc (all:List ID) (i:ID):sumI (all++[i])=sumI all+i.2:=by simp [sumI]
def addI (all:List ID) (i:ID):List ID:=if i∈all then all else all++[i]
theorem AllI.add {all:List ID} {P:List (List UInt8)} (h:AllI all P) (t:List UInt8):AllI (addI all (fpOf t)) (P++[t]):=by
 unfold addI;split
 · rename_i hm
   refine ⟨h.nd,fun i=>?_⟩;rw [h.mem i,List.map_append,zE];constructor
   · exact .inl
   rintro (h1 | h1)
   · exact h1
   have e:i=fpOf t:=by simpa using h1
   rw [e];exact (h.mem _).1 hm
 rename_i hm
 refine ⟨List.nodup_append.2 ⟨h.nd,by simp,fun a ha b hb=>?_⟩,fun i=>?_⟩
 · rw [List.mem_singleton.1 hb];exact fun e=>hm (e ▸ ha)
 rw [zE,h.mem i,List.map_append,zE];simp
theorem AllI.few {all:List ID} {P Q:List (List UInt8)} (h:AllI all P) (hQ:TS Q) (hs:∀ t∈P,t∈Q):all.length<=49/\0<=sumI all/\sumI all<=49000:=by
 have hk:∀ i∈all,∃ t∈Q,fpOf t=i:=fun i hi=>by
  obtain ⟨t,ht,e⟩:=List.mem_map.1 ((h.mem i).1 hi);exact ⟨t,hs t ht,e⟩
 have h1:=hQ.fewI h.nd hk
 have h2:∀ l:List ID,(∀ i∈l,∃ t∈Q,fpOf t=i)->0<=sumI l/\sumI l<=1000*(l.length:Int):=by
  intro l;induction l with
  | nil=>intro _;simp [sumI]
  | cons i l ih=>
   intro hl;obtain ⟨a,b⟩:=ih (fun j hj=>hl j (List.mem_cons_of_mem _ hj));obtain ⟨t,ht,e⟩:=hl i (by simp);have hi:=hQ.hi t ht;have e2:i.2=(t.length:Int):=by rw [<- e];rfl
   have e3:sumI (i::l)=i.2+sumI l:=by simp [sumI]
   rw [e3,zD];omega
 have h3:=h2 all hk;omega
theorem AllI.store {ns:List ByteArray} {all:List ID} {P Q:List (List UInt8)} {x:SR} (h:AllI all P) (hc:Cl ns x) (hT:TQ Q x P) (hF:x.F=none):x.bytes=sumI all/\x.wait=(all.length:Int)/\x.C.length=all.length:=by
 have hp:(x.C.map (·.1)).Perm all:=by
  refine (List.perm_ext_iff_of_nodup hc.keys h.nd).2 (fun i=>?_);rw [h.mem i, <- asc_key,hT.has i];simp
 have hl:=hp.length_eq;rw [List.length_map] at hl;refine ⟨?_,?_,hl⟩
 · rw [hc.size];exact sum_permI (hp.map _)
 rw [hc.waits, <- hl];congr 1
 have hno:=(hc.no hF).2
 have:∀ c∈x.C,c.2.A.isSome=true:=fun c hm=>by
  obtain ⟨i,pl⟩:=c;cases pl with
  | «at» o=>exact absurd hm (hno i o)
  | pend d bs=>exact (hc.pA i d bs hm).1
 unfold pends;rw [List.filter_eq_self.2 this,List.length_map]
section
variable {b:Nat} {w0 w:World} {l:List Ob}
theorem SW.dup {o:Ob} (h:SW b w0 (o::l) w) (ho:∀ i,¬ o.own i):SW b w0 (o::o::l) w:=by
 refine ⟨⟨h.1.base,fun y hy=>?_,fun y hy i hi=>?_,fun y hy i hi=>?_,List.pairwise_cons.2 ⟨fun y hy=>?_,h.1.apart⟩⟩,h.2⟩
 · rcases List.mem_cons.1 hy with rfl | hy
   · exact h.1.holds _ (zC ..)
   exact h.1.holds y hy
 · rcases List.mem_cons.1 hy with rfl | hy
   · exact (ho i hi).elim
   exact h.1.own y hy i hi
 · rcases List.mem_cons.1 hy with rfl | hy
   · exact h.1.rd _ (zC ..) i hi
   exact h.1.rd y hy i hi
 rcases List.mem_cons.1 hy with rfl | hy
 · exact ⟨fun i hi=>(ho i hi).elim,fun i hi=>(ho i hi).elim⟩
 exact (List.pairwise_cons.1 h.1.apart).1 y hy
theorem SW.bufBs {d:BD} {bs:List UInt8} (h:SW b w0 (bufOb d bs::l) w):SW b w0 (bsOb [⟨d,bs⟩]::l) w:=by
 have h1:RB w d bs:=h.get 0 (o:=bufOb d bs) rfl;refine SW.fuse (pre:=[bufOb d bs]) h (fun e he=>?_) (fun _ h=>h) (fun i hi=>?_)
 · rw [List.mem_singleton.1 he];exact h1
 obtain ⟨e,he,hb⟩:=hi;rw [List.mem_singleton.1 he] at hb;exact ⟨bufOb d bs,by simp,.inl hb⟩
theorem SW.mkPair {g:Nat} {e1 e2:BS} (h:SW b w0 (cellOb g 34 #[.slice e1.d.A e1.d.len e1.d.cap,.slice e2.d.A e2.d.len e2.d.cap]::bsOb [e1]::bsOb [e2]::l) w):SW b w0 (blOb (some ⟨g,0,none⟩) [e1,e2]::l) w:=by
 have h0:IsB w g 34 #[.slice e1.d.A e1.d.len e1.d.cap,.slice e2.d.A e2.d.len e2.d.cap]:=h.cell 0 rfl;have h1:∀ e∈[e1],RB w e.d e.bs:=h.get 1 (o:=bsOb [e1]) rfl;have h2:∀ e∈[e2],RB w e.d e.bs:=h.get 2 (o:=bsOb [e2]) rfl;refine SW.fuse (pre:=[cellOb g 34 #[.slice e1.d.A e1.d.len e1.d.cap,.slice e2.d.A e2.d.len e2.d.cap],bsOb [e1],bsOb [e2]]) h ⟨⟨rfl,.inr ⟨g,_,rfl,h0,rfl⟩⟩,fun e he=>?_⟩ (fun _ h=>h) (fun i hi=>?_)
 · rcases List.mem_cons.1 he with rfl | he
   · exact h1 _ (List.mem_singleton.2 rfl)
   exact h2 e he
 rcases hi with ⟨_,e⟩ | ⟨e,he,hb⟩
 · injection e with e;injection e with e;exact ⟨cellOb g 34 #[.slice e1.d.A e1.d.len e1.d.cap,.slice e2.d.A e2.d.len e2.d.cap],zC .., .inl e.symm⟩
 rcases List.mem_cons.1 he with rfl | he
 · exact ⟨bsOb [e],by simp,.inr ⟨e,List.mem_singleton.2 rfl,hb⟩⟩
 exact ⟨bsOb [e2],by simp,.inr ⟨e,he,hb⟩⟩
theorem SW.blBs {B:Option Addr} {E T:List BS} (h:SW b w0 (blOb B E::bsOb T::l) w):SW b w0 (bsOb (T++E)::l) w:=by
 have h1:∀ e∈E,RB w e.d e.bs:=(h.get 0 (o:=blOb B E) rfl).2;have h2:∀ e∈T,RB w e.d e.bs:=h.get 1 (o:=bsOb T) rfl;refine SW.fuse (pre:=[blOb B E,bsOb T]) h (fun e he=>?_) (fun _ h=>h) (fun i hi=>?_)
 · rcases List.mem_append.1 he with he | he
   · exact h2 e he
   exact h1 e he
 obtain ⟨e,he,hb⟩:=hi;rcases List.mem_append.1 he with he | he
 · exact ⟨bsOb T,by simp,.inr ⟨e,he,hb⟩⟩
 exact ⟨blOb B E,by simp,.inr (.inr ⟨e,he,hb⟩)⟩
theorem SW.noBs (h:SW b w0 l w):SW b w0 (bsOb []::l) w:=SW.fuse (pre:=[]) h (fun e he=>by cases he) (fun _ h=>h) (fun i hi=>by
 obtain ⟨e,he,_⟩:=hi;cases he)
end
end
section
open Go.RowKit Go.MapKept Go.ChangeMaps Go.Shelf Go.Sort
attribute [local go_sem] wext_cell
end
section
open Go.RowKit Go.MapKept Go.ChangeMaps Go.Shelf Go.Sort

end
section
open Go.RowKit Go.MapKept Go.ChangeMaps Go.Shelf Go.Sort
attribute [local go_sem] wext_cell
theorem bl_src {w:World} {B:Option Addr} {E:List BS} (h:(blOb B E).holds w) (hn:0<E.length):∃ ad,B=some ad/\∀ j u,(E.flatMap encB)[j]? =some u->w.cell? (ad.add j)=some u:=by
 obtain ⟨g,e1,_,hc⟩:=h.1.at hn;refine ⟨⟨g,0,none⟩,e1,fun j u hu=>?_⟩;have hl:(E.flatMap encB).length=E.length*1:=flat_len encB_len E;have hj:=(List.getElem?_eq_some_iff.1 hu).1;rw [lit_add,Nat.zero_add,hc j (by omega)];exact hu
theorem encB_all (E:List BS):∀ u∈E.flatMap encB,u.oneCell'=true:=fun u hu=>by
 obtain ⟨e,_,h⟩:=List.mem_flatMap.1 hu;have h:u∈[Value.slice e.d.A e.d.len e.d.cap]:=h;rw [List.mem_singleton.1 h];rfl
end
end Go.Proofs.YteabgcollokgjaaGreatDoor
