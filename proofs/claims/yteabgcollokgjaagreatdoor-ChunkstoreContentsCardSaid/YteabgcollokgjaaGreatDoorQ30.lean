/- Q -/
import Derived.Test.YteabgcollokgjaaGreatDoorQ29
set_option linter.unusedSimpArgs false
set_option linter.unusedVariables false
set_option maxRecDepth 100000
set_option maxHeartbeats 32000000
open Go.Lib renaming hid → kh
open List renaming mem_cons_of_mem → zA,map_cons → zB,append_assoc → zC
namespace Go.Proofs.YteabgcollokgjaaGreatDoor
section
open Go.RowKit Go.MapKept Go.ChangeMaps Go.Shelf Go.Sort
attribute [local go_sem] wext_cell
def openedX (p:Nat) (r:Rp) (s:St) (nm:ByteArray) (H:Nat) (C:Chs) (F:Option FR):SR:=⟨p,H+2,H,H+1,r,s,nm,C,F,0,sizeC C,false⟩
def OpenedX (s:St) (nm:ByteArray) (bs:List UInt8) (C:Chs) (F:Option FR):Prop:=
 ((s.now (fileN nm)).isSome=false/\C=[]/\F=none)∨((s.now (fileN nm)).isSome=true/\∃ fb sb,C=(scanF bs bs.length 0 [] [] true).1/\F=some ⟨fb,sb,bs.length,(scanF bs bs.length 0 [] [] true).2.2,(scanF bs bs.length 0 [] [] true).2.1⟩)
def OpenG (b p:Nat) (r:Rp) (s:St) (nm:ByteArray) (bs:List UInt8) (l:List Ob) (w:World) (e:Ending) (w':World):Prop:=
 ∃ H C F,w.heap.size<=H/\e= .returned (.tuple #[vPtr (H+2),.int .i64 0])/\SW b w ((openedX p r s nm H C F).obs l) w'/\OpenedX s nm bs C F
theorem Open_gen {b:Nat} {w:World} {p:Nat} {r:Rp} {s:St} {l:List Ob} (h:Sep b w (devOb p r s::l)) (nm:ByteArray) (bs:List UInt8) (hn:nameV nm=true) (hd:s.dn=false) (hb0:0<b) (hS:Syn w) (hN:∀ m,(s.now m).isSome=true->m=fileN nm∨Alien nm m) (hR:(s.now (fileN nm)).isSome=true->readE s (fileN nm)=0/\readB s (fileN nm)=bs):Calls Tryz.prog 20 #[vPtr p,.string nm] w (OpenG b p r s nm bs l w):=by
 have hsz:=nameV_size hn;have HV:=kh (validStore_any nm w (by unfold maxLen;omega));rw [hn] at HV;have HD:=kh (Down_any p r s w h.head);rw [hd] at HD;have hm1:(Instr.makeMap 128 none).run Tryz.prog w= .ok (.map (some w.heap.size)) (w.alloc (.map #[] 0)):=by simp [Instr.makeMap,run_underlying Tryz.underlying128]
 have hm2:(Instr.makeMap 129 none).run Tryz.prog (w.alloc (.map #[] 0))= .ok (.map (some (w.heap.size+1))) ((w.alloc (.map #[] 0)).alloc (.map #[] 0)):=by simp [Instr.makeMap,run_underlying Tryz.underlying129]
 have S1:SW b w (flOb (w.heap.size+1) none::chOb w.heap.size []::devOb p r s::l) ((w.alloc (.map #[] 0)).alloc (.map #[] 0)):=by
  have:=((SW.refl h).newMap).newFl;simpa using this
 have S2:Hid (SW b w ((openedS p r s nm w.heap.size).obs l) (((w.alloc (.map #[] 0)).alloc (.map #[] 0)).alloc (.cells #[.pointer (some ⟨p,0,none⟩),.string nm,.map (some w.heap.size),.map (some (w.heap.size+1)),.int .i64 0,.int .i64 0,.bool false] 131))):=
  SW.front (pre:=[_,_,_,_]) (t:=l) (S1.newCellAt 131 #[.pointer (some ⟨p,0,none⟩),.string nm,.map (some w.heap.size),.map (some (w.heap.size+1)),.int .i64 0,.int .i64 0,.bool false] (H:=w.heap.size+2) (by simp)) [3,0,2,1] (n:=4) rfl (by decide)
 have HLO:=kh (load_gen (x:=openedS p r s nm w.heap.size) (bs:=bs) S2.out.1 hb0 (hS.on hb0 S2.out.2) rfl rfl (by show nm.size<=1000;omega) hN hR)
 have HSC:Hid (∀ C F,OpenedX s nm bs C F->∃ N,N<=4194304/\SInv C N):=by
  rintro C F (⟨_,rfl,_⟩ | ⟨h1,fb,sb,rfl,_⟩)
  · exact ⟨0,by omega,LAt.nil,by simp,by simp⟩
  have hbl:bs.length<=4194304:=by
   have hdv:DV w p r s:=h.head;have:=readB_len hdv.ok (fileN nm);rw [(hR h1).2] at this;exact this
  exact ⟨bs.length,hbl,scan_inv bs hbl bs.length 0 [] [] true (by omega) ⟨LAt.nil,by simp,by simp⟩⟩
 unfold OpenG openedX;clear h hn hd hN hR hS hb0 S1;go_enter Tryz.func20,Tryz.ntmps20;go_wp2_with (first | (go_at_call 81;(with_reducible refine HV.out.mono ?_);rintro e w1 ⟨rfl,rfl⟩) | (go_at_call 82;(with_reducible refine HD.out.mono ?_);rintro e w1 ⟨rfl,rfl⟩) | (go_at_call 83;refine halt_ ?_))
 refine HLO.out.mono ?_;rintro e w1 ⟨rfl,s3⟩
 obtain ⟨C,F,HX,S3⟩:∃ C F,Hid (OpenedX s nm bs C F)/\Hid (SW b w (({ openedS p r s nm w.heap.size with C:=C,F:=F }:SR).obs l) w1):=by
  rcases s3 with ⟨h1,s3⟩ | ⟨h1,fb,sb,s3⟩
  · exact ⟨[],none,.inl ⟨h1,rfl,rfl⟩,S2.out.then s3⟩
  exact ⟨_,_,.inr ⟨h1,fb,sb,rfl,rfl⟩,S2.out.then s3⟩
 obtain ⟨N,hN4,hsi⟩:=HSC.out C F HX.out;have HSI:=kh hsi;clear s3 HLO S2 hm1 hm2 hsi HSC;have k2:w1.cell? ⟨w.heap.size+1+1,2,none⟩=some (.map (some w.heap.size)):=(S3.out.cell 1 rfl).cell 2;have HM:=kh (S3.out.get 2 (o:=chOb w.heap.size C) rfl).1;go_wp2_with (at_range;(refine wpList_range_is _ rfl _ 128 rfl 31 138 Tryz.underlying128 w.heap.size C rfl HM.out ?_);intro w4 hrg hg hs;have SWr:=kh (S3.out.range 2 rfl hrg hg);clear hrg hg hs)
 obtain ⟨q,Hq⟩:∃ q,Hid (w1.heap.size=q):=⟨_,rfl⟩;rw [Hq.out] at SWr;rw [Hq.out];clear Hq HM S3 k2;have SW0:Hid (SW b w (devOb p r s::cellOb (w.heap.size+2) 131 #[.pointer (some ⟨p,0,none⟩),.string nm,.map (some w.heap.size),.map (some (w.heap.size+1)),.int .i64 0,.int .i64 (0),.bool false]::itOb w.heap.size q C [] C.length::flOb (w.heap.size+1) F::l) w4):=SWr.out;clear SWr;go_loopw [] (fun wr=>∃ (done:Chs) (cnt:Nat),done.length+cnt<=C.length/\(∀ c∈done,c∈C)/\SW b w (devOb p r s::cellOb (w.heap.size+2) 131 #[.pointer (some ⟨p,0,none⟩),.string nm,.map (some w.heap.size),.map (some (w.heap.size+1)),.int .i64 0,.int .i64 (sizeC done),.bool false]::itOb w.heap.size q C done cnt::flOb (w.heap.size+1) F::l) wr) (fun wr=>wr.rangeLeft w.heap.size q)
 case atStart=>exact ⟨[],C.length,by simp,by simp,SW0.out⟩
 obtain ⟨done,cnt,hdc,hsub,hs⟩:=hrel;have S6:=kh hs;have HRI:=kh (hs.get 2 (o:=itOb w.heap.size q C done cnt) rfl:RIs okID vID vPl wr w.heap.size q C done cnt);have Hleft:=kh HRI.out.left_eq;have HSUB:=kh hsub;clear hs SW0 hsub;go_wp2_with (at_next;(refine wpList_next_ch _ rfl _ rfl w.heap.size q C done cnt rfl HRI.out (fun hp=>?_) (fun i pl w5 cnt1 hc1 hrg1 hlt1 hg1 hs1 hen=>halt_ ?_)))
 · have HP:=kh hp;clear hp;go_wp2_with fail
   go_ret2;refine ⟨w.heap.size,C,F,Nat.le_refl _,rfl,?_,HX.out⟩;rw [<- sizeC_perm HP.out]
   exact S6.out.unRange 2 rfl (fun c hc=>by
    obtain ⟨q',e,_⟩:=HSI.out.1 c.1 c.2 (asc_mem (HRI.out.map.nodup) hc);exact ⟨q',e⟩)
 have S7:=kh (S6.out.next 2 rfl hrg1 hg1);have HI:=kh (HSI.out.2.2 i (List.mem_map.2 ⟨_,hc1,rfl⟩));have Hlt:=kh hlt1;have HC1:=kh hc1;clear hrg1 hg1 hs1 hlt1 S6 HRI hc1;have S8:Hid (SW b w (cellOb w5.heap.size 31 #[.int .u64 i.1,.int .i64 i.2]::devOb p r s::cellOb (w.heap.size+2) 131 #[.pointer (some ⟨p,0,none⟩),.string nm,.map (some w.heap.size),.map (some (w.heap.size+1)),.int .i64 0,.int .i64 (sizeC done),.bool false]::itOb w.heap.size q C (done++[(i,pl)]) cnt1::flOb (w.heap.size+1) F::l) (w5.alloc (.cells #[.int .u64 i.1,.int .i64 i.2] 31))):=S7.out.newCell 31 _;clear S7;refine kh ?_;go_upto_region 12 with fail
 generalize w5.alloc (.cells #[.int .u64 i.1,.int .i64 i.2] 31)=W6 at S8 |-; generalize w5.heap.size=H6 at S8 |-; have c5:W6.cell? ⟨w.heap.size+2,5,none⟩=some (.int .i64 (sizeC done)):=(S8.out.cell 2 rfl).cell 5;have f5:W6.frozen? ⟨w.heap.size+2,5,none⟩=false:=(S8.out.cell 2 rfl).frozen 5;have d1:W6.cell? ⟨H6,1,none⟩=some (.int .i64 i.2):=(S8.out.cell 0 rfl).cell 1;have hb1:=sizeC_le4 done (fun c hc=>(HSI.out.2.2 c.1 (List.mem_map.2 ⟨c,HSUB.out c hc,rfl⟩)).2);have hb2:=HSI.out.2.1;have hb3:=HI.out.2;have hsum:IntKind.i64.wrap (sizeC done+i.2)=sizeC done+i.2:=IntWalk.i64_in _ (by omega);clear hen;go_region
 have S9:=kh ((S8.out.setAt 2 rfl 5 (.int .i64 (sizeC done+i.2))).tail.drew);clear S8 c5 f5 d1 hsum hb1 hb2 hb3;go_wp2_with fail
 go_roundw
 case rel=>
  refine ⟨done++[(i,pl)],cnt1,by have:=Hlt.out;rw [List.length_append,List.length_singleton];omega,fun c hc=>?_,?_⟩
  · rcases List.mem_append.1 hc with hc | hc
    · exact HSUB.out c hc
    rw [List.mem_singleton.1 hc];exact HC1.out
  rw [sizeC_snoc];exact S9.out
 have h1:RIs okID vID vPl _ w.heap.size q C (done++[(i,pl)]) cnt1:=S9.out.get 2 rfl;exact Nat.lt_of_le_of_lt (Nat.le_of_eq h1.left_eq) (Nat.lt_of_lt_of_eq Hlt.out Hleft.out.symm)
end
section
open Go.RowKit Go.MapKept Go.ChangeMaps Go.Shelf Go.Sort
theorem cut_lay:∀ (cs:List (List UInt8)) (pre:List UInt8) (i:ID) (o:Nat),(i,Pl.at o)∈layC pre.length cs->∃ c∈cs,i=fpOf c/\cutB (pre++layB pre.length cs) i o=c/\o+28+c.length<=(pre++layB pre.length cs).length:=by
 intro cs;induction cs with
 | nil=>intro pre i o h;cases h
 | cons c cs ih=>
  intro pre i o h;rcases List.mem_cons.1 h with e | h
  · injection e with e1 e2;injection e2 with e2;subst e1;subst e2;refine ⟨c,by simp,rfl,?_,?_⟩
    · rw [layB];unfold cutB;have e:(fpOf c).2.toNat=c.length:=by simp [fpOf]
      rw [e, <- zC, <- zC,zC (pre++_),List.drop_left' (by simp [headB_len]),List.take_left' rfl]
    rw [layB];simp only [List.length_append,headB_len];omega
  have e:pre.length+28+c.length=(pre++headB (fpOf c) 1 pre.length++c).length:=by simp [headB_len];omega
  rw [e] at h;obtain ⟨d,h1,h2,h3,h4⟩:=ih _ i o h
  have e2:pre++layB pre.length (c::cs)=pre++headB (fpOf c) 1 pre.length++c++layB (pre++headB (fpOf c) 1 pre.length++c).length cs:=by
   rw [layB, <- e];simp only [zC]
  rw [e2];exact ⟨d,zA _ h1,h2,h3,h4⟩
structure DI (ns:List ByteArray) (s:St):Prop where
 up:s.dn=false
 f0:s.f=0
 ops:s.ops.length<=900000
 ns2:ns.length<=200
 ns3:∀ m,(s.now m).isSome=true->m∈ns
theorem DI.cnt {ns:List ByteArray} {s:St} (h:DI ns s) {n:Nat} (hn:Cnt s.now n):n<=200:=by
 obtain ⟨L,h1,h2,rfl⟩:=hn;exact Nat.le_trans (len_le_sub L ns h1 (fun a ha=>h.ns3 a ((h2 a).1 ha))) h.ns2
structure TS (Q:List (List UInt8)):Prop where
 inj:∀ a∈Q,∀ b∈Q,fpOf a=fpOf b->a=b
 lo:∀ a∈Q,1<=a.length
 hi:∀ a∈Q,a.length<=1000
 few:∀ cs:List (List UInt8),cs.Nodup->(∀ c∈cs,c∈Q)->cs.length<=49
structure TQ (Q:List (List UInt8)) (x:SR) (P:List (List UInt8)):Prop where
 has:∀ i,(asc x.C i).isSome=decide (i∈P.map fpOf)
 val:∀ bs∈P,valC x (fpOf bs)=some bs
 text:∀ bs∈P,bs∈Q
variable {Q:List (List UInt8)}
theorem TQ.empty {x:SR} (h:x.C=[]):TQ Q x []:=⟨fun i=>by rw [h];simp [asc],fun _ h=>(by cases h),fun _ h=>(by cases h)⟩
theorem TQ.key {x:SR} {P:List (List UInt8)} (h:TQ Q x P) {i:ID} (hi:i∈x.C.map (·.1)):∃ bs∈P,fpOf bs=i/\bs∈Q:=by
 have h1:=asc_key.2 hi;rw [h.has i,decide_eq_true_eq] at h1;obtain ⟨bs,hb,e⟩:=List.mem_map.1 h1;exact ⟨bs,hb,e,h.text bs hb⟩
theorem TS.ids (hQ:TS Q):∀ (L:List ID),L.Nodup->(∀ i∈L,∃ t∈Q,fpOf t=i)->∃ cs:List (List UInt8),cs.map fpOf=L/\cs.Nodup/\∀ c∈cs,c∈Q:=by
 intro L;induction L with
 | nil=>intro _ _;exact ⟨[],rfl,List.nodup_nil,by simp⟩
 | cons i L ih=>
  intro hn h;obtain ⟨cs,h1,h2,h3⟩:=ih (List.nodup_cons.1 hn).2 (fun j hj=>h j (zA _ hj));obtain ⟨t,ht,e⟩:=h i (by simp);refine ⟨t::cs,by rw [zB,h1,e],List.nodup_cons.2 ⟨fun hm=>(List.nodup_cons.1 hn).1 ?_,h2⟩,fun c hc=>?_⟩
  · rw [<- e, <- h1];exact List.mem_map.2 ⟨t,hm,rfl⟩
  rcases List.mem_cons.1 hc with rfl | hc
  · exact ht
  exact h3 c hc
theorem TS.fewI (hQ:TS Q) {L:List ID} (hn:L.Nodup) (h:∀ i∈L,∃ t∈Q,fpOf t=i):L.length<=49:=by
 obtain ⟨cs,h1,h2,h3⟩:=hQ.ids L hn h;rw [<- h1,List.length_map];exact hQ.few cs h2 h3
theorem TQ.few {x:SR} {P:List (List UInt8)} (h:TQ Q x P) (hQ:TS Q) (hn:(x.C.map (·.1)).Nodup):x.C.length<=49:=by
 have:=hQ.fewI hn (fun i hi=>by
  obtain ⟨bs,_,e,hb⟩:=h.key hi;exact ⟨bs,hb,e⟩)
 rwa [List.length_map] at this
theorem frSum_leQ:∀ (l:List ID),(∀ i∈l,i.2<=1000)->frSum l<=1028*l.length
 | [],_=>by simp [frSum]
 | i::l,h=>by
  have h1:=h i (List.mem_cons_self ..);have ih:=frSum_leQ l (fun j hj=>h j (zA _ hj));have e:frSum (i::l)=28+i.2.toNat+frSum l:=by simp [frSum]
  rw [e,List.length_cons];omega
theorem TQ.pends {x:SR} {P:List (List UInt8)} (h:TQ Q x P) (hQ:TS Q):frSum (Go.Proofs.YteabgcollokgjaaGreatDoor.pends x.C)<=1028*(Go.Proofs.YteabgcollokgjaaGreatDoor.pends x.C).length:=frSum_leQ _ (fun i hi=>by
 obtain ⟨d,bs,hm⟩:=pends_mem hi;obtain ⟨t,_,e,ht⟩:=h.key (List.mem_map.2 ⟨_,hm,rfl⟩);have e:fpOf t=i:=e;have:=hQ.hi t ht;have e2:(fpOf t).2=(t.length:Int):=rfl;rw [<- e,e2];omega)
theorem TQ.more {x:SR} {P:List (List UInt8)} (h:TQ Q x P) {bs:List UInt8} (hb:bs∈P):TQ Q x (P++[bs]):=by
 refine ⟨fun i=>?_,fun t ht=>?_,fun t ht=>?_⟩
 · rw [h.has i];congr 1
   simp only [List.map_append,zB,List.map_nil,List.mem_append,List.mem_singleton,eq_iff_iff];constructor
   · exact .inl
   rintro (h1 | rfl)
   · exact h1
   exact List.mem_map.2 ⟨bs,hb,rfl⟩
 · rcases List.mem_append.1 ht with ht | ht
   · exact h.val t ht
   rw [List.mem_singleton.1 ht];exact h.val bs hb
 rcases List.mem_append.1 ht with ht | ht
 · exact h.text t ht
 rw [List.mem_singleton.1 ht];exact h.text bs hb
theorem TQ.put {x:SR} {P:List (List UInt8)} (h:TQ Q x P) {bs:List UInt8} (ht:bs∈Q) (hn:asc x.C (fpOf bs)=none) (d:BD):TQ Q (putS x (fpOf bs) d bs) (P++[bs]):=by
 have hni:fpOf bs ∉ P.map fpOf:=fun hm=>by
  have:=h.has (fpOf bs);rw [hn] at this;simp [hm] at this
 refine ⟨fun i=>?_,fun t hm=>?_,fun t hm=>?_⟩
 · show (asc (setL x.C (fpOf bs) (Pl.pend d bs)) i).isSome=_;rw [asc_setL];by_cases e:fpOf bs=i
   · rw [if_pos e];simp [e]
   rw [if_neg e,h.has i];congr 1
   simp only [List.map_append,zB,List.map_nil,List.mem_append,List.mem_singleton,eq_iff_iff];constructor
   · exact .inl
   rintro (h1 | h1)
   · exact h1
   exact absurd h1.symm e
 · rw [put_val];rcases List.mem_append.1 hm with hm | hm
   · rw [if_neg (fun e=>hni (by rw [e];exact List.mem_map.2 ⟨t,hm,rfl⟩))];exact h.val t hm
   rw [List.mem_singleton.1 hm,if_pos rfl]
 rcases List.mem_append.1 hm with hm | hm
 · exact h.text t hm
 rw [List.mem_singleton.1 hm];exact ht
theorem TQ.flush {x x':SR} {P:List (List UInt8)} (h:TQ Q x P) (ha:Flushed x x'):TQ Q x' P:=⟨fun i=>(ha.has i).trans (h.has i),fun bs hb=>(ha.val _).trans (h.val bs hb),h.text⟩
def ShutQ (Q:List (List UInt8)) (s:St) (nm:ByteArray) (P:List (List UInt8)):Prop:=
 ∃ cs:List (List UInt8),(cs.map fpOf).Nodup/\(∀ c,c∈cs↔c∈P)/\(∀ c∈cs,c∈Q)/\(s.now (fileN nm)=some (layB 0 cs)∨(s.now (fileN nm)=none/\cs=[]))
theorem TS.lay (hQ:TS Q) {cs:List (List UInt8)} (hn:(cs.map fpOf).Nodup) (ht:∀ c∈cs,c∈Q):cs.length<=49/\layN cs<=50372:=by
 have h1:=hQ.few cs (List.Pairwise.of_map _ (fun a b h e=>h (by rw [e])) hn) ht
 have h2:∀ cs:List (List UInt8),(∀ c∈cs,c∈Q)->layN cs<=1028*cs.length:=by
  intro cs;induction cs with
  | nil=>intro _;simp [layN]
  | cons c cs ih=>
   intro ht;have e:layN (c::cs)=28+c.length+layN cs:=by simp [layN]
   have:=ih (fun d hd=>ht d (zA _ hd));have:=hQ.hi c (ht c (by simp));rw [e,List.length_cons];omega
 have:=h2 cs ht;omega
theorem shutQ_of {ns:List ByteArray} {x:SR} {P:List (List UInt8)} (h:Cl ns x) (hL:LayS x) (hQ:TS Q) (hT:TQ Q x P) (hd:∀ c∈x.C,∃ o,c.2=Pl.at o):ShutQ Q x.s x.nm P:=by
 have hkey:∀ i,i∈x.C.map (·.1)↔i∈P.map fpOf:=fun i=>by rw [<- asc_key,hT.has i];simp
 cases hF:x.F with
 | none=>
  obtain ⟨h1,h2⟩:=h.no hF
  have hC:x.C=[]:=by
   cases hC:x.C with
   | nil=>rfl
   | cons c C=>
    exfalso
    obtain ⟨o,e⟩:=hd c (by rw [hC];simp);obtain ⟨i,pl⟩:=c;simp only at e;subst e;exact h2 i o (by rw [hC];simp)
  refine ⟨[],by simp,fun c=>⟨fun hc=>(by cases hc),fun hc=>?_⟩,fun c hc=>(by cases hc),.inr ⟨h1,rfl⟩⟩;have:=(hkey (fpOf c)).2 (List.mem_map.2 ⟨c,hc,rfl⟩);rw [hC] at this;cases this
 | some f=>
  obtain ⟨D,h1,cs,h2,h3,h4,h5⟩:=hL f hF
  have hin:∀ c∈cs,c∈P:=fun c hc=>by
   have hk:fpOf c∈(layC 0 cs).map (·.1):=by rw [layC_keys];exact List.mem_map.2 ⟨c,hc,rfl⟩
   obtain ⟨⟨i,pl⟩,hm,e⟩:=List.mem_map.1 hk;simp only at e;subst e;obtain ⟨o,e⟩:=layC_at cs 0 _ hm;simp only at e;subst e;have hmC:=(h5 _ o).2 hm;obtain ⟨t,ht,e⟩:=List.mem_map.1 ((hkey (fpOf c)).1 (List.mem_map.2 ⟨_,hmC,rfl⟩));have hv:=hT.val t ht;obtain ⟨d,hd1,hd2,hd3,hd4⟩:=cut_lay cs [] (fpOf c) o hm;simp only [List.length_nil,List.nil_append] at hd3 hd4;obtain ⟨_,D',k1,_,k3⟩:=h.file f hF;rw [h1] at k1;injection k1 with k1;subst k1;have ha:=asc_mem h.keys hmC
   have hvc:valC x (fpOf c)=some (cutB D (fpOf c) o):=by
    unfold valC;rw [ha];exact read_at h.up h.nv h1 (k3 _ o hmC)
   rw [e,hvc,h2,hd3] at hv;injection hv with hv;subst hv
   have hcd:c=d:=by
    exact inj_of_nodup fpOf cs h4 c hc d hd1 hd2
   subst hcd;exact ht
  refine ⟨cs,h4,fun c=>⟨hin c,fun hc=>?_⟩,fun c hc=>hT.text c (hin c hc),.inl (by rw [h1,h2])⟩;have hk:=(hkey (fpOf c)).2 (List.mem_map.2 ⟨c,hc,rfl⟩);obtain ⟨⟨i,pl⟩,hm,e⟩:=List.mem_map.1 hk;simp only at e;subst e;obtain ⟨o,e⟩:=hd _ hm;simp only at e;subst e;obtain ⟨d,hd1,hd2,_⟩:=cut_lay cs [] _ o ((h5 _ o).1 hm);have:=hQ.inj c (hT.text c hc) d (hT.text d (hin d hd1)) hd2;rw [this];exact hd1
structure OpenedQ (Q:List (List UInt8)) (ns:List ByteArray) (x:SR) (P:List (List UInt8)):Prop where
 cl:Cl ns x
 lay:LayS x
 tx:TQ Q x P
 done:∀ c∈x.C,∃ o,c.2=Pl.at o
theorem openQ_shut {ns:List ByteArray} {s:St} {nm:ByteArray} {P:List (List UInt8)} (hQ:TS Q) (hD:DI ns s) (hs:ShutQ Q s nm P) (hn:nameV nm=true) (hm:fileN nm∈ns) {p H:Nat} {r:Rp} {C:Chs} {F:Option FR} (hx:OpenedX s nm ((s.now (fileN nm)).getD []) C F):OpenedQ Q ns (openedX p r s nm H C F) P:=by
 obtain ⟨cs,c1,c2,c3,c4⟩:=hs;obtain ⟨f1,f2⟩:=hQ.lay c1 c3
 have hmap:∀ i,i∈cs.map fpOf↔i∈P.map fpOf:=fun i=>by
  constructor
  · intro h;obtain ⟨c,hc,e⟩:=List.mem_map.1 h;exact List.mem_map.2 ⟨c,(c2 c).1 hc,e⟩
  intro h;obtain ⟨c,hc,e⟩:=List.mem_map.1 h;exact List.mem_map.2 ⟨c,(c2 c).2 hc,e⟩
 have hCF:C=layC 0 cs/\((F=none/\s.now (fileN nm)=none/\cs=[])∨(s.now (fileN nm)=some (layB 0 cs)/\∃ fb sb,F=some ⟨fb,sb,layN cs,true,[]⟩)):=by
  rcases c4 with h1 | ⟨h1,h2⟩
  · rcases hx with ⟨k1,_⟩ | ⟨_,fb,sb,k1,k2⟩
    · rw [h1] at k1;cases k1
    rw [h1,Option.getD_some,scan_lay0 cs (fun c hc=>by have:=hQ.lo c (c3 c hc);have:=hQ.hi c (c3 c hc);omega) c1] at k1 k2;exact ⟨k1,.inr ⟨h1,fb,sb,by rw [k2,layB_len]⟩⟩
  rcases hx with ⟨_,k1,k2⟩ | ⟨k1,_⟩
  · subst h2;exact ⟨k1,.inl ⟨k2,h1,rfl⟩⟩
  rw [h1] at k1;cases k1
 obtain ⟨rfl,hF⟩:=hCF;have hk:((layC 0 cs).map (·.1)).Nodup:=by rw [layC_keys];exact c1
 have hmem:∀ i pl,(i,pl)∈layC 0 cs->∃ c o,c∈cs/\i=fpOf c/\pl= .at o/\cutB (layB 0 cs) i o=c/\o+28+c.length<=layN cs:=fun i pl h=>by
  obtain ⟨o,e⟩:=layC_at cs 0 _ h;simp only at e;subst e;obtain ⟨c,h1,h2,h3,h4⟩:=cut_lay cs [] i o h;simp only [List.length_nil,List.nil_append] at h3 h4;rw [layB_len] at h4;exact ⟨c,o,h1,h2,rfl,h3,h4⟩
 have hcut:∀ i o,(i,Pl.at o)∈layC 0 cs->cutOk (layB 0 cs) i o=true:=fun i o h=>by
  obtain ⟨c,o',h1,h2,h3,h4,h5⟩:=hmem i _ h;injection h3 with h3;subst h3;unfold cutOk;rw [h4,layB_len,h2];simp only [Bool.and_eq_true,decide_eq_true_eq,and_true];have:(fpOf c).2=(c.length:Int):=rfl;omega
 have hfl:flen F<=layN cs/\(∀ f,F=some f->f.T=[]/\f.clean=true/\f.len=layN cs/\s.now (fileN nm)=some (layB 0 cs))/\(F=none->s.now (fileN nm)=none/\cs=[])/\layN cs<=flen F:=by
  rcases hF with ⟨rfl,h1,h2⟩ | ⟨h1,fb,sb,rfl⟩
  · exact ⟨by simp [flen],(fun f hf=>by cases hf),fun _=>⟨h1,h2⟩,by rw [h2];simp [layN]⟩
  exact ⟨Nat.le_refl _,(fun f hf=>by injection hf with hf;subst hf;exact ⟨rfl,rfl,rfl,h1⟩),(fun hf=>by cases hf),Nat.le_refl _⟩
 obtain ⟨g1,g2,g3,g4⟩:=hfl
 have hlen:(layC 0 cs).length=cs.length:=by
  have:=congrArg List.length (layC_keys 0 cs);simpa using this
 have hid:∀ c∈layC 0 cs,1<=c.1.2/\c.1.2<=1000:=fun c hc=>by
  obtain ⟨i,pl⟩:=c;obtain ⟨d,o,h1,h2,_⟩:=hmem i pl hc;have:=hQ.lo d (c3 d h1);have:=hQ.hi d (c3 d h1);have e:(fpOf d).2=(d.length:Int):=rfl;show 1<=i.2/\i.2<=1000;rw [h2,e];omega
 refine ⟨?_,?_,?_,layC_at cs 0⟩
 · exact {
    live:=rfl
    up:=hD.up
    name:=by have:=nameV_size hn;simp only [openedX];omega
    few:=by simp only [openedX,hlen];omega
    ids:=fun c hc=>by have:=hid c hc;omega
    offs:=fun i o hc=>by
     obtain ⟨d,o',h1,h2,h3,_,h5⟩:=hmem i _ hc;injection h3 with h3;omega
    pends:=fun i d bs hc=>by obtain ⟨q,e⟩:=layC_at cs 0 _ hc;cases e
    whole:=fun f hf=>(g2 f hf).2.1
    own:=fun i d bs hc=>by obtain ⟨q,e⟩:=layC_at cs 0 _ hc;cases e
    ops:=hD.ops
    files:=fun n hn=>hD.cnt hn
    ids8:=fun c hc=>by have:=hid c hc;omega
    wait0:=by simp [openedX]
    wait1:=by simp [openedX]
    keys:=hk
    f0:=hD.f0
    nv:=hn
    ns1:=hm
    ns2:=hD.ns2
    ns3:=hD.ns3
    no:=fun hf=>⟨(g3 hf).1,fun i o hc=>by
     obtain ⟨d,o',h1,_⟩:=hmem i _ hc;rw [(g3 hf).2] at h1;cases h1⟩
    file:=fun f hf=>⟨(g2 f hf).1,layB 0 cs,(g2 f hf).2.2.2,by rw [layB_len,(g2 f hf).2.2.1],hcut⟩
    len:=by simp only [openedX];omega
    waits:=by
     simp only [openedX];rw [layC_pends];rfl
    pA:=fun i d bs hc=>by obtain ⟨q,e⟩:=layC_at cs 0 _ hc;cases e
    size:=rfl
    frames:=by
     simp only [openedX];rw [layC_sum];exact g4 }
 · intro f hf;exact ⟨layB 0 cs,(g2 f hf).2.2.2,cs,rfl,fun c hc=>by have:=hQ.lo c (c3 c hc);have:=hQ.hi c (c3 c hc);omega,c1,fun i o=>Iff.rfl⟩
 refine ⟨fun i=>?_,fun bs hb=>?_,fun bs hb=>c3 bs ((c2 bs).2 hb)⟩
 · rw [Bool.eq_iff_iff,decide_eq_true_eq, <- hmap i, <- layC_keys 0 cs];exact asc_key
 have hbc:=(c2 bs).2 hb;have hkk:fpOf bs∈(layC 0 cs).map (·.1):=by rw [layC_keys];exact List.mem_map.2 ⟨bs,hbc,rfl⟩
 obtain ⟨⟨i,pl⟩,h,e⟩:=List.mem_map.1 hkk;simp only at e;subst e;obtain ⟨c,o,h1,h2,rfl,h4,h5⟩:=hmem _ _ h;have hcb:bs=c:=inj_of_nodup fpOf cs c1 bs hbc c h1 h2
 have hnow:s.now (fileN nm)=some (layB 0 cs):=by
  rcases hF with ⟨_,_,h9⟩ | ⟨h9,_⟩
  · rw [h9] at h1;cases h1
  exact h9
 unfold valC;simp only [openedX];rw [asc_mem hk h];simp only [Option.bind_some];rw [read_at hD.up hn hnow (hcut _ _ h),h4,hcb]
end
section
open Go.RowKit Go.MapKept Go.ChangeMaps
theorem roadd_any (a b:Nat) (w:World) (ha:a<2305843009213693951) (hb:b<2305843009213693951):Calls Tryz.prog 293 #[.int .u64 (a:Int),.int .u64 (b:Int)] w fun e w'=>e= .returned (.int .u64 (((a+b) % pP:Nat):Int))/\w=w':=by
 by_cases h:a+b<2305843009213693951
 · have e1:Hid ((a+b) % pP=a+b):=Nat.mod_eq_of_lt h;have h':¬ (2305843009213693951<=(a:Int)+b):=by omega
   go_enter Tryz.func293,Tryz.ntmps293;go_wp2
   go_ret;exact rint_u (q:=a+b) e1.out rfl
 have e1:Hid ((a+b) % pP=a+b-2305843009213693951):=by
  rw [Hid,Nat.mod_eq_sub_mod (by unfold pP;omega)];exact Nat.mod_eq_of_lt (by unfold pP;omega)
 have h':2305843009213693951<=(a:Int)+b:=by omega
 go_enter Tryz.func293,Tryz.ntmps293;go_wp2
 go_ret;have e2:((a+b-2305843009213693951:Nat):Int)=(a:Int)+b-2305843009213693951:=by omega
 rw [e1.out,e2];exact ⟨rfl,rfl⟩
theorem romul_any (a b:Nat) (w:World) (ha:a<2305843009213693951) (hb:b<2305843009213693951):Calls Tryz.prog 292 #[.int .u64 (a:Int),.int .u64 (b:Int)] w fun e w'=>e= .returned (.int .u64 (((a*b) % pP:Nat):Int))/\w=w':=by
 have HP:=kh (prod_lt ha hb);go_enter Tryz.func292,Tryz.ntmps292;go_wp2_with (first | (go_at_call 185;refine (Tryz.bits_Mul64 a b (by omega) (by omega) _).mono ?_;rintro e w' ⟨rfl,hw⟩;rw [hw]) | (go_at_call 293;refine halt_q ?_))
 have e1:=mul_lo (a*b);have e2:=mul_hi (a*b) HP.out;rw [Int.natCast_mul] at e1 e2
 have e3:(((a*b / 18446744073709551616*8+a*b % 18446744073709551616 / 2305843009213693952:Nat):Int)).tmod 2305843009213693951=(((a*b / 18446744073709551616*8+a*b % 18446744073709551616 / 2305843009213693952) % pP:Nat):Int):=by
  rw [Int.tmod_eq_emod_of_nonneg (by omega)];unfold pP;omega
 rw [e2,e1,e3];refine (roadd_any (a*b % 18446744073709551616 % 2305843009213693952 % pP) ((a*b / 18446744073709551616*8+a*b % 18446744073709551616 / 2305843009213693952) % pP) w (Nat.mod_lt _ pP_pos) (Nat.mod_lt _ pP_pos)).mono ?_;rintro e w' ⟨rfl,rfl⟩;rw [mul_sum _ HP.out];clear e1 e2 e3;go_wp2_with fail
 go_ret;exact ⟨rfl,rfl⟩
theorem power0_any (w:World):Calls Tryz.prog 291 #[.int .i64 0] w fun e w'=>e= .returned (.int .u64 1)/\w=w':=by
 have HB:Hid (∀ w,Calls Tryz.prog 151 #[.int .u64 0] w fun e w'=>e= .returned (.int .i64 0)/\w=w'):=fun w=>(Tryz.bits_Len 0 w (by omega) (by omega)).mono (fun e w' h=>⟨by rw [h.1];rfl,h.2.symm⟩);go_enter Tryz.func291,Tryz.ntmps291;go_wp2_with (go_at_call 151;(with_reducible refine (HB.out _).mono ?_);rintro e w1 ⟨rfl,rfl⟩)
 refine wp_loop_rounds 1 ?_;rw [rounds_succ];go_wp2_with fail
 go_ret;exact ⟨rfl,rfl⟩
def rollC (x cnt sum:Int):Array Value:=⟨.int .u8 x::(List.replicate 63 (.int .u8 0)++[.int .i64 1,.int .i64 cnt,.int .i64 0,.int .u64 sum,.int .u64 1])⟩
section
variable {b:Nat} {w0 w:World} {l:List Ob}
theorem rollNew_any (h:SW b w0 l w):Calls Tryz.prog 261 #[.int .i64 1] w (fun e w'=>∃ g,e= .returned (.tuple #[vPtr g,.int .i64 0])/\SW b w0 (cellOb g 361 (rollC 0 0 0)::l) w'):=by
 have S:=kh h;have HP:=kh power0_any;clear h;go_enter Tryz.func261,Tryz.ntmps261;go_wp2_with (go_at_call 291;(with_reducible refine (HP.out _).mono ?_);rintro e w1 ⟨rfl,rfl⟩)
 go_ret2;exact ⟨_,rfl,S.out.newCell 361 (rollC 0 0 0)⟩
theorem cutCheck_any (mn mx mk:Int) (w:World) (h1:1<=mn) (h2:mn<=mx) (h3:mx<=8192):Calls Tryz.prog 260 #[.agg #[.int .i64 mn,.int .i64 mx,.int .i64 1,.int .u64 mk]] w (fun e w'=>e= .returned (.int .i64 0)/\Below w.heap.size w w'):=by
 go_enter Tryz.func260,Tryz.ntmps260;go_wp2_with fail
 go_ret;exact ⟨rfl,bel1q _ _⟩
end
end
section
open Go.RowKit Go.MapKept Go.ChangeMaps
attribute [local go_sem] wext_cell
section
variable {b:Nat} {w0 w:World} {l:List Ob} {gr:Nat}
theorem SW.rollAt {x c s:Int} (h:SW b w0 (cellOb gr 361 (rollC x c s)::l) w):w.cell? ⟨gr,0,none⟩=some (.int .u8 x)/\w.cell? ⟨gr,64,none⟩=some (.int .i64 1)/\w.cell? ⟨gr,65,none⟩=some (.int .i64 c)/\w.cell? ⟨gr,66,none⟩=some (.int .i64 0)/\w.cell? ⟨gr,67,none⟩=some (.int .u64 s)/\w.cell? ⟨gr,68,none⟩=some (.int .u64 1)/\gr<w.heap.size/\∀ j,w.frozen? ⟨gr,j,none⟩=false:=
 have k:=h.cell 0 rfl;⟨k.cell 0,k.cell 64,k.cell 65,k.cell 66,k.cell 67,k.cell 68,k.lt,fun j=>k.frozen j⟩
theorem rollPush0 (h:SW b w0 (cellOb gr 361 (rollC 0 0 0)::l) w) (y:Nat) (hy:y<=255):Calls Tryz.prog 262 #[vPtr gr,.int .u8 (y:Int)] w (fun e w'=>e= .returned (.int .u64 ((y:Int)+1))/\SW b w0 (cellOb gr 361 (rollC y 1 ((y:Int)+1))::l) w'):=by
 have S:=kh h;obtain ⟨c0,c64,c65,c66,c67,c68,hlt,hf⟩:=h.rollAt;clear h;have hwy:IntKind.u64.wrap (y:Int)=(y:Int):=by rw [IntKind.wrap_u64];omega
 have hwy1:IntKind.u64.wrap ((y:Int)+1)=(y:Int)+1:=by rw [IntKind.wrap_u64];omega
 have HM:Hid (∀ w,Calls Tryz.prog 292 #[.int .u64 0,.int .u64 747382712868975713] w fun e w'=>e= .returned (.int .u64 0)/\w=w'):=fun w=>(romul_any 0 747382712868975713 w (by omega) (by omega)).mono fun _ _ h=>⟨by rw [h.1];rfl,h.2⟩;have HA:Hid (∀ w,Calls Tryz.prog 293 #[.int .u64 0,.int .u64 ((y:Int)+1)] w fun e w'=>e= .returned (.int .u64 ((y:Int)+1))/\w=w'):=fun w=>(roadd_any 0 (y+1) w (by omega) (by omega)).mono fun _ _ h=>⟨by rw [h.1,Nat.zero_add,Nat.mod_eq_of_lt (by unfold pP;omega)];rfl,h.2⟩;go_enter Tryz.func262,Tryz.ntmps262;go_upto_region 1 with fail
 go_region
 go_upto_region 5 with fail
 have S1:Hid (SW b w0 (cellOb gr 361 (rollC 0 1 0)::l) _):=(S.out.setAt 0 rfl 65 (.int .i64 1)).drew;generalize (World.setCell _ _ _).drew=W1 at S1 |-; clear c0 c64 c65 c66 c67 c68 hlt hf S;obtain ⟨c0,c64,c65,c66,c67,c68,hlt,hf⟩:=S1.out.rollAt;go_region
 have S2:Hid (SW b w0 (cellOb gr 361 (rollC y 1 0)::l) _):=(S1.out.setAt 0 rfl 0 (.int .u8 y)).drew;go_upto_region 6 with fail
 generalize (World.setCell _ _ _).drew=W2 at S2 |-; clear c0 c64 c65 c66 c67 c68 hlt hf S1;obtain ⟨c0,c64,c65,c66,c67,c68,hlt,hf⟩:=S2.out.rollAt;go_region
 have S3:Hid (SW b w0 (cellOb gr 361 (rollC y 1 0)::l) _):=(S2.out.setAt 0 rfl 66 (.int .i64 0)).drew;go_upto_region 7 with fail
 generalize (World.setCell _ _ _).drew=W3 at S3 |-; clear c0 c64 c65 c66 c67 c68 hlt hf S2;obtain ⟨c0,c64,c65,c66,c67,c68,hlt,hf⟩:=S3.out.rollAt;go_wp2_with (first | (go_at_call 292;(with_reducible refine (HM.out _).mono ?_);rintro e w1 ⟨rfl,rfl⟩) | (go_at_call 293;(with_reducible refine (HA.out _).mono ?_);rintro e w1 ⟨rfl,rfl⟩))
 go_ret;exact ⟨rfl,S3.out.setAt 0 rfl 67 (.int .u64 ((y:Int)+1))⟩
theorem rollPush1 (x:Nat) (hx:x<=255) (z:Int) (hz:z=(x:Int)+1) (h:SW b w0 (cellOb gr 361 (rollC x 1 z)::l) w) (y:Nat) (hy:y<=255):Calls Tryz.prog 262 #[vPtr gr,.int .u8 (y:Int)] w (fun e w'=>e= .returned (.int .u64 ((y:Int)+1))/\SW b w0 (cellOb gr 361 (rollC y 1 ((y:Int)+1))::l) w'):=by
 have S:=kh h;obtain ⟨c0,c64,c65,c66,c67,c68,hlt,hf⟩:=h.rollAt;clear h;have hwx:IntKind.u64.wrap (x:Int)=(x:Int):=by rw [IntKind.wrap_u64];omega
 have hwx1:IntKind.u64.wrap ((x:Int)+1)=z:=by rw [IntKind.wrap_u64];omega
 have hz1:1<=z:=by omega
 have hz2:z<=256:=by omega
 obtain ⟨q,HQ⟩:∃ q:Int,Hid (2305843009213693951-z=q):=⟨_,rfl⟩;have hws:IntKind.u64.wrap (2305843009213693951-z)=q:=by rw [IntKind.wrap_u64];have:=HQ.out;omega
 have htm:q.tmod 2305843009213693951=q:=by have:=HQ.out;rw [Int.tmod_eq_emod_of_nonneg (by omega)];omega
 have hwy:IntKind.u64.wrap (y:Int)=(y:Int):=by rw [IntKind.wrap_u64];omega
 have hwy1:IntKind.u64.wrap ((y:Int)+1)=(y:Int)+1:=by rw [IntKind.wrap_u64];omega
 have HO:Hid (∀ w,Calls Tryz.prog 292 #[.int .u64 z,.int .u64 1] w fun e w'=>e= .returned (.int .u64 z)/\w'=w):=fun w=>by
  have h:=romul_any (x+1) 1 w (by omega) (by omega);rw [Nat.mul_one,Nat.mod_eq_of_lt (by unfold pP;omega)] at h;rw [hz];exact h.mono fun _ _ h=>⟨h.1,h.2.symm⟩
 have HS:Hid (∀ w,Calls Tryz.prog 293 #[.int .u64 z,.int .u64 q] w fun e w'=>e= .returned (.int .u64 0)/\w=w'):=fun w=>by
  have h:=roadd_any (x+1) (2305843009213693951-(x+1)) w (by omega) (by omega);have e:((2305843009213693951-(x+1):Nat):Int)=q:=by have:=HQ.out;omega
  have e3:((x+1:Nat):Int)=z:=by omega
  have e2:(x+1+(2305843009213693951-(x+1))) % pP=0:=by
   rw [show x+1+(2305843009213693951-(x+1))=pP by unfold pP;omega,Nat.mod_self]
  rw [e,e2,e3] at h;exact h
 have HM:Hid (∀ w,Calls Tryz.prog 292 #[.int .u64 0,.int .u64 747382712868975713] w fun e w'=>e= .returned (.int .u64 0)/\w=w'):=fun w=>(romul_any 0 747382712868975713 w (by omega) (by omega)).mono fun _ _ h=>⟨by rw [h.1];rfl,h.2⟩;have HA:Hid (∀ w,Calls Tryz.prog 293 #[.int .u64 0,.int .u64 ((y:Int)+1)] w fun e w'=>e= .returned (.int .u64 ((y:Int)+1))/\w=w'):=fun w=>(roadd_any 0 (y+1) w (by omega) (by omega)).mono fun _ _ h=>⟨by rw [h.1,Nat.zero_add,Nat.mod_eq_of_lt (by unfold pP;omega)];rfl,h.2⟩;clear hz;go_enter Tryz.func262,Tryz.ntmps262;go_upto_region 1 with fail
 go_region
 go_upto_region 2 with fail
 have S0:=kh S.out.drew;generalize w.drew=W0 at S0 |-; clear c0 c64 c65 c66 c67 c68 hlt hf S;obtain ⟨c0,c64,c65,c66,c67,c68,hlt,hf⟩:=S0.out.rollAt;go_quiet ((go_at_call 292;exact Calls.quiet_of_same (HO.out _)))
 have S1:=kh (S0.out.on (bdrewN (Below.refl _ _) nq));generalize W0.drewN nq=W1 at S1 |-; clear c0 c64 c65 c66 c67 c68 hlt hf S0;obtain ⟨c0,c64,c65,c66,c67,c68,hlt,hf⟩:=S1.out.rollAt;go_upto_region 4 with (go_at_call 293;(with_reducible refine (HS.out _).mono ?_);rintro e w1 ⟨rfl,rfl⟩)
 have S2:Hid (SW b w0 (cellOb gr 361 (rollC x 1 0)::l) _):=S1.out.setAt 0 rfl 67 (.int .u64 0);go_upto_region 5 with fail
 generalize World.setCell _ _ _=W2 at S2 |-; clear c0 c64 c65 c66 c67 c68 hlt hf S1;obtain ⟨c0,c64,c65,c66,c67,c68,hlt,hf⟩:=S2.out.rollAt;go_region
 have S3:Hid (SW b w0 (cellOb gr 361 (rollC y 1 0)::l) _):=(S2.out.setAt 0 rfl 0 (.int .u8 y)).drew;go_upto_region 6 with fail
 generalize (World.setCell _ _ _).drew=W3 at S3 |-; clear c0 c64 c65 c66 c67 c68 hlt hf S2;obtain ⟨c0,c64,c65,c66,c67,c68,hlt,hf⟩:=S3.out.rollAt;go_region
 have S4:Hid (SW b w0 (cellOb gr 361 (rollC y 1 0)::l) _):=(S3.out.setAt 0 rfl 66 (.int .i64 0)).drew;go_upto_region 7 with fail
 generalize (World.setCell _ _ _).drew=W4 at S4 |-; clear c0 c64 c65 c66 c67 c68 hlt hf S3;obtain ⟨c0,c64,c65,c66,c67,c68,hlt,hf⟩:=S4.out.rollAt;go_wp2_with (first | (go_at_call 292;(with_reducible refine (HM.out _).mono ?_);rintro e w1 ⟨rfl,rfl⟩) | (go_at_call 293;(with_reducible refine (HA.out _).mono ?_);rintro e w1 ⟨rfl,rfl⟩))
 go_ret;exact ⟨rfl,S4.out.setAt 0 rfl 67 (.int .u64 ((y:Int)+1))⟩
def RollI (x c s:Int):Prop:=(x=0/\c=0/\s=0)∨(∃ k:Nat,k<=255/\x=k/\c=1/\s=(k:Int)+1)
theorem rollPush {x c s:Int} (hr:RollI x c s) (h:SW b w0 (cellOb gr 361 (rollC x c s)::l) w) (y:Nat) (hy:y<=255):Calls Tryz.prog 262 #[vPtr gr,.int .u8 (y:Int)] w (fun e w'=>e= .returned (.int .u64 ((y:Int)+1))/\SW b w0 (cellOb gr 361 (rollC y 1 ((y:Int)+1))::l) w'):=by
 rcases hr with ⟨rfl,rfl,rfl⟩ | ⟨k,hk,rfl,rfl,rfl⟩
 · exact rollPush0 h y hy
 exact rollPush1 k hk _ rfl h y hy
end
end
section
open Go.RowKit Go.MapKept Go.ChangeMaps
attribute [local go_sem] wext_cell
structure CutP where
 mn:Int
 mx:Int
 ma:Int
structure CutP.Ok (c:CutP):Prop where
 m1:1<=c.mn
 m2:c.mn<=c.mx
 m3:c.mx<=8192
abbrev CutP.val (c:CutP):Value:=.agg #[.int .i64 c.mn,.int .i64 c.mx,.int .i64 1,.int .u64 c.ma]
def CutP.ends (c:CutP) (n:Nat) (y:Nat):Bool:= !(decide ((n:Int)<c.mn)||(decide ((n:Int)<c.mx)&&(bits .and .u64 c.ma ((y:Int)+1) !=0)))
abbrev scC (c:CutP) (gr:Nat) (n:Int):Array Value:= #[.int .i64 c.mn,.int .i64 c.mx,.int .i64 1,.int .u64 c.ma,vPtr gr,.int .i64 n]
section
variable {b:Nat} {w0 w:World} {l:List Ob} {gr gs:Nat}
theorem scan_new (h:SW b w0 l w) (c:CutP) (hc:c.Ok):Calls Tryz.prog 213 #[c.val] w (fun e w'=>∃ gs gr,e= .returned (.tuple #[vPtr gs,.int .i64 0])/\SW b w0 (cellOb gs 292 (scC c gr 0)::cellOb gr 361 (rollC 0 0 0)::l) w'):=by
 have S0:=kh (h.newCell 85 #[.int .i64 c.mn,.int .i64 c.mx,.int .i64 1,.int .u64 c.ma]);have HCK:=kh (fun W=>cutCheck_any c.mn c.mx c.ma W hc.m1 hc.m2 hc.m3);clear h hc;go_enter Tryz.func213,Tryz.ntmps213;go_upto_region 1 with fail
 generalize w.alloc _=W1 at S0 |-; generalize w.heap.size=g1 at S0 |-; have k0:=(S0.out.cell 0 rfl).cell 0;have k1:=(S0.out.cell 0 rfl).cell 1;have k2:=(S0.out.cell 0 rfl).cell 2;have k3:=(S0.out.cell 0 rfl).cell 3;go_wp2_with (go_at_call 260;(with_reducible refine (HCK.out _).mono ?_);refine halt_ ?_)
 rintro e w2 ⟨rfl,hb2⟩;have S2:=kh (S0.out.on hb2);have HRN:=kh (rollNew_any S2.out);clear hb2 HCK S0 k0 k1 k2 k3;have k0:=(S2.out.cell 0 rfl).cell 0;have k1:=(S2.out.cell 0 rfl).cell 1;have k2:=(S2.out.cell 0 rfl).cell 2;have k3:=(S2.out.cell 0 rfl).cell 3;go_wp2_with (go_at_call 261;(with_reducible refine HRN.out.mono ?_);refine halt_ ?_)
 rintro e w3 ⟨gr,rfl,s3⟩;have S3:=kh s3;clear s3 HRN S2 k0 k1 k2 k3;have k0:=(S3.out.cell 1 rfl).cell 0;have k1:=(S3.out.cell 1 rfl).cell 1;have k2:=(S3.out.cell 1 rfl).cell 2;have k3:=(S3.out.cell 1 rfl).cell 3;go_wp2_with fail
 go_ret2;refine ⟨w3.heap.size,gr,rfl,?_⟩;have:=S3.out.newCell 292 (scC c gr 0);exact this.sub (List.Sublist.cons_cons _ (List.Sublist.cons_cons _ (List.sublist_cons_self _ _)))
theorem scan_push {x cn s:Int} (hr:RollI x cn s) (c:CutP) (n:Nat) (hn:n<=1000000) (h:SW b w0 (cellOb gs 292 (scC c gr n)::cellOb gr 361 (rollC x cn s)::l) w) (y:Nat) (hy:y<=255):
 Calls Tryz.prog 214 #[vPtr gs,.int .u8 (y:Int)] w (fun e w'=>e= .returned (.bool (c.ends (n+1) y))/\SW b w0 (cellOb gs 292 (scC c gr (if c.ends (n+1) y then 0 else (n:Int)+1))::cellOb gr 361 (rollC y 1 ((y:Int)+1))::l) w'):=by
 have S0:=kh h;have HPU:=kh (rollPush hr (SW.front (pre:=[_,_]) h [1,0] (n:=2) rfl (by decide)) y hy);have k4:=(h.cell 0 rfl).cell 4;obtain ⟨t,HT⟩:∃ t:Bool,Hid ((bits .and .u64 c.ma ((y:Int)+1) !=0)=t):=⟨_,rfl⟩;have ht:=HT.out;obtain ⟨v,HV⟩:∃ v:Bool,Hid (v= !(decide ((n:Int)+1<c.mn)||(decide ((n:Int)+1<c.mx)&&t))):=⟨_,rfl⟩
 have hev:c.ends (n+1) y=v:=by
  rw [HV.out, <- ht];rfl
 rw [hev];clear h hr HT hev;go_enter Tryz.func214,Tryz.ntmps214;go_upto_region 1 with fail
 go_wp2_with (go_at_call 262;(with_reducible refine HPU.out.mono ?_);refine halt_ ?_)
 rintro e w1 ⟨rfl,s1⟩;have S1:=kh (SW.front (pre:=[_,_]) s1 [1,0] (n:=2) rfl (by decide));clear s1 HPU S0 k4;have k5:=(S1.out.cell 0 rfl).cell 5;have f5:=(S1.out.cell 0 rfl).frozen 5;go_upto_region 3 with fail
 have S2:Hid (SW b w0 (cellOb gs 292 (scC c gr ((n:Int)+1))::cellOb gr 361 (rollC y 1 ((y:Int)+1))::l) _):=S1.out.setAt 0 rfl 5 (.int .i64 ((n:Int)+1));generalize World.setCell _ _ _=W2 at S2 |-; clear k5 f5 S1;have k0:=(S2.out.cell 0 rfl).cell 0;have k1:=(S2.out.cell 0 rfl).cell 1;have k3:=(S2.out.cell 0 rfl).cell 3;have k5:=(S2.out.cell 0 rfl).cell 5;have f5:=(S2.out.cell 0 rfl).frozen 5;cases d1:decide ((n:Int)+1<c.mn) with
 | true=>
  obtain rfl:v=false:=by rw [HV.out,d1];rfl
  clear HV;go_region
  go_wp2_with fail
  go_ret;exact ⟨rfl,S2.out.drew⟩
 | false=>
  cases d2:decide ((n:Int)+1<c.mx) with
  | false=>
   obtain rfl:v=true:=by rw [HV.out,d1,d2];rfl
   clear HV;go_region
   go_wp2_with fail
   go_ret;exact ⟨rfl,S2.out.drew.setAt 0 rfl 5 (.int .i64 0)⟩
  | true=>
   cases t with
   | true=>
    obtain rfl:v=false:=by rw [HV.out,d1,d2];rfl
    clear HV;go_region
    go_wp2_with fail
    go_ret;exact ⟨rfl,S2.out.drew⟩
   | false=>
    obtain rfl:v=true:=by rw [HV.out,d1,d2];rfl
    clear HV;go_region
    go_wp2_with fail
    go_ret;exact ⟨rfl,S2.out.drew.setAt 0 rfl 5 (.int .i64 0)⟩
end
end
end Go.Proofs.YteabgcollokgjaaGreatDoor
