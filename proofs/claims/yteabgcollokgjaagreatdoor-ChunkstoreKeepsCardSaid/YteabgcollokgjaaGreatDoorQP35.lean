/- Q -/
import Derived.Test.YteabgcollokgjaaGreatDoorQP34
set_option linter.unusedSimpArgs false
set_option linter.unusedVariables false
set_option maxRecDepth 100000
set_option maxHeartbeats 32000000
open Go.Lib (hid)
open List renaming length_append → zA,length_cons → zB,take_append_drop → zC,append_assoc → zD,getElem?_cons_zero → zE
namespace Go.Proofs.YteabgcollokgjaaGreatDoor
section
open Go.RowKit Go.MapKept Go.ChangeMaps Go.Shelf Go.Sort
attribute [local go_sem] wext_cell
def openedX (p:Nat) (r:Rp) (s:St) (nm:ByteArray) (H:Nat) (C:Chs) (F:Option FR):SR:=⟨p,H+2,H,H+1,r,s,nm,C,F,0,sizeC C,false⟩
def OpenedX (s:St) (nm:ByteArray) (bs:List UInt8) (C:Chs) (F:Option FR):Prop:=
 ((s.now (fileN nm)).isSome=false/\C=[]/\F=none)∨((s.now (fileN nm)).isSome=true/\∃ fb sb,C=(scanF bs bs.length 0 [] [] true).1/\F=some ⟨fb,sb,bs.length,(scanF bs bs.length 0 [] [] true).2.2,(scanF bs bs.length 0 [] [] true).2.1⟩)
def OpenG (b p:Nat) (r:Rp) (s:St) (nm:ByteArray) (bs:List UInt8) (l:List Ob) (w:World) (e:Ending) (w':World):Prop:=
 ∃ H C F,w.heap.size<=H/\e= .returned (.tuple #[vPtr (H+2),.int .i64 0])/\SW b w ((openedX p r s nm H C F).obs l) w'/\OpenedX s nm bs C F
theorem Open_gen {b:Nat} {w:World} {p:Nat} {r:Rp} {s:St} {l:List Ob} (h:Sep b w (devOb p r s::l)) (nm:ByteArray) (bs:List UInt8) (hn:nameV nm=true) (hd:s.dn=false) (hb0:0<b) (hS:Syn w) (hN:∀ m,(s.now m).isSome=true->m=fileN nm∨Alien nm m) (hR:(s.now (fileN nm)).isSome=true->readE s (fileN nm)=0/\readB s (fileN nm)=bs):Calls Tryz.prog 20 #[vPtr p,.string nm] w (OpenG b p r s nm bs l w):=by
 have hsz:=nameV_size hn;have HV:=hid (validStore_any nm w (by unfold maxLen;omega));rw [hn] at HV;have HD:=hid (Down_any p r s w h.head);rw [hd] at HD;have hm1:(Instr.makeMap 128 none).run Tryz.prog w= .ok (.map (some w.heap.size)) (w.alloc (.map #[] 0)):=by simp [Instr.makeMap,run_underlying Tryz.underlying128]
 have hm2:(Instr.makeMap 129 none).run Tryz.prog (w.alloc (.map #[] 0))= .ok (.map (some (w.heap.size+1))) ((w.alloc (.map #[] 0)).alloc (.map #[] 0)):=by simp [Instr.makeMap,run_underlying Tryz.underlying129]
 have S1:SW b w (flOb (w.heap.size+1) none::chOb w.heap.size []::devOb p r s::l) ((w.alloc (.map #[] 0)).alloc (.map #[] 0)):=by
  have:=((SW.refl h).newMap).newFl;simpa using this
 have S2:Hid (SW b w ((openedS p r s nm w.heap.size).obs l) (((w.alloc (.map #[] 0)).alloc (.map #[] 0)).alloc (.cells #[.pointer (some ⟨p,0,none⟩),.string nm,.map (some w.heap.size),.map (some (w.heap.size+1)),.int .i64 0,.int .i64 0,.bool false] 131))):=
  SW.front (pre:=[_,_,_,_]) (t:=l) (S1.newCellAt 131 #[.pointer (some ⟨p,0,none⟩),.string nm,.map (some w.heap.size),.map (some (w.heap.size+1)),.int .i64 0,.int .i64 0,.bool false] (H:=w.heap.size+2) (by simp)) [3,0,2,1] (n:=4) rfl (by decide)
 have HLO:=hid (load_gen (x:=openedS p r s nm w.heap.size) (bs:=bs) S2.out.1 hb0 (hS.on hb0 S2.out.2) rfl rfl (by show nm.size<=1000;omega) hN hR)
 have HSC:Hid (∀ C F,OpenedX s nm bs C F->∃ N,N<=4194304/\SInv C N):=by
  rintro C F (⟨_,rfl,_⟩ | ⟨h1,fb,sb,rfl,_⟩)
  · exact ⟨0,by omega,LAt.nil,by simp,by simp⟩
  have hbl:bs.length<=4194304:=by
   have hdv:DV w p r s:=h.head;have:=readB_len hdv.ok (fileN nm);rw [(hR h1).2] at this;exact this
  exact ⟨bs.length,hbl,scan_inv bs hbl bs.length 0 [] [] true (by omega) ⟨LAt.nil,by simp,by simp⟩⟩
 unfold OpenG openedX;clear h hn hd hN hR hS hb0 S1;go_enter Tryz.func20,Tryz.ntmps20;go_wp2_with (first | (go_at_call 81;(with_reducible refine HV.out.mono ?_);rintro e w1 ⟨rfl,rfl⟩) | (go_at_call 82;(with_reducible refine HD.out.mono ?_);rintro e w1 ⟨rfl,rfl⟩) | (go_at_call 83;refine halt_ ?_))
 refine HLO.out.mono ?_;rintro e w1 ⟨rfl,s3⟩
 obtain ⟨C,F,HX,S3⟩:∃ C F,Hid (OpenedX s nm bs C F)/\Hid (SW b w (({ openedS p r s nm w.heap.size with C:=C,F:=F }:SR).obs l) w1):=by
  rcases s3 with ⟨h1,s3⟩ | ⟨h1,fb,sb,s3⟩
  · exact ⟨[],none,.inl ⟨h1,rfl,rfl⟩,S2.out.then s3⟩
  exact ⟨_,_,.inr ⟨h1,fb,sb,rfl,rfl⟩,S2.out.then s3⟩
 obtain ⟨N,hN4,hsi⟩:=HSC.out C F HX.out;have HSI:=hid hsi;clear s3 HLO S2 hm1 hm2 hsi HSC;have k2:w1.cell? ⟨w.heap.size+1+1,2,none⟩=some (.map (some w.heap.size)):=(S3.out.cell 1 rfl).cell 2;have HM:=hid (S3.out.get 2 (o:=chOb w.heap.size C) rfl).1;go_wp2_with (at_range;(refine wpList_range_is _ rfl _ 128 rfl 31 138 Tryz.underlying128 w.heap.size C rfl HM.out ?_);intro w4 hrg hg hs;have SWr:=hid (S3.out.range 2 rfl hrg hg);clear hrg hg hs)
 obtain ⟨q,Hq⟩:∃ q,Hid (w1.heap.size=q):=⟨_,rfl⟩;rw [Hq.out] at SWr;rw [Hq.out];clear Hq HM S3 k2;have SW0:Hid (SW b w (devOb p r s::cellOb (w.heap.size+2) 131 #[.pointer (some ⟨p,0,none⟩),.string nm,.map (some w.heap.size),.map (some (w.heap.size+1)),.int .i64 0,.int .i64 (0),.bool false]::itOb w.heap.size q C [] C.length::flOb (w.heap.size+1) F::l) w4):=SWr.out;clear SWr;go_loopw [] (fun wr=>∃ (done:Chs) (cnt:Nat),done.length+cnt<=C.length/\(∀ c∈done,c∈C)/\SW b w (devOb p r s::cellOb (w.heap.size+2) 131 #[.pointer (some ⟨p,0,none⟩),.string nm,.map (some w.heap.size),.map (some (w.heap.size+1)),.int .i64 0,.int .i64 (sizeC done),.bool false]::itOb w.heap.size q C done cnt::flOb (w.heap.size+1) F::l) wr) (fun wr=>wr.rangeLeft w.heap.size q)
 case atStart=>exact ⟨[],C.length,by simp,by simp,SW0.out⟩
 obtain ⟨done,cnt,hdc,hsub,hs⟩:=hrel;have S6:=hid hs;have HRI:=hid (hs.get 2 (o:=itOb w.heap.size q C done cnt) rfl:RIs okID vID vPl wr w.heap.size q C done cnt);have Hleft:=hid HRI.out.left_eq;have HSUB:=hid hsub;clear hs SW0 hsub;go_wp2_with (at_next;(refine wpList_next_ch _ rfl _ rfl w.heap.size q C done cnt rfl HRI.out (fun hp=>?_) (fun i pl w5 cnt1 hc1 hrg1 hlt1 hg1 hs1 hen=>halt_ ?_)))
 · have HP:=hid hp;clear hp;go_wp2_with fail
   go_ret2;refine ⟨w.heap.size,C,F,Nat.le_refl _,rfl,?_,HX.out⟩;rw [<- sizeC_perm HP.out]
   exact S6.out.unRange 2 rfl (fun c hc=>by
    obtain ⟨q',e,_⟩:=HSI.out.1 c.1 c.2 (asc_mem (HRI.out.map.nodup) hc);exact ⟨q',e⟩)
 have S7:=hid (S6.out.next 2 rfl hrg1 hg1);have HI:=hid (HSI.out.2.2 i (List.mem_map.2 ⟨_,hc1,rfl⟩));have Hlt:=hid hlt1;have HC1:=hid hc1;clear hrg1 hg1 hs1 hlt1 S6 HRI hc1;have S8:Hid (SW b w (cellOb w5.heap.size 31 #[.int .u64 i.1,.int .i64 i.2]::devOb p r s::cellOb (w.heap.size+2) 131 #[.pointer (some ⟨p,0,none⟩),.string nm,.map (some w.heap.size),.map (some (w.heap.size+1)),.int .i64 0,.int .i64 (sizeC done),.bool false]::itOb w.heap.size q C (done++[(i,pl)]) cnt1::flOb (w.heap.size+1) F::l) (w5.alloc (.cells #[.int .u64 i.1,.int .i64 i.2] 31))):=S7.out.newCell 31 _;clear S7;refine hid ?_;go_upto_region 12 with fail
 generalize w5.alloc (.cells #[.int .u64 i.1,.int .i64 i.2] 31)=W6 at S8 |-; generalize w5.heap.size=H6 at S8 |-; have c5:W6.cell? ⟨w.heap.size+2,5,none⟩=some (.int .i64 (sizeC done)):=(S8.out.cell 2 rfl).cell 5;have f5:W6.frozen? ⟨w.heap.size+2,5,none⟩=false:=(S8.out.cell 2 rfl).frozen 5;have d1:W6.cell? ⟨H6,1,none⟩=some (.int .i64 i.2):=(S8.out.cell 0 rfl).cell 1;have hb1:=sizeC_le4 done (fun c hc=>(HSI.out.2.2 c.1 (List.mem_map.2 ⟨c,HSUB.out c hc,rfl⟩)).2);have hb2:=HSI.out.2.1;have hb3:=HI.out.2;have hsum:IntKind.i64.wrap (sizeC done+i.2)=sizeC done+i.2:=IntWalk.i64_in _ (by omega);clear hen;go_region
 have S9:=hid ((S8.out.setAt 2 rfl 5 (.int .i64 (sizeC done+i.2))).tail.drew);clear S8 c5 f5 d1 hsum hb1 hb2 hb3;go_wp2_with fail
 go_roundw
 case rel=>
  refine ⟨done++[(i,pl)],cnt1,by have:=Hlt.out;rw [zA,List.length_singleton];omega,fun c hc=>?_,?_⟩
  · rcases List.mem_append.1 hc with hc | hc
    · exact HSUB.out c hc
    rw [List.mem_singleton.1 hc];exact HC1.out
  rw [sizeC_snoc];exact S9.out
 have h1:RIs okID vID vPl _ w.heap.size q C (done++[(i,pl)]) cnt1:=S9.out.get 2 rfl;exact Nat.lt_of_le_of_lt (Nat.le_of_eq h1.left_eq) (Nat.lt_of_lt_of_eq Hlt.out Hleft.out.symm)
end
section
open Go.RowKit Go.MapKept Go.ChangeMaps Go.Shelf Go.Sort
theorem cut_lay:∀ (cs:List (List UInt8)) (pre:List UInt8) (i:ID) (o:Nat),(i,Pl.at o)∈layC pre.length cs->∃ c∈cs,i=fpOf c/\cutB (pre++layB pre.length cs) i o=c/\o+28+c.length<=(pre++layB pre.length cs).length:=by
 intro cs;induction cs with
 | nil=>intro pre i o h;cases h
 | cons c cs ih=>
  intro pre i o h;rcases List.mem_cons.1 h with e | h
  · injection e with e1 e2;injection e2 with e2;subst e1;subst e2;refine ⟨c,by simp,rfl,?_,?_⟩
    · rw [layB];unfold cutB;have e:(fpOf c).2.toNat=c.length:=by simp [fpOf]
      rw [e, <- zD, <- zD,zD (pre++_),List.drop_left' (by simp [headB_len]),List.take_left' rfl]
    rw [layB];simp only [zA,headB_len];omega
  have e:pre.length+28+c.length=(pre++headB (fpOf c) 1 pre.length++c).length:=by simp [headB_len];omega
  rw [e] at h;obtain ⟨d,h1,h2,h3,h4⟩:=ih _ i o h
  have e2:pre++layB pre.length (c::cs)=pre++headB (fpOf c) 1 pre.length++c++layB (pre++headB (fpOf c) 1 pre.length++c).length cs:=by
   rw [layB, <- e];simp only [zD]
  rw [e2];exact ⟨d,List.mem_cons_of_mem _ h1,h2,h3,h4⟩
theorem texts_few {cs:List (List UInt8)} (hn:(cs.map fpOf).Nodup) (ht:∀ c∈cs,IsText c):cs.length<=30/\layN cs<=960:=by
 have h1:=len_le_sub (cs.map fpOf) (allTexts.map fpOf) hn (fun i hi=>by
  obtain ⟨c,hc,e⟩:=List.mem_map.1 hi;exact List.mem_map.2 ⟨c,(ht c hc).mem,e⟩)
 have e:(allTexts.map fpOf).length=30:=by decide+kernel
 rw [e,List.length_map] at h1
 have h2:∀ cs:List (List UInt8),(∀ c∈cs,IsText c)->layN cs<=32*cs.length:=by
  intro cs;induction cs with
  | nil=>intro _;simp [layN]
  | cons c cs ih=>
   intro ht;have e:layN (c::cs)=28+c.length+layN cs:=by simp [layN]
   have:=ih (fun d hd=>ht d (List.mem_cons_of_mem _ hd));have:=(ht c (by simp)).hi;rw [e,zB];omega
 have:=h2 cs ht;omega
def St.unf (s:St):St:={ s with f:=0 }
def SR.unf (x:SR):SR:={ x with s:=x.s.unf }
theorem gate_unf (s:St) (n:Nat) (o:POp):gate s.unf n o=gate s n o:=rfl
theorem gate_up {s:St} {n:Nat} {o:POp} (h:gate s n o=0):s.dn=false:=by
 cases hd:s.dn with
 | false=>rfl
 | true=>
  unfold gate at h;cases hk:o.k<;>simp [hk,hd] at h
theorem reqE_zero {s:St} {n:Nat} {o:POp} (h:reqE s n o=0):gate s n o=0/\s.f≠1:=by
 unfold reqE at h;by_cases hg:gate s n o=0
 · rw [if_pos hg] at h;refine ⟨hg,fun e=>?_⟩;rw [if_pos e] at h;cases h
 rw [if_neg hg] at h;exact absurd h hg
theorem did_up {s:St} {o:POp} (hd:s.dn=false) (hf:s.f≠1):(s.did o).dn=false:=by
 simp only [St.did,burnD];split
 · exact hd
 simp [hf]
theorem req_unf {s:St} {n:Nat} {o:POp} (h:reqE s n o=0):reqE s.unf n o=0/\reqS s.unf n o=(reqS s n o).unf/\reqS s n o=s.did o:=by
 obtain ⟨hg,hf⟩:=reqE_zero h;have hd:=gate_up hg;have e1:reqS s n o=s.did o:=by unfold reqS;rw [if_pos hg,if_neg hf]
 have e2:reqS s.unf n o=s.unf.did o:=by unfold reqS;rw [gate_unf,if_pos hg,if_neg (by simp [St.unf])]
 refine ⟨?_,?_,e1⟩
 · unfold reqE;rw [gate_unf,if_pos hg,if_neg (by simp [St.unf])]
 rw [e1,e2];have h1:=did_up (o:=o) hd hf;simp only [St.did,St.unf,burnD,burnF] at h1 |-; simp only [hd,if_pos,h1];simp [hd];exact fun _=>hf
theorem sync_unf {s:St} (h:syncE s=0):syncE s.unf=0/\syncS s.unf=(syncS s).unf/\syncS s=⟨s.now,[],false,burnF s.f⟩:=by
 unfold syncE at h;cases hd:s.dn with
 | true=>rw [hd] at h;cases h
 | false=>
  have hf:s.f≠1:=fun e=>by rw [hd,if_neg (by simp),if_pos e] at h;cases h
  have e1:syncS s=⟨s.now,[],false,burnF s.f⟩:=by unfold syncS;rw [hd,if_neg (by simp),if_neg hf]
  refine ⟨by simp [syncE,St.unf,hd],?_,e1⟩;rw [e1];simp only [syncS,St.unf,hd,burnF];rfl
theorem rq_unf {s:St} {nm:ByteArray} {n1 n2:Nat} {bs:List UInt8} (h:rqE s nm n1 n2 bs=0):rqE s.unf nm n1 n2 bs=0/\rqS s.unf nm n1 n2 bs=(rqS s nm n1 n2 bs).unf:=by
 unfold rqE at h;by_cases h1:reqE s n1 (crOp nm bs)=0
 · rw [if_pos h1] at h;obtain ⟨a1,a2,a3⟩:=req_unf h1;obtain ⟨b1,b2,b3⟩:=req_unf h;unfold rqE rqS;rw [if_pos a1,if_pos a1,if_pos h1,a2];exact ⟨b1,b2⟩
 rw [if_neg h1] at h;exact absurd h h1
theorem After.unf {x x1:SR} {G:List (ID×Bool)} (h:After x G x1):After x.unf G x1.unf:=by
 cases h with
 | none hno=>exact .none hno
 | del n r h1 hn e1 e2 hgo=>
  obtain ⟨a1,a2,a3⟩:=req_unf e1;obtain ⟨b1,b2,b3⟩:=sync_unf e2;have:=After.del (x:=x.unf) (G:=G) n r h1 hn a1 (by rw [show x.unf.s=x.s.unf from rfl,show x.unf.nm=x.nm from rfl,a2];exact b1) hgo;rw [show x.unf.s=x.s.unf from rfl,show x.unf.nm=x.nm from rfl,a2,b2] at this;exact this
 | ren n1 n2 r ys mv f hany hys hsrt hst hn1 hn2 e1 e2 hmv hfl hfc hfT=>
  have hr:readB x.unf.s (fileN x.unf.nm)=readB x.s (fileN x.nm):=rfl;obtain ⟨a1,a2⟩:=rq_unf e1;obtain ⟨b1,b2,b3⟩:=sync_unf e2
  have hq:reqE x.s n1 (crOp x.nm (rfold (readB x.s (fileN x.nm)) [] (stays G ys)).2)=0:=by
   unfold rqE at e1;by_cases h1:reqE x.s n1 (crOp x.nm (rfold (readB x.s (fileN x.nm)) [] (stays G ys)).2)=0
   · exact h1
   rw [if_neg h1] at e1;exact absurd e1 h1
  have hn2':Cnt (reqS x.unf.s n1 (crOp x.unf.nm (rfold (readB x.unf.s (fileN x.unf.nm)) [] (stays G ys)).2)).now n2:=by
   rw [hr,show x.unf.s=x.s.unf from rfl,show x.unf.nm=x.nm from rfl,(req_unf hq).2.1];exact hn2
  have:=After.ren (x:=x.unf) (G:=G) n1 n2 r ys mv f hany hys hsrt hst hn1 hn2' a1 (by rw [hr,show x.unf.s=x.s.unf from rfl,show x.unf.nm=x.nm from rfl,a2];exact b1) hmv hfl hfc hfT;rw [hr,show x.unf.s=x.s.unf from rfl,show x.unf.nm=x.nm from rfl,a2,b2] at this;exact this
theorem After.ops {x x1:SR} {G:List (ID×Bool)} (h:After x G x1) (ho:x.s.ops=[]):x1.s.ops=[]:=by
 cases h with
 | none hno=>exact ho
 | del n r h1 hn e1 e2 hgo=>simp only;rw [(sync_unf e2).2.2]
 | ren n1 n2 r ys mv f hany hys hsrt hst hn1 hn2 e1 e2 hmv hfl hfc hfT=>simp only;rw [(sync_unf e2).2.2]
theorem lost_s (s:St) (keep torn:Int):restartS (loseS s keep torn)=⟨lossF s keep torn,[],false,0⟩:=by
 have e:lossF s.cut keep torn=lossF s keep torn:=rfl;unfold restartS loseS decideS;rw [if_pos (by rfl),loss_none _ _ _ rfl,e];rfl
theorem fresh_ne_file (nm:ByteArray):freshN nm≠fileN nm:=fun h=>by
 have:=congrArg ByteArray.size h;unfold fileN freshN at this;rw [ByteArray.size_append,ByteArray.size_append,ByteArray.size_append] at this;have e1:(⟨#[46]⟩:ByteArray).size=1:=rfl;have e2:(⟨#[49]⟩:ByteArray).size=1:=rfl;have e3:(⟨#[46,110,101,119]⟩:ByteArray).size=4:=rfl;omega
theorem loss1 (K:FF) (o:POp) (dn:Bool) (f keep torn:Int):lossF ⟨K,[o],dn,f⟩ keep torn=K∨(o.tears=true/\lossF ⟨K,[o],dn,f⟩ keep torn=applyF K (o.cutTo torn))∨lossF ⟨K,[o],dn,f⟩ keep torn=applyF K o:=by
 unfold lossF;split
 · exact .inl rfl
 cases hk:keep.toNat with
 | zero=>
  simp only [zE];split
  · rename_i h
    exact .inr (.inl ⟨h.1,rfl⟩)
  exact .inl rfl
 | succ k=>exact .inr (.inr rfl)
theorem loss2 (K:FF) (o1 o2:POp) (dn:Bool) (f keep torn:Int) (h2:o2.tears=false):lossF ⟨K,[o1,o2],dn,f⟩ keep torn=K∨(o1.tears=true/\lossF ⟨K,[o1,o2],dn,f⟩ keep torn=applyF K (o1.cutTo torn))∨lossF ⟨K,[o1,o2],dn,f⟩ keep torn=applyF K o1∨lossF ⟨K,[o1,o2],dn,f⟩ keep torn=applyF (applyF K o1) o2:=by
 unfold lossF;split
 · exact .inl rfl
 cases hk:keep.toNat with
 | zero=>
  simp only [zE];split
  · rename_i h
    exact .inr (.inl ⟨h.1,rfl⟩)
  exact .inl rfl
 | succ k=>
  cases k with
  | zero=>
   simp only [List.getElem?_cons_succ,zE];rw [if_neg (by rw [h2];simp)];exact .inr (.inr (.inl rfl))
  | succ k=>exact .inr (.inr (.inr rfl))
def TailJ (o:Nat) (J:List UInt8):Prop:=J=[]∨∃ c R,IsText c/\headB (fpOf c) 1 o++c=J++R/\R≠[]
theorem TailJ.len {o:Nat} {J:List UInt8} (h:TailJ o J):J.length<=32:=by
 rcases h with rfl | ⟨c,R,ht,e,_⟩
 · simp
 have:=congrArg List.length e;rw [zA,zA,headB_len] at this;have:=ht.hi;omega
theorem take_lay:∀ (cs:List (List UInt8)) (o t:Nat),(∀ c∈cs,IsText c)->∃ k J,(layB o cs).take t=layB o (cs.take k)++J/\TailJ (o+layN (cs.take k)) J:=by
 intro cs;induction cs with
 | nil=>intro o t _;exact ⟨0,[],by simp [layB],.inl rfl⟩
 | cons c cs ih=>
  intro o t ht;have hh:(headB (fpOf c) 1 o++c).length=28+c.length:=by rw [zA,headB_len]
  by_cases h:t<28+c.length
  · refine ⟨0,(headB (fpOf c) 1 o++c).take t,?_,.inr ⟨c,(headB (fpOf c) 1 o++c).drop t,ht c (by simp),(zC _ _).symm,fun e=>?_⟩⟩
    · rw [layB,List.take_append_of_le_length (by rw [hh];omega)];simp [layB]
    have:=congrArg List.length e;rw [List.length_drop,hh] at this;simp at this;omega
  obtain ⟨k,J,h1,h2⟩:=ih (o+28+c.length) (t-(28+c.length)) (fun d hd=>ht d (by simp [hd]));refine ⟨k+1,J,?_,?_⟩
  · rw [List.take_succ_cons,layB,layB,List.take_append,List.take_of_length_le (by rw [hh];omega),hh,h1];simp only [zD]
  have e:layN (c::cs.take k)=28+c.length+layN (cs.take k):=by simp [layN]
  rw [List.take_succ_cons,e, <- Nat.add_assoc, <- Nat.add_assoc];exact h2
theorem scan_pre (cs:List (List UInt8)):∀ (pre J:List UInt8) (C:Chs) (n:Nat),(∀ c∈cs,1<=c.length/\c.length<=4194304)->(cs.map fpOf).Nodup->(∀ c∈cs,fpOf c ∉ C.map (·.1))->
 scanF (pre++(layB pre.length cs++J)) (n+cs.length) pre.length C [] true=scanF (pre++(layB pre.length cs++J)) n (pre.length+layN cs) (C++layC pre.length cs) [] true:=by
 induction cs with
 | nil=>
  intro pre J C n _ _ _;simp [layC,layN]
 | cons c cs ih=>
  intro pre J C n hc hn hC;have hc1:=hc c (by simp);have hfp:=fpSum_lt c;unfold pP at hfp
  have hrd:rdHead (pre++(layB pre.length (c::cs)++J)) pre.length=some (fpOf c):=by
   rw [layB,zD,zD];exact rdHead_at pre _ (fpOf c) (by simp [fpOf]) (by simp only [fpOf];omega) (by simp [fpOf]) (by simp only [fpOf];omega)
  have hlen:(pre++(layB pre.length (c::cs)++J)).length=pre.length+(28+c.length+((layB (pre.length+28+c.length) cs).length+J.length)):=by
   rw [layB];simp only [zA,headB_len];omega
  have hz:(fpOf c).2=(c.length:Int):=rfl;have e0:n+(c::cs).length=(n+cs.length)+1:=by rw [zB];omega
  rw [e0,scanF,if_pos (by rw [hlen];omega),hrd];simp only;rw [if_neg (by rw [hz,hlen];omega)]
  have ha:asc C (fpOf c)=none:=by
   cases ha:asc C (fpOf c) with
   | none=>rfl
   | some pl=>exact absurd (List.mem_map.2 ⟨_,mem_of_asc ha,rfl⟩) (hC c (by simp))
  have hf:foundC (pre++(layB pre.length (c::cs)++J)) C [] (fpOf c) pre.length=(C++[(fpOf c,.at pre.length)],[]):=by
   unfold foundC;rw [ha];simp only;rw [setL_new (hC c (by simp))]
  rw [hf];simp only
  have h2:=ih (pre++(headB (fpOf c) 1 pre.length++c)) J (C++[(fpOf c,.at pre.length)]) n (fun d hd=>hc d (by simp [hd])) (List.nodup_cons.1 hn).2 (fun d hd=>by
   rw [List.map_append,List.mem_append];rintro (h | h)
   · exact hC d (by simp [hd]) h
   have e:fpOf d=fpOf c:=by simpa using h
   exact (List.nodup_cons.1 hn).1 (List.mem_map.2 ⟨d,hd,e⟩))
  have hpl:(pre++(headB (fpOf c) 1 pre.length++c)).length=pre.length+28+c.length:=by
   simp only [zA,headB_len];omega
  rw [hpl] at h2
  have e1:pre++(layB pre.length (c::cs)++J)=pre++(headB (fpOf c) 1 pre.length++c)++(layB (pre.length+28+c.length) cs++J):=by
   rw [layB];simp only [zD]
  have e2:pre.length+(28+(fpOf c).2.toNat)=pre.length+28+c.length:=by rw [hz];omega
  have e3:layN (c::cs)=28+c.length+layN cs:=by simp [layN]
  have e4:pre.length+layN (c::cs)=pre.length+28+c.length+layN cs:=by rw [e3];omega
  have e5:C++layC pre.length (c::cs)=C++[(fpOf c,Pl.at pre.length)]++layC (pre.length+28+c.length) cs:=by
   rw [layC,zD];rfl
  rw [e1,e2,e4,e5];exact h2
theorem scan_short (bs:List UInt8):∀ (m o:Nat) (C:Chs) (T:List (ID×Bool)) (cl:Bool),bs.length<o+28->∃ cl',scanF bs m o C T cl=(C,T,cl')/\(cl=false->cl'=false)/\(0<m->o<bs.length->cl'=false):=by
 intro m;induction m with
 | zero=>intro o C T cl _;exact ⟨cl,rfl,fun h=>h,fun h=>absurd h (by omega)⟩
 | succ m ih=>
  intro o C T cl h;by_cases ho:o<bs.length
  · obtain ⟨cl',h1,h2,_⟩:=ih (o+1) C T false (by omega);refine ⟨cl',?_,fun _=>h2 rfl,fun _ _=>h2 rfl⟩;rw [scanF,if_pos ho,rdHead_short bs o h];exact h1
  refine ⟨cl,?_,fun h=>h,fun _ h=>absurd h ho⟩;rw [scanF,if_neg ho]
theorem scan_tail {pre J:List UInt8} (hJ:TailJ pre.length J) (m:Nat) (C:Chs) (T:List (ID×Bool)) (hm:J.length<=m):∃ cl,scanF (pre++J) m pre.length C T true=(C,T,cl)/\(cl=true->J=[]):=by
 by_cases hl:J.length<28
 · obtain ⟨cl,h1,_,h3⟩:=scan_short (pre++J) m pre.length C T true (by rw [zA];omega);refine ⟨cl,h1,fun h=>?_⟩;cases J with
   | nil=>rfl
   | cons a J=>
    rw [zB] at hm;rw [h3 (by omega) (by rw [zA,zB];omega)] at h;cases h
 rcases hJ with rfl | ⟨c,R,ht,e,hR⟩
 · exact absurd (by simp) hl
 have hRl:=List.length_pos_iff.2 hR;have hh:(headB (fpOf c) 1 pre.length).length=28:=headB_len _ _ _
 have e1:J=headB (fpOf c) 1 pre.length++J.drop 28:=by
  have h1:=congrArg (List.take 28) e;rw [take_at _ _ 28 hh,List.take_append_of_le_length (by omega)] at h1;rw [h1,zC]
 have hlen:=congrArg List.length e;rw [zA,zA,hh] at hlen;have hfp:=fpSum_lt c;unfold pP at hfp;have hhi:=ht.hi;obtain ⟨m',rfl⟩:∃ m',m=m'+1:=⟨m-1,by omega⟩
 have hrd:rdHead (pre++J) pre.length=some (fpOf c):=by
  rw [e1];exact rdHead_at pre _ (fpOf c) (by simp [fpOf]) (by simp only [fpOf];omega) (by simp [fpOf]) (by simp only [fpOf];omega)
 refine ⟨false,?_,fun h=>by cases h⟩;have hz:(fpOf c).2=(c.length:Int):=rfl;rw [scanF,if_pos (by rw [zA];omega),hrd];simp only;rw [if_pos (.inr (by rw [hz,zA];omega))]
theorem len_layN (cs:List (List UInt8)):cs.length<=layN cs:=by
 induction cs with
 | nil=>simp
 | cons d cs ih=>
  have e3:layN (d::cs)=28+d.length+layN cs:=by simp [layN]
  rw [e3,zB];omega
theorem scan_torn {cs:List (List UInt8)} {J:List UInt8} (hc:∀ c∈cs,IsText c) (hn:(cs.map fpOf).Nodup) (hJ:TailJ (layN cs) J):
 ∃ cl,scanF (layB 0 cs++J) (layB 0 cs++J).length 0 [] [] true=(layC 0 cs,[],cl)/\(cl=true->J=[]):=by
 have hl:=len_layN cs;have hbl:=layB_len 0 cs;have hlen:(layB 0 cs++J).length=(layN cs-cs.length+J.length)+cs.length:=by rw [zA,hbl];omega
 have h1:=scan_pre cs [] J [] (layN cs-cs.length+J.length) (fun c h=>by have:=(hc c h).lo;have:=(hc c h).hi;omega) hn (by simp);simp only [List.nil_append,List.length_nil,Nat.zero_add] at h1;rw [hlen,h1];have h2:=scan_tail (pre:=layB 0 cs) (J:=J) (by rw [hbl];exact hJ) (layN cs-cs.length+J.length) (layC 0 cs) [] (by omega);rw [hbl] at h2;exact h2
structure DskI (K:FF) (cs:List (List UInt8)):Prop where
 ns:∀ m,(K m).isSome=true->m=fileN nmS∨m=freshN nmS
 nd:(cs.map fpOf).Nodup
 tx:∀ c∈cs,IsText c
 file:(∃ J,TailJ (layN cs) J/\K (fileN nmS)=some (layB 0 cs++J))∨(K (fileN nmS)=none/\cs=[])
theorem DskI.few {K:FF} {cs:List (List UInt8)} (h:DskI K cs):cs.length<=30/\layN cs<=960:=texts_few h.nd h.tx
theorem DskI.same {K K':FF} {cs:List (List UInt8)} (h:DskI K cs) (hn:∀ m,(K' m).isSome=true->m=fileN nmS∨m=freshN nmS) (e:K' (fileN nmS)=K (fileN nmS)):DskI K' cs:=⟨hn,h.nd,h.tx,by rw [e];exact h.file⟩
def LostD (s:St) (S P:List (List UInt8)):Prop:=∀ keep torn,∃ cs,DskI (lossF s keep torn) cs/\(∀ c∈S,c∈cs)/\∀ c∈cs,c∈P
theorem LostD.mono {s:St} {S S' P P':List (List UInt8)} (h:LostD s S P) (h1:∀ c∈S',c∈S) (h2:∀ c∈P,c∈P'):LostD s S' P':=fun k t=>by
 obtain ⟨cs,a,b,c⟩:=h k t;exact ⟨cs,a,fun d hd=>b d (h1 d hd),fun d hd=>h2 d (c d hd)⟩
theorem DskI.part {K K':FF} {cs ds:List (List UInt8)} (h:DskI K cs) (hn:∀ m,(K' m).isSome=true->m=fileN nmS∨m=freshN nmS) (hnd:((cs++ds).map fpOf).Nodup) (ht:∀ c∈ds,IsText c) (t:Nat) (e:K' (fileN nmS)=some (layB 0 cs++(layB (layN cs) ds).take t)):∃ k,DskI K' (cs++ds.take k):=by
 obtain ⟨k,J,h1,h2⟩:=take_lay ds (layN cs) t ht;refine ⟨k,hn,?_,?_,.inl ⟨J,?_,?_⟩⟩
 · exact hnd.sublist ((List.Sublist.append (List.Sublist.refl _) (List.take_sublist _ _)).map _)
 · intro c hc;rcases List.mem_append.1 hc with hc | hc
   · exact h.tx c hc
   exact ht c (List.mem_of_mem_take hc)
 · have e2:layN (cs++ds.take k)=layN cs+layN (ds.take k):=by simp [layN]
   rw [e2];exact h2
 rw [e,h1,layB_app,Nat.zero_add,zD]
end
section
open Go.RowKit Go.MapKept Go.ChangeMaps Go.Shelf Go.Sort
attribute [local go_sem] wext_cell
section
variable {b:Nat} {w0 w:World} {l:List Ob} {g:Nat} {A:Option Addr} {c:Nat} {L:List Int} {n:Nat}
theorem text34_x (h:SW b w0 l w) (kk:Nat) (hk:l[kk]? =some (tpOb g A c L n)) (hn:n<=999000):Calls Tryz.prog 34 #[vPtr g] w (TextP b w0 l kk g A c L n):=by
 have hkl:kk<l.length:=(List.getElem?_eq_some_iff.1 hk).1;have HN:=hid (Next_x h kk hk 4 (by omega) (by omega));have HT:=hid (textN_in L n);obtain ⟨q,hq⟩:∃ q:Nat,tnext L n 4=(q:Int):=⟨(tnext L n 4).toNat,by have:=(tnext_in L n 4).1;omega⟩;have e1:textN L n=1+q:=by unfold textN;rw [hq];simp
 have hq4:q<=3:=by have:=HT.out.2;omega
 rw [hq] at HN;clear h;go_enter Tryz.func34,Tryz.ntmps34;go_wp2_with (go_at_call 33;(with_reducible refine HN.out.mono ?_);refine halt_ ?_)
 rintro e w1 ⟨rfl,s1⟩;have HB:=hid (Bytes_x s1 kk (List.getElem?_set_self hkl) (1+q) 2 (by omega) (by omega) (by omega) (by omega));rw [<- e1,List.set_set] at HB;have e2:Hid ((1:Int)+(q:Int)=((textN L n:Nat):Int)):=by rw [Hid,e1];omega
 clear e1 hq;clear s1 HN;go_wp2_with (go_at_call 54;refine halt_ ?_)
 rw [e2.out];refine HB.out.mono ?_;rintro e w2 ⟨d,rfl,s2⟩;have S2:=hid s2;clear s2 HB;go_wp2_with fail
 go_ret;exact ⟨d,rfl,S2.out⟩
end
end
section
open Go.RowKit Go.MapKept Go.ChangeMaps Go.Shelf Go.Sort

theorem st_eta {s:St} (h1:s.ops=[]) (h2:s.dn=false):s=⟨s.K,[],false,s.f⟩:=by
 obtain ⟨K,ops,dn,f⟩:=s;simp only at h1 h2;subst h1;subst h2;rfl
theorem req_lost {s:St} {n:Nat} {o:POp} {E:Int} (hg:gate s n o=0) (h1:E=reqE s n o) (h0:E≠0):E=303/\reqS s n o=s.cut:=by
 unfold reqE at h1;rw [if_pos hg] at h1;by_cases hf:s.f=1
 · rw [if_pos hf] at h1;refine ⟨h1,?_⟩;unfold reqS;rw [if_pos hg,if_pos hf]
 rw [if_neg hf] at h1;exact absurd h1 h0
theorem sync_lost {s:St} {E:Int} (hd:s.dn=false) (h1:E=syncE s) (h0:E≠0):E=303/\syncS s=s.cut:=by
 unfold syncE at h1;rw [hd,if_neg (by simp)] at h1;by_cases hf:s.f=1
 · rw [if_pos hf] at h1;refine ⟨h1,?_⟩;unfold syncS;rw [hd,if_neg (by simp),if_pos hf]
 rw [if_neg hf] at h1;exact absurd h1 h0
theorem gate_of {s s':St} {n:Nat} {o:POp} (h1:s'.dn=s.dn) (h2:s'.now=s.now):gate s' n o=gate s n o:=by
 unfold gate;rw [h1,h2]
def NmI (K:FF):Prop:=∀ m,(K m).isSome=true->m=fileN nmS∨m=freshN nmS
theorem NmI.set {K:FF} (h:NmI K) {n:ByteArray} (v:Option (List UInt8)) (hn:n=fileN nmS∨n=freshN nmS):NmI (FF.set K n v):=fun m hm=>by
 unfold FF.set at hm;by_cases e:n=m
 · rw [<- e];exact hn
 rw [if_neg e] at hm;exact h m hm
section
variable {K:FF} {f:Int} {bs:List UInt8} {n1 n2:Nat}
theorem rq_did {s:St} {nm:ByteArray} (h1:rqE s nm n1 n2 bs=0):reqE s n1 (crOp nm bs)=0/\reqE (s.did (crOp nm bs)) n2 (rnOp nm)=0/\rqS s nm n1 n2 bs=(s.did (crOp nm bs)).did (rnOp nm):=by
 unfold rqE at h1;by_cases h:reqE s n1 (crOp nm bs)=0
 · rw [if_pos h] at h1;have e:=(req_unf h).2.2;have e2:=(req_unf h1).2.2;rw [e] at h1 e2;refine ⟨h,h1,?_⟩;unfold rqS;rw [if_pos h,e,e2]
 rw [if_neg h] at h1;exact absurd h1 h
theorem renew_gates (hb:bs.length<=1048576) (hn:n1<=200):gate ⟨K,[],false,f⟩ n1 (crOp nmS bs)=0/\∀ f',gate ⟨K,[crOp nmS bs],false,f'⟩ n2 (rnOp nmS)=0:=by
 have h:=(rq_ok (s:=⟨K,[],false,0⟩) (nm:=nmS) (n1:=n1) (n2:=n2) (bs:=bs) rfl rfl nmS_ok hn hb).1;obtain ⟨h1,h2,_⟩:=rq_did h;refine ⟨(reqE_zero h1).1,fun f'=>?_⟩;exact (gate_of (s:=St.did ⟨K,[],false,0⟩ (crOp nmS bs)) (by simp [St.did,burnD]) rfl).trans (reqE_zero h2).1
theorem renew_now (hns:NmI K):NmI (applyF K (crOp nmS bs))/\applyF K (crOp nmS bs) (fileN nmS)=K (fileN nmS)/\NmI (applyF (applyF K (crOp nmS bs)) (rnOp nmS))/\applyF (applyF K (crOp nmS bs)) (rnOp nmS) (fileN nmS)=some bs:=by
 have hne:=fresh_ne_file nmS;have e1:applyF K (crOp nmS bs)=FF.set K (freshN nmS) (some bs):=rfl
 have e2:applyF (applyF K (crOp nmS bs)) (rnOp nmS)=FF.set (FF.set (FF.set K (freshN nmS) (some bs)) (fileN nmS) (some bs)) (freshN nmS) none:=by
  rw [e1];simp only [applyF,rnOp,if_neg hne];simp [FF.set]
 rw [e2,e1];refine ⟨hns.set _ (.inr rfl),by simp [FF.set,hne],((hns.set _ (.inr rfl)).set _ (.inl rfl)).set _ (.inr rfl),by simp [FF.set,hne]⟩
theorem renew_ok (h1:rqE ⟨K,[],false,f⟩ nmS n1 n2 bs=0) (h2:syncE (rqS ⟨K,[],false,f⟩ nmS n1 n2 bs)=0):∃ f',syncS (rqS ⟨K,[],false,f⟩ nmS n1 n2 bs)=⟨applyF (applyF K (crOp nmS bs)) (rnOp nmS),[],false,f'⟩:=by
 obtain ⟨_,_,e⟩:=rq_did h1;have h3:=(sync_unf h2).2.2;rw [e] at h3 |-; exact ⟨_,h3⟩
theorem renew_lost (hns:NmI K) (hb:bs.length<=1048576) (hn:n1<=200) {E:Int} {s':St} (h0:E≠0)
 (h:(E=rqE ⟨K,[],false,f⟩ nmS n1 n2 bs/\s'=rqS ⟨K,[],false,f⟩ nmS n1 n2 bs)∨(rqE ⟨K,[],false,f⟩ nmS n1 n2 bs=0/\E=syncE (rqS ⟨K,[],false,f⟩ nmS n1 n2 bs)/\s'=syncS (rqS ⟨K,[],false,f⟩ nmS n1 n2 bs))):
 E=303/\s'.ops.length<=2/\∀ keep torn,NmI (lossF s' keep torn)/\(lossF s' keep torn (fileN nmS)=K (fileN nmS)∨lossF s' keep torn (fileN nmS)=some bs):=by
 obtain ⟨g1,g2⟩:=renew_gates (K:=K) (f:=f) (n2:=n2) hb hn;obtain ⟨r1,r2,r3,r4⟩:=renew_now (bs:=bs) hns;have k0:NmI K/\(K (fileN nmS)=K (fileN nmS)∨K (fileN nmS)=some bs):=⟨hns,.inl rfl⟩
 have kt:∀ t:Int,NmI (applyF K ((crOp nmS bs).cutTo t))/\(applyF K ((crOp nmS bs).cutTo t) (fileN nmS)=K (fileN nmS)∨applyF K ((crOp nmS bs).cutTo t) (fileN nmS)=some bs):=fun t=>by
  have:=renew_now (bs:=bs.take t.toNat) hns;exact ⟨this.1,.inl this.2.1⟩
 rcases h with ⟨e1,rfl⟩ | ⟨e0,e1,rfl⟩
 · by_cases hr:reqE ⟨K,[],false,f⟩ n1 (crOp nmS bs)=0
   · have hf:=(reqE_zero hr).2;have ed:=(req_unf hr).2.2
     have e2:E=reqE (St.did ⟨K,[],false,f⟩ (crOp nmS bs)) n2 (rnOp nmS):=by
      rw [e1];unfold rqE;rw [if_pos hr,ed]
     have hdn:=did_up (s:=⟨K,[],false,f⟩) (o:=crOp nmS bs) rfl hf;have hg:gate (St.did ⟨K,[],false,f⟩ (crOp nmS bs)) n2 (rnOp nmS)=0:=(gate_of (s:=⟨K,[crOp nmS bs],false,f⟩) hdn rfl).trans (g2 f);obtain ⟨e3,e4⟩:=req_lost hg e2 h0
     have e5:rqS ⟨K,[],false,f⟩ nmS n1 n2 bs=⟨K,[crOp nmS bs],true,0⟩:=by
      unfold rqS;rw [if_pos hr,ed,e4];rfl
     rw [e5];refine ⟨e3,by simp,fun keep torn=>?_⟩;rcases loss1 K (crOp nmS bs) true 0 keep torn with h | ⟨_,h⟩ | h
     · rw [h];exact k0
     · rw [h];exact kt torn
     rw [h];exact ⟨r1,.inl r2⟩
   have e2:E=reqE ⟨K,[],false,f⟩ n1 (crOp nmS bs):=by
    rw [e1];unfold rqE;rw [if_neg hr]
   obtain ⟨e3,e4⟩:=req_lost g1 e2 h0
   have e5:rqS ⟨K,[],false,f⟩ nmS n1 n2 bs=⟨K,[],true,0⟩:=by
    unfold rqS;rw [if_neg hr,e4];rfl
   rw [e5];refine ⟨e3,by simp,fun keep torn=>?_⟩;rw [loss_none _ _ _ rfl];exact k0
 obtain ⟨hr,hr2,e2⟩:=rq_did e0;have hd1:=did_up (s:=⟨K,[],false,f⟩) (o:=crOp nmS bs) rfl (reqE_zero hr).2;have hd2:=did_up (o:=rnOp nmS) hd1 (reqE_zero hr2).2;rw [e2] at e1 |-; obtain ⟨e3,e4⟩:=sync_lost hd2 e1 h0
 have e5:syncS ((St.did ⟨K,[],false,f⟩ (crOp nmS bs)).did (rnOp nmS))=⟨K,[crOp nmS bs,rnOp nmS],true,0⟩:=by
  rw [e4];rfl
 rw [e5];refine ⟨e3,by simp,fun keep torn=>?_⟩;rcases loss2 K (crOp nmS bs) (rnOp nmS) true 0 keep torn rfl with h | ⟨_,h⟩ | h | h
 · rw [h];exact k0
 · rw [h];exact kt torn
 · rw [h];exact ⟨r1,.inl r2⟩
 rw [h];exact ⟨r3,.inr r4⟩
theorem one_lost {n:Nat} {o:POp} {E:Int} (hg:gate ⟨K,[],false,f⟩ n o=0) (h0:E≠0) (h:E=reqE ⟨K,[],false,f⟩ n o):E=303/\(reqS ⟨K,[],false,f⟩ n o).ops.length<=2/\∀ keep torn,lossF (reqS ⟨K,[],false,f⟩ n o) keep torn=K:=by
 obtain ⟨e3,e4⟩:=req_lost hg h h0;have e5:reqS ⟨K,[],false,f⟩ n o=⟨K,[],true,0⟩:=e4;rw [e5];exact ⟨e3,by simp,fun keep torn=>loss_none _ _ _ rfl⟩
theorem one_sync {n:Nat} {o:POp} {E:Int} (h0:E≠0) (e0:reqE ⟨K,[],false,f⟩ n o=0) (h:E=syncE (reqS ⟨K,[],false,f⟩ n o)):
 E=303/\(syncS (reqS ⟨K,[],false,f⟩ n o)).ops.length<=2/\∀ keep torn,lossF (syncS (reqS ⟨K,[],false,f⟩ n o)) keep torn=K∨(o.tears=true/\lossF (syncS (reqS ⟨K,[],false,f⟩ n o)) keep torn=applyF K (o.cutTo torn))∨lossF (syncS (reqS ⟨K,[],false,f⟩ n o)) keep torn=applyF K o:=by
 have ed:=(req_unf e0).2.2;have hd1:=did_up (s:=⟨K,[],false,f⟩) (o:=o) rfl (reqE_zero e0).2;rw [ed] at h |-; obtain ⟨e3,e4⟩:=sync_lost hd1 h h0
 have e5:syncS (St.did ⟨K,[],false,f⟩ o)=⟨K,[o],true,0⟩:=by
  rw [e4];rfl
 rw [e5];exact ⟨e3,by simp,fun keep torn=>loss1 K o true 0 keep torn⟩
theorem one_ok {n:Nat} {o:POp} (e0:reqE ⟨K,[],false,f⟩ n o=0) (e1:syncE (reqS ⟨K,[],false,f⟩ n o)=0):∃ f',syncS (reqS ⟨K,[],false,f⟩ n o)=⟨applyF K o,[],false,f'⟩:=by
 have h3:=(sync_unf e1).2.2;rw [(req_unf e0).2.2] at h3 |-; exact ⟨_,h3⟩
end
end
end Go.Proofs.YteabgcollokgjaaGreatDoor
