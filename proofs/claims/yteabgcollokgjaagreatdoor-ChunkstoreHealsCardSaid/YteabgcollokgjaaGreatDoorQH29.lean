/- Q -/
import Derived.Test.YteabgcollokgjaaGreatDoorQH28
set_option linter.unusedSimpArgs false
set_option linter.unusedVariables false
set_option maxRecDepth 100000
set_option maxHeartbeats 32000000
open Go.Lib renaming hid → kh
open List renaming getD_eq_getElem?_getD → zA,length_append → zB,mem_cons_self → zC,length_take → zD,map_cons → zE,length_cons → zF,map_append → zG,mem_append → zH,getElem?_eq_getElem → zI,mem_singleton → zJ,getElem?_take_of_lt → zK
open Nat renaming zero_le → zL
namespace Go.Proofs.YteabgcollokgjaaGreatDoor
section
open Go.RowKit Go.MapKept Go.ChangeMaps Go.Shelf Go.Sort
attribute [local go_sem] wext_cell
def SInv (C:Chs) (o:Nat):Prop:=LAt C/\C.length<=o/\∀ i∈C.map (·.1),okID i/\1<=i.2/\i.2<=4194304
theorem SInv.mono {C:Chs} {o o':Nat} (h:SInv C o) (ho:o<=o'):SInv C o':=⟨h.1,Nat.le_trans h.2.1 ho,h.2.2⟩
theorem SInv.set {C:Chs} {o:Nat} (h:SInv C o) {i:ID} (hi:okID i) (h1:1<=i.2) (h2:i.2<=4194304) {q:Nat} (hq:q<=4194304):SInv (setL C i (.at q)) (o+1):=by
 refine ⟨h.1.set i q hq,Nat.le_trans (setL_length _ _ _) (by have:=h.2.1;omega),fun j hj=>?_⟩;rcases (setL_keys C i (Pl.at q) j).1 hj with hj | hj
 · subst hj;exact ⟨hi,h1,h2⟩
 exact h.2.2 j hj
theorem SInv.found {C:Chs} {o:Nat} (h:SInv C o) {i:ID} (hi:okID i) (h1:1<=i.2) (h2:i.2<=4194304) {q:Nat} (hq:q<=4194304) (bs:List UInt8) (T:List (ID×Bool)):SInv (foundC bs C T i q).1 (o+1):=by
 unfold foundC;split
 · exact h.set hi h1 h2 hq
 · exact h.mono (by omega)
 simp only;split
 · exact h.set hi h1 h2 hq
 exact h.mono (by omega)
theorem scan_inv (bs:List UInt8) (hn:bs.length<=4194304):∀ (n o:Nat) (C:Chs) (T:List (ID×Bool)) (cl:Bool),o<=bs.length->SInv C o->SInv (scanF bs n o C T cl).1 bs.length:=by
 intro n;induction n with
 | zero=>intro o C T cl ho h;exact h.mono ho
 | succ n ih=>
  intro o C T cl ho h;rw [scanF];split
  · cases hr:rdHead bs o with
    | none=>exact ih _ _ _ _ (by omega) (h.mono (by omega))
    | some i=>
     simp only;split
     · exact h.mono ho
     rename_i h1
     obtain ⟨hid,h28⟩:=rdHead_some hr;have hok:okID i:=hid ▸ rdID_ok bs o;exact ih _ _ _ _ (by omega) ((h.found hok (by omega) (by omega) (by omega) bs T).mono (by omega))
  exact h.mono ho
def openedF (p:Nat) (r:Rp) (s:St) (nm:ByteArray) (H fb sb:Nat) (bs:List UInt8):SR:=⟨p,H+2,H,H+1,r,s,nm,(scanF bs bs.length 0 [] [] true).1,some ⟨fb,sb,bs.length,(scanF bs bs.length 0 [] [] true).2.2,(scanF bs bs.length 0 [] [] true).2.1⟩,0,sizeC (scanF bs bs.length 0 [] [] true).1,false⟩
def OpenOne (b p:Nat) (r:Rp) (s:St) (nm:ByteArray) (bs:List UInt8) (l:List Ob) (w:World) (e:Ending) (w':World):Prop:=
 ∃ H fb sb,w.heap.size<=H/\e= .returned (.tuple #[vPtr (H+2),.int .i64 0])/\SW b w ((openedF p r s nm H fb sb bs).obs l) w'
theorem SW.unRange {b:Nat} {w0 w:World} {l:List Ob} (h:SW b w0 l w) (k:Nat) {cm r cnt:Nat} {C done:Chs} (hk:l[k]? =some (itOb cm r C done cnt)) (hC:∀ c∈C,∃ q,c.2=Pl.at q):SW b w0 (l.set k (chOb cm C)) w:=by
 have hr:RIs okID vID vPl w cm r C done cnt:=h.get k hk
 have hp:∀ id d bs,(id,Pl.pend d bs) ∉ C:=fun id d bs hm=>by
  obtain ⟨q,e⟩:=hC _ hm;cases e
 have:=h.1.stepAt k hk (w':=w) (o':=chOb cm C) ⟨rfl,rfl,rfl,Nat.le_refl _,fun _ _ _=>rfl,fun i hi=> .inl (.inl hi)⟩ (fun i hi=>by
  obtain ⟨id,d,bs,hm,_⟩:=hi;exact absurd hm (hp id d bs)) ⟨hr.map,fun id d bs hm=>absurd hm (hp id d bs)⟩ (fun i hi=>by
  rcases hi with hi | ⟨id,d,bs,hm,_⟩
  · have e:i=cm:=hi;rw [e];exact hr.map.lt
  exact absurd hm (hp id d bs))
 exact ⟨this.1,h.2.trans this.2⟩
theorem sizeC_snoc (C:Chs) (c:ID×Pl):sizeC (C++[c])=sizeC C+c.1.2:=by simp [sizeC]
theorem sizeC_perm {C D:Chs} (h:C.Perm D):sizeC C=sizeC D:=by
 induction h with
 | nil=>rfl
 | cons c _ ih=>
  simp only [sizeC,zE,List.sum_cons] at ih |-; rw [ih]
 | swap c d l=>
  simp only [sizeC,zE,List.sum_cons];omega
 | trans _ _ ih1 ih2=>exact ih1.trans ih2
theorem sizeC_le4 (D:Chs) (h:∀ c∈D,1<=c.1.2/\c.1.2<=4194304):0<=sizeC D/\sizeC D<=D.length*4194304:=by
 induction D with
 | nil=>simp [sizeC]
 | cons c D ih=>
  have h1:=ih (fun c hc=>h c (by simp [hc]));have h2:=h c (by simp);have h3:sizeC (c::D)=c.1.2+sizeC D:=by simp [sizeC]
  rw [h3,zF];omega
theorem Open_one {b:Nat} {w:World} {p:Nat} {r:Rp} {s:St} {l:List Ob} (h:Sep b w (devOb p r s::l)) (nm:ByteArray) (bs:List UInt8) (hn:nameV nm=true) (hd:s.dn=false) (hN:∀ m,(s.now m).isSome=true↔m=fileN nm) (hE:readE s (fileN nm)=0) (hB:readB s (fileN nm)=bs):Calls Tryz.prog 20 #[vPtr p,.string nm] w (OpenOne b p r s nm bs l w):=by
 have hsz:=nameV_size hn;have HV:=kh (validStore_any nm w (by unfold maxLen;omega));rw [hn] at HV;have HD:=kh (Down_any p r s w h.head);rw [hd] at HD
 have hbl:bs.length<=4194304:=by
  have hdv:DV w p r s:=h.head;have:=readB_len hdv.ok (fileN nm);rw [hB] at this;exact this
 have hm1:(Instr.makeMap 128 none).run Tryz.prog w= .ok (.map (some w.heap.size)) (w.alloc (.map #[] 0)):=by simp [Instr.makeMap,run_underlying Tryz.underlying128]
 have hm2:(Instr.makeMap 129 none).run Tryz.prog (w.alloc (.map #[] 0))= .ok (.map (some (w.heap.size+1))) ((w.alloc (.map #[] 0)).alloc (.map #[] 0)):=by simp [Instr.makeMap,run_underlying Tryz.underlying129]
 have S1:SW b w (flOb (w.heap.size+1) none::chOb w.heap.size []::devOb p r s::l) ((w.alloc (.map #[] 0)).alloc (.map #[] 0)):=by
  have:=((SW.refl h).newMap).newFl;simpa using this
 have S2:Hid (SW b w ((openedS p r s nm w.heap.size).obs l) (((w.alloc (.map #[] 0)).alloc (.map #[] 0)).alloc (.cells #[.pointer (some ⟨p,0,none⟩),.string nm,.map (some w.heap.size),.map (some (w.heap.size+1)),.int .i64 0,.int .i64 0,.bool false] 131))):=
  SW.front (pre:=[_,_,_,_]) (t:=l) (S1.newCellAt 131 #[.pointer (some ⟨p,0,none⟩),.string nm,.map (some w.heap.size),.map (some (w.heap.size+1)),.int .i64 0,.int .i64 0,.bool false] (H:=w.heap.size+2) (by simp)) [3,0,2,1] (n:=4) rfl (by decide)
 have HLO:=kh (load_one (x:=openedS p r s nm w.heap.size) S2.out.1 rfl rfl (by show nm.size<=1000;omega) hN hE hB);have HSI:=kh (scan_inv bs hbl bs.length 0 [] [] true (by omega) ⟨LAt.nil,by simp,by simp⟩);unfold OpenOne openedF;obtain ⟨⟨C,T,cl⟩,HFIN⟩:∃ F,Hid (scanF bs bs.length 0 [] [] true=F):=⟨_,rfl⟩;rw [HFIN.out] at HLO HSI |-; simp only at HLO HSI |-; clear h hn hd hN hE hB S1 HFIN;go_enter Tryz.func20,Tryz.ntmps20;go_wp2_with (first | (go_at_call 81;(with_reducible refine HV.out.mono ?_);rintro e w1 ⟨rfl,rfl⟩) | (go_at_call 82;(with_reducible refine HD.out.mono ?_);rintro e w1 ⟨rfl,rfl⟩) | (go_at_call 83;refine halt_ ?_))
 refine HLO.out.mono ?_;rintro e w1 ⟨rfl,fb,sb,s3⟩;have S3:=kh (S2.out.then s3);clear s3 HLO S2 hm1 hm2;have k2:w1.cell? ⟨w.heap.size+1+1,2,none⟩=some (.map (some w.heap.size)):=(S3.out.cell 1 rfl).cell 2;have HM:=kh (S3.out.get 2 (o:=chOb w.heap.size C) rfl).1;go_wp2_with (at_range;(refine wpList_range_is _ rfl _ 128 rfl 31 138 Tryz.underlying128 w.heap.size C rfl HM.out ?_);intro w4 hrg hg hs;have SWr:=kh (S3.out.range 2 rfl hrg hg);clear hrg hg hs)
 obtain ⟨q,Hq⟩:∃ q,Hid (w1.heap.size=q):=⟨_,rfl⟩;rw [Hq.out] at SWr;rw [Hq.out];clear Hq HM S3 k2;have SW0:Hid (SW b w (devOb p r s::cellOb (w.heap.size+2) 131 #[.pointer (some ⟨p,0,none⟩),.string nm,.map (some w.heap.size),.map (some (w.heap.size+1)),.int .i64 0,.int .i64 (0),.bool false]::itOb w.heap.size q C [] C.length::flOb (w.heap.size+1) (some ⟨fb,sb,bs.length,cl,T⟩)::l) w4):=SWr.out;clear SWr;go_loopw [] (fun wr=>∃ (done:Chs) (cnt:Nat),done.length+cnt<=C.length/\(∀ c∈done,c∈C)/\SW b w (devOb p r s::cellOb (w.heap.size+2) 131 #[.pointer (some ⟨p,0,none⟩),.string nm,.map (some w.heap.size),.map (some (w.heap.size+1)),.int .i64 0,.int .i64 (sizeC done),.bool false]::itOb w.heap.size q C done cnt::flOb (w.heap.size+1) (some ⟨fb,sb,bs.length,cl,T⟩)::l) wr) (fun wr=>wr.rangeLeft w.heap.size q)
 case atStart=>exact ⟨[],C.length,by simp,by simp,SW0.out⟩
 obtain ⟨done,cnt,hdc,hsub,hs⟩:=hrel;have S6:=kh hs;have HRI:=kh (hs.get 2 (o:=itOb w.heap.size q C done cnt) rfl:RIs okID vID vPl wr w.heap.size q C done cnt);have Hleft:=kh HRI.out.left_eq;have HSUB:=kh hsub;clear hs SW0 hsub;go_wp2_with (at_next;(refine wpList_next_ch _ rfl _ rfl w.heap.size q C done cnt rfl HRI.out (fun hp=>?_) (fun i pl w5 cnt1 hc1 hrg1 hlt1 hg1 hs1 hen=>halt_ ?_)))
 · have HP:=kh hp;clear hp;go_wp2_with fail
   go_ret2;refine ⟨w.heap.size,fb,sb,Nat.le_refl _,rfl,?_⟩;rw [<- sizeC_perm HP.out]
   exact S6.out.unRange 2 rfl (fun c hc=>by
    obtain ⟨q',e,_⟩:=HSI.out.1 c.1 c.2 (asc_mem (HRI.out.map.nodup) hc);exact ⟨q',e⟩)
 have S7:=kh (S6.out.next 2 rfl hrg1 hg1);have HI:=kh (HSI.out.2.2 i (List.mem_map.2 ⟨_,hc1,rfl⟩));have Hlt:=kh hlt1;have HC1:=kh hc1;clear hrg1 hg1 hs1 hlt1 S6 HRI hc1;have S8:Hid (SW b w (cellOb w5.heap.size 31 #[.int .u64 i.1,.int .i64 i.2]::devOb p r s::cellOb (w.heap.size+2) 131 #[.pointer (some ⟨p,0,none⟩),.string nm,.map (some w.heap.size),.map (some (w.heap.size+1)),.int .i64 0,.int .i64 (sizeC done),.bool false]::itOb w.heap.size q C (done++[(i,pl)]) cnt1::flOb (w.heap.size+1) (some ⟨fb,sb,bs.length,cl,T⟩)::l) (w5.alloc (.cells #[.int .u64 i.1,.int .i64 i.2] 31))):=S7.out.newCell 31 _;clear S7;refine kh ?_;go_upto_region 12 with fail
 generalize w5.alloc (.cells #[.int .u64 i.1,.int .i64 i.2] 31)=W6 at S8 |-; generalize w5.heap.size=H6 at S8 |-; have c5:W6.cell? ⟨w.heap.size+2,5,none⟩=some (.int .i64 (sizeC done)):=(S8.out.cell 2 rfl).cell 5;have f5:W6.frozen? ⟨w.heap.size+2,5,none⟩=false:=(S8.out.cell 2 rfl).frozen 5;have d1:W6.cell? ⟨H6,1,none⟩=some (.int .i64 i.2):=(S8.out.cell 0 rfl).cell 1;have hb1:=sizeC_le4 done (fun c hc=>(HSI.out.2.2 c.1 (List.mem_map.2 ⟨c,HSUB.out c hc,rfl⟩)).2);have hb2:=HSI.out.2.1;have hb3:=HI.out.2;have hsum:IntKind.i64.wrap (sizeC done+i.2)=sizeC done+i.2:=IntWalk.i64_in _ (by omega);clear hen;go_region
 have S9:=kh ((S8.out.setAt 2 rfl 5 (.int .i64 (sizeC done+i.2))).tail.drew);clear S8 c5 f5 d1 hsum hb1 hb2 hb3;go_wp2_with fail
 go_roundw
 case rel=>
  refine ⟨done++[(i,pl)],cnt1,by have:=Hlt.out;rw [zB,List.length_singleton];omega,fun c hc=>?_,?_⟩
  · rcases List.mem_append.1 hc with hc | hc
    · exact HSUB.out c hc
    rw [List.mem_singleton.1 hc];exact HC1.out
  rw [sizeC_snoc];exact S9.out
 have h1:RIs okID vID vPl _ w.heap.size q C (done++[(i,pl)]) cnt1:=S9.out.get 2 rfl;exact Nat.lt_of_le_of_lt (Nat.le_of_eq h1.left_eq) (Nat.lt_of_lt_of_eq Hlt.out Hleft.out.symm)
end
section
open Go.RowKit Go.MapKept Go.ChangeMaps Go.Shelf Go.Sort
attribute [local go_sem] wext_cell
structure BS where
 d:BD
 bs:List UInt8
def bs0:BS:=⟨⟨none,0,0⟩,[]⟩
def encB (e:BS):List Value:=[.slice e.d.A e.d.len e.d.cap]
theorem encB_len (e:BS):(encB e).length=1:=rfl
def blOb (A:Option Addr) (T:List BS):Ob where
 own:=fun _=>False
 rd:=fun i=>(0<T.length/\A=some ⟨i,0,none⟩)∨∃ e∈T,blk e.d=some i
 holds:=fun w=>RowV w 34 1 A T.length (T.flatMap encB)/\∀ e∈T,RB w e.d e.bs
 stable:=fun w w' h hs hk=>by
  refine ⟨h.1.same (fun i hn e=>hk i (.inr (.inl ⟨hn,e⟩))),fun e he=>?_⟩;have hc:Ch w w' (fun i=>¬ blk e.d=some i) []:=⟨hs.1,hs.2.1,hs.2.2.1,hs.2.2.2,fun i _ hn _=>hk i (.inr (.inr ⟨e,he,Classical.not_not.1 hn⟩)),by simp⟩;exact (h.2 e he).ch hc (fun g hg hn=>hn hg) (by simp)
theorem blOb_lt {w:World} {A:Option Addr} {T:List BS} (h:(blOb A T).holds w) {i:Nat} (hi:(blOb A T).rd i):i<w.heap.size:=by
 rcases hi with ⟨hn,e⟩ | ⟨e,he,ea⟩
 · exact h.1.lt hn e
 exact (h.2 e he).lt ea
theorem blOb_at {w:World} {A:Option Addr} {T:List BS} (h:(blOb A T).holds w) {j:Nat} (hj:j<T.length) {e:BS} (he:T.getD j bs0=e):∃ g,A=some ⟨g,0,none⟩/\g<w.heap.size/\w.cell? ⟨g,j,none⟩=some (.slice e.d.A e.d.len e.d.cap)/\RB w e.d e.bs:=by
 obtain ⟨g,e1,hlt,hc⟩:=h.1.at (by omega);refine ⟨g,e1,hlt,?_,h.2 e ?_⟩
 · have:=flat_at encB_len bs0 T j 0 hj (by omega);rw [he] at this;rw [hc j (by omega)];simpa [encB] using this
 rw [<- he,zA,zI hj];exact List.getElem_mem hj
def DistB (T:List BS):Prop:=∀ j k,j<T.length->k<j->fpOf (T.getD j bs0).bs=fpOf (T.getD k bs0).bs->(T.getD j bs0).bs=(T.getD k bs0).bs
abbrev DistP (T:List BS) (w:World) (e:Ending) (w':World):Prop:=∃ v:Bool,e= .returned (.bool v)/\(v=true->DistB T)/\Below w.heap.size w w'
theorem Distinct_any {w:World} {A:Option Addr} {T:List BS} (h:(blOb A T).holds w) (c:Nat) (hl:T.length<=100000) (hb:∀ e∈T,e.bs.length<=1000000):Calls Tryz.prog 57 #[.slice A T.length c] w (DistP T w):=by
 have S0:=kh (SW.start (o:=blOb A T) h (fun _ h=>h) (fun _ h'=>blOb_lt h h'));have HB:=kh hb;clear h hb;go_enter Tryz.func57,Tryz.ntmps57;go_wp2_with fail
 go_loopw [3,4] (fun s3 s4 wr=>∃ (j:Nat) (D:Option Addr) (cap:Nat),j<=T.length/\s4= .int .i64 (j:Int)/\s3= .slice D ((T.take j).map fun e=>fpOf e.bs).length cap/\DistB (T.take j)/\SW w.heap.size w [rowOb 31 2 (.slice D ((T.take j).map fun e=>fpOf e.bs).length cap) ((T.take j).map fun e=>fpOf e.bs).length (((T.take j).map fun e=>fpOf e.bs).flatMap encID),blOb A T] wr) (fun _ s4 _=>T.length-(intOf s4).toNat)
 case atStart=>exact ⟨0,none,0,zL _,rfl,rfl,(fun j k hj=>by simp at hj),S0.out.newRow 31 2⟩
 obtain ⟨j,D,cap,hj,rfl,rfl,hd,hs⟩:=hrel;have HD:=kh hd;have S1:=kh hs;clear hd hs S0;by_cases hlt:j<T.length
 · obtain ⟨e,he⟩:∃ e,T.getD j bs0=e:=⟨_,rfl⟩;obtain ⟨g,hA,hgl,a0,hrb⟩:=blOb_at (S1.out.get 1 (o:=blOb A T) rfl) hlt he
   have hel:e.bs.length<=1000000:=by
    refine HB.out e ?_;rw [<- he,zA,zI hlt];exact List.getElem_mem hlt
   have hdl:e.d.len=e.bs.length:=hrb.1.symm;rw [hdl] at a0;have HOF:=kh (rOf_any e.d.A e.d.cap e.bs wr hrb.rs (by omega));obtain ⟨i,HI⟩:∃ i,Hid (fpOf e.bs=i):=⟨_,rfl⟩;rw [HI.out] at HOF
   have hts:T.take (j+1)=T.take j++[e]:=by
    rw [List.take_succ_eq_append_getElem hlt, <- he,zA,zI hlt];rfl
   have HTS:Hid ((T.take (j+1)).map (fun e=>fpOf e.bs)=(T.take j).map (fun e=>fpOf e.bs)++[i]):=by rw [Hid,hts,zG, <- HI.out];rfl
   have hFl:((T.take j).map fun e=>fpOf e.bs).length=j:=by rw [List.length_map,zD];omega
   have HF:Hid (∀ k,k<j->((T.take j).map fun e=>fpOf e.bs).getD k id0=fpOf (T.getD k bs0).bs):=fun k hk=>by
    have hk2:k<T.length:=by omega
    rw [zA,List.getElem?_map,zK hk,zA,zI hk2];rfl
   generalize ((T.take j).map fun e=>fpOf e.bs)=F at S1 HTS hFl HF |-; have HE:=kh he;obtain ⟨i1,gi,gz0,gz1,gz2⟩:=info_parts info31;rw [hA];have HFl:=kh hFl;clear hts he hrb hFl hdl;go_wp2_with (first | (go_at_call 94;(with_reducible refine HOF.out.mono ?_);refine halt_ ?_) | (at_builtin;refine halt_ ?_))
   rintro e2 w2 ⟨rfl,hb2⟩;have S2:=kh (S1.out.on hb2);clear hb2 HOF S1;go_wp2_with (at_builtin;(refine wpList_rowS (t:=38) (e:=31) (size:=2) (bytes:=16) (i:=i1) (S2.out.alloc _) 0 rfl (by rfl) (.tmp 12) (.tmp 18) (by rfl) Tryz.underlying38 gi gz0 gz1 gz2 rfl (by omega) (by rfl) ⟨w2.heap.size,0,none⟩ 1 [.int .u64 i.1,.int .i64 i.2] (by rfl) rfl (two_new w2 _ _ 31 _ rfl) (encID_one i) (by unfold maxLen;have:=HFl.out;omega) (by have:=HFl.out;omega) ?_);refine halt_ ?_)
   intro v4 w4 s4;have hFl:=HFl.out;obtain ⟨g4,c4,rfl⟩:=own_some (s4.get 0 rfl) (by omega);obtain ⟨G,HG⟩:∃ G,Hid (F++[i]=G):=⟨_,rfl⟩;have hGl:G.length=j+1:=by rw [<- HG.out,zB,hFl];rfl
   have S4:Hid (SW w.heap.size w [rowOb 31 2 (.slice (some ⟨g4,0,none⟩) G.length c4) G.length (G.flatMap encID),blOb (some ⟨g,0,none⟩) T] w4):=by
    rw [Hid, <- HG.out,List.flatMap_append,zB];exact s4
   have HGk:Hid (∀ k,k<j->G.getD k id0=fpOf (T.getD k bs0).bs):=fun k hk=>by
    rw [<- HG.out,zA,List.getElem?_append_left (by omega), <- zA];exact HF.out k hk
   have HGj:Hid (G.getD j id0=i):=by
    rw [Hid, <- HG.out,zA,List.getElem?_append_right (by omega),hFl,Nat.sub_self];rfl
   rw [HG.out] at HTS;have e4:F.length+1=G.length:=by rw [hGl,hFl]
   rw [e4];have HGl:=kh hGl;clear s4 S2 a0 HF HG e4 hFl hGl;go_wp2_with fail
   rename World=>wq;go_loopw [5] (fun s5 wr=>∃ k:Nat,k<=j/\s5= .int .i64 (k:Int)/\(∀ m,m<k->fpOf e.bs=fpOf (T.getD m bs0).bs->e.bs=(T.getD m bs0).bs)/\SW w.heap.size w [rowOb 31 2 (.slice (some ⟨g4,0,none⟩) G.length c4) G.length (G.flatMap encID),blOb (some ⟨g,0,none⟩) T] wr) (fun s5 _=>j-(intOf s5).toNat)
   case atStart=>exact ⟨0,zL _,rfl,(fun m hm=>by omega),S4.out⟩
   obtain ⟨k,hk,rfl,hin,hs⟩:=hrel;have HIN:=kh hin;have S5:=kh hs;clear hin hs S4;by_cases hkj:k<j
   · obtain ⟨f,hf⟩:∃ f,T.getD k bs0=f:=⟨_,rfl⟩;obtain ⟨g',hA',hgl',b0,hrbk⟩:=blOb_at (S5.out.get 1 (o:=blOb (some ⟨g,0,none⟩) T) rfl) (by omega) hf;obtain ⟨g'',hA'',_,b1,hrbj⟩:=blOb_at (S5.out.get 1 (o:=blOb (some ⟨g,0,none⟩) T) rfl) hlt HE.out;injection hA' with hA';injection hA' with hA';subst hA';injection hA'' with hA'';injection hA'' with hA'';subst hA'';obtain ⟨_,hrow,hrl,_⟩:=own_rowI (S5.out.get 0 (o:=rowOb 31 2 (.slice (some ⟨g4,0,none⟩) G.length c4) G.length (G.flatMap encID)) rfl);obtain ⟨p0,p1,_,_⟩:=hrow.cells (j:=j) (by have:=HGl.out;omega) HGj.out;obtain ⟨q,hq⟩:∃ q,fpOf f.bs=q:=⟨_,rfl⟩;have hGk:=HGk.out k hkj;rw [hf,hq] at hGk;obtain ⟨q0,q1,_,_⟩:=hrow.cells (j:=k) (by have:=HGl.out;omega) hGk;have heq:=fun W=>eql31 i q W;have hjG:j<G.length:=by have:=HGl.out;omega
     have hkG:k<G.length:=by have:=HGl.out;omega
     have hkT:k<T.length:=by omega
     have v1:=fun q:Ext wr=>conv_rb (hrbj.on (wext_below q));have v2:=fun q:Ext wr=>conv_rb (hrbk.on (wext_below q));have HFK:=kh hf;have HQ:=kh hq;clear hrow hf hq hGk hA hrbk hrbj;by_cases e1:i=q
     · rw [decide_eq_true e1] at heq;clear e1;by_cases e2:e.bs=f.bs
       · rw [<- e2] at v2;have E2:=kh e2;clear e2;go_upto_region 9 with fail
         refine wp_region_ext (by kernel_rfl) (by kernel_rfl) ?_;repeat (go_big_quiet_step (fail))
         refine wpQuiet_nil ?_;intro w9 hb9;go_wp2_with fail
         go_roundw
         case rel=>
          refine ⟨k+1,by omega,by go_num,fun m hm he=>?_,S5.out.on hb9⟩;by_cases e3:m=k
          · subst e3;rw [HFK.out];exact E2.out
          exact HIN.out m (by omega) he
         simp [intOf];omega
       have hne:(e.bs==f.bs)=false:=beq_eq_false_iff_ne.2 e2;go_upto_region 9 with fail
       refine wp_region_ext (by kernel_rfl) (by kernel_rfl) ?_;repeat (go_big_quiet_step (fail))
       refine wpQuiet_nil ?_;intro w9 hb9;go_wp2_with fail
       go_ret;exact ⟨false,rfl,(fun h=>by cases h),(S5.out.on hb9).2⟩
     rw [decide_eq_false e1] at heq;have E1:=kh e1;clear e1;go_upto_region 9 with fail
     refine wp_region_ext (by kernel_rfl) (by kernel_rfl) ?_;repeat (go_big_quiet_step (fail))
     refine wpQuiet_nil ?_;intro w9 hb9;go_wp2_with fail
     go_roundw
     case rel=>
      refine ⟨k+1,by omega,by go_num,fun m hm he=>?_,S5.out.on hb9⟩;by_cases e2:m=k
      · subst e2;rw [HFK.out,HQ.out,HI.out] at he;exact absurd he E1.out
      exact HIN.out m (by omega) he
     simp [intOf];omega
   obtain rfl:k=j:=by omega
   go_wp2_with fail
   go_roundw
   case rel=>
    refine ⟨k+1,some ⟨g4,0,none⟩,c4,by omega,by go_num,?_,?_,?_⟩
    · rw [HTS.out]
    · have hlt':=hlt
      have ht:∀ m,m<=k->(T.take (k+1)).getD m bs0=T.getD m bs0:=fun m hm=>by
       rw [zA,zK (by omega), <- zA]
      intro a m ha hm hf;rw [zD] at ha;rw [ht a (by omega),ht m (by omega)] at hf |-; by_cases e1:a=k
      · subst e1;rw [HE.out] at hf |-; exact HIN.out m hm hf
      have ht2:∀ m,m<k->(T.take k).getD m bs0=T.getD m bs0:=fun m hm=>by
       rw [zA,zK hm, <- zA]
      have:=HD.out a m (by rw [zD];omega) hm;rw [ht2 a (by omega),ht2 m (by omega)] at this;exact this hf
    rw [HTS.out];exact S5.out
   simp [intOf];omega
 obtain rfl:j=T.length:=by omega
 rw [List.take_length] at HD;go_wp2_with fail
 go_ret;exact ⟨true,rfl,fun _=>HD.out,S1.out.2⟩
theorem SW.rowBl {b:Nat} {w0 w:World} {A:Option Addr} {c:Nat} {T:List BS} {t:List Ob} (h:SW b w0 (rowOb 34 1 (.slice A T.length c) T.length (T.flatMap encB)::t) w) (hb:∀ e∈T,RB w e.d e.bs):RowV w 34 1 A T.length (T.flatMap encB):=
 (RowV.of_own (h.get 0 (o:=rowOb 34 1 (.slice A T.length c) T.length (T.flatMap encB)) rfl)).1
theorem info34:(Tryz.prog.info? 34).map (fun i=>(i.zero,i.size,i.bytes))=some (some (.slice none 0 0),1,24):=by kernel_rfl
def bufsOb (T:List BS):Ob where
 own:=fun _=>False
 rd:=fun i=>∃ e∈T,blk e.d=some i
 holds:=fun w=>∀ e∈T,RB w e.d e.bs
 stable:=fun w w' h hs hk e he=>by
  have hc:Ch w w' (fun i=>¬ blk e.d=some i) []:=⟨hs.1,hs.2.1,hs.2.2.1,hs.2.2.2,fun i _ hn _=>hk i (.inr ⟨e,he,Classical.not_not.1 hn⟩),by simp⟩;exact (h e he).ch hc (fun g hg hn=>hn hg) (by simp)
end
section
open Go.RowKit Go.MapKept Go.ChangeMaps Go.Shelf Go.Sort
def tbytes (L:List Int) (n:Nat) (k:Int):Nat->List UInt8
 | 0=>[]
 | c+1=>tbytes L n k c++[UInt8.ofNat (tnext L (n+c) k).toNat]
theorem tbytes_len (L:List Int) (n:Nat) (k:Int):∀ c,(tbytes L n k c).length=c
 | 0=>rfl
 | c+1=>by rw [tbytes,zB,tbytes_len L n k c];rfl
theorem sb_const (w:World) (g:Nat) (hg:g=w.heap.size) (bs:List UInt8) (fr:Nat×Nat):SB (w.alloc (.cells (bs.map encU).toArray 5 fr)) (some ⟨g,0,none⟩) bs:=by
 subst hg;refine ⟨(fun e=>by cases e),fun ad e j u hu=>?_⟩;injection e with e;subst e;rw [lit_add,Nat.zero_add];have:(w.alloc (.cells (bs.map encU).toArray 5 fr)).heap[w.heap.size]? =some (.cells (bs.map encU).toArray 5 fr):=heap_alloc_new w _;rw [cell_of_row _ _ j _ _ _ this,List.getElem?_toArray];exact hu
theorem mk_slice (w:World) (n:Nat) (hn:n<=100000):∃ cs:Array Value,n<=cs.size/\(Instr.makeSlice 34 (.int .i64 0) (.int .i64 n)).run Tryz.prog w= .ok (.slice (some ⟨w.heap.size,0,none⟩) 0 n) (w.alloc (.cells cs 5)):=by
 obtain ⟨i0,hi,hz0,hz1,hz2⟩:=info_parts info5;have:=run_makeSlice (P:=Tryz.prog) w 34 5 i0 _ Tryz.underlying34 hi hz0 .i64 .i64 0 n (by omega) (by omega) (by rw [hz1];omega) (by rw [hz2];omega) (by omega);simp only [Int.toNat_zero,Int.toNat_natCast] at this;exact ⟨_,by rw [size_madeCells,hz1];omega,this⟩
section
variable {b:Nat} {w0 w w':World} {l:List Ob} {g:Nat} {A:Option Addr} {c:Nat} {L:List Int} {n:Nat}
theorem SW.newBuT {d:BD} {bs:List UInt8} (h:SW b w0 l w) (hb:Below w.heap.size w w') (hr:RB w' d bs) (hn:∀ g,blk d=some g->w.heap.size<=g):SW b w0 (bufOb d bs::l) w':=by
 have:=h.1.add (o':=bufOb d bs) hb hr (fun i hi=>⟨hn i hi,hr.lt hi⟩) (fun i hi=>hi.elim) (fun i hi=>hi.elim);exact ⟨this.1,h.2.trans this.2⟩
theorem SW.appB {d d':BD} {bs bs':List UInt8} (h:SW b w0 l w) (k:Nat) (hk:l[k]? =some (bufOb d bs)) (ha:AppB w d bs' d' w'):SW b w0 (l.set k (bufOb d' bs')) w':=⟨(h.1.app k hk ha).1,h.2.trans (h.1.app k hk ha).2⟩
theorem Bytes_x (h:SW b w0 l w) (kk:Nat) (hk:l[kk]? =some (tpOb g A c L n)) (m:Nat) (k:Int) (hm:m<=10000) (hk1:1<k) (hk2:k<=256) (hn:n+m<=1000000):
 Calls Tryz.prog 54 #[vPtr g,.int .i64 m,.int .i64 k] w (fun e w'=>∃ d,e= .returned (.slice d.A d.len d.cap)/\SW b w0 (bufOb d (tbytes L n k m)::l.set kk (tpOb g A c L (n+m))) w'):=by
 obtain ⟨cs,hcs,hmk⟩:=mk_slice w m (by omega);have hmx:max (m:Int) 0=m:=by omega
 have hkl:kk<l.length:=(List.getElem?_eq_some_iff.1 hk).1;have S0:Hid (SW b w0 (bufOb ⟨some ⟨w.heap.size,0,none⟩,0,m⟩ []::l) (w.alloc (.cells cs 5))):=h.newBuT ((Below.refl _ _).alloc (Nat.le_refl _) _) (new_bytes w cs _ _ _ _ rfl rfl (zL _) hcs (by simp)) (fun g hg=>by simp [blk] at hg;omega);have HK:=kh hk;clear h hk;go_enter Tryz.func54,Tryz.ntmps54;go_wp2_with fail
 go_loopw [7,8] (fun v i wr=>∃ (j:Nat) (d:BD),j<=m/\i= .int .i64 j/\v= .slice d.A d.len d.cap/\SW b w0 (bufOb d (tbytes L n k j)::l.set kk (tpOb g A c L (n+j))) wr) (fun _ i _=>m-(intOf i).toNat)
 case atStart=>
  refine ⟨0,⟨some ⟨w.heap.size,0,none⟩,0,m⟩,by omega,rfl,rfl,?_⟩;have e:l.set kk (tpOb g A c L (n+0))=l:=set_self l kk _ HK.out;rw [e];exact S0.out
 obtain ⟨j,d,hj,rfl,rfl,hs⟩:=hrel;have S1:=kh hs;clear hs hmk S0;have HN:=kh (Next_x S1.out (kk+1) (by rw [List.getElem?_cons_succ,List.getElem?_set_self hkl]) k (by omega) (by omega));simp only [List.set_cons_succ,List.set_set] at HN;by_cases hlt:j<m
 · go_wp2_with (first
    | (go_at_call 33;(with_reducible refine HN.out.mono ?_);refine halt_ ?_)
    | (at_builtin;refine halt_ ?_))
   rintro e w1 ⟨rfl,s2⟩;have S2:=kh s2;clear s2 HN;obtain ⟨hy0,hy1⟩:=tnext_in L (n+j) k;have hy1:=hy1 hk1;have HT:Hid (tbytes L n k (j+1)=tbytes L n k j++[UInt8.ofNat (tnext L (n+j) k).toNat]):=rfl;have HL:=kh (tbytes_len L n k j);generalize tbytes L n k j=bs at S1 S2 HL HT;generalize tnext L (n+j) k=y at hy0 hy1 HT |-; have hyw:IntKind.u8.wrap y=y:=IntWalk.u8_in y (by omega);obtain ⟨yb,hyb⟩:∃ yb:UInt8,((yb.toNat:Nat):Int)=y:=⟨UInt8.ofNat y.toNat,by rw [UInt8.toNat_ofNat'];omega⟩;subst hyb;have e1:UInt8.ofNat (((yb.toNat:Nat):Int)).toNat=yb:=by simp
   rw [e1] at HT;clear S1 e1;go_wp2_with (at_builtin;refine halt_ ?_)
   have hrb:RB w1 d bs:=S2.out.get 0 (o:=bufOb d bs) rfl;have SB1:Hid (SB (w1.alloc (.cells #[.int .u8 ((yb.toNat:Nat):Int)] 5)) (some ⟨w1.heap.size,0,none⟩) [yb]):=sb_const w1 _ rfl [yb] (0,0);refine wpList_append_bytes rfl _ _ rfl d bs rfl (hrb.on (bel1 _ _)) (some ⟨w1.heap.size,0,none⟩) 1 [yb] rfl SB1.out (by rw [HL.out];simp only [zF,List.length_nil];omega) ?_;intro d2 w2 hl2 happ
   have S3:Hid (SW b w0 (bufOb d2 (tbytes L n k (j+1))::l.set kk (tpOb g A c L (n+(j+1)))) w2):=by
    rw [Hid,HT.out];have:=(S2.out.alloc (.cells #[.int .u8 ((yb.toNat:Nat):Int)] 5)).appB 0 rfl happ;exact this
   clear happ hl2 hyw hy0 hy1 hrb SB1 S2;go_wp2_with fail
   go_roundw
   case rel=>exact ⟨j+1,d2,by omega,by go_num,rfl,S3.out⟩
   simp [intOf];omega
 obtain rfl:j=m:=by omega
 go_wp2_with fail
 go_ret;exact ⟨d,rfl,S1.out⟩
def textN (L:List Int) (n:Nat):Nat:=1+(tnext L n 4).toNat
def textB (L:List Int) (n:Nat):List UInt8:=tbytes L (n+1) 2 (textN L n)
theorem textN_in (L:List Int) (n:Nat):1<=textN L n/\textN L n<=4:=by
 obtain ⟨h1,h2⟩:=tnext_in L n 4;have:=h2 (by omega);unfold textN;omega
abbrev TextP (b:Nat) (w0:World) (l:List Ob) (kk g:Nat) (A:Option Addr) (c:Nat) (L:List Int) (n:Nat) (e:Ending) (w':World):Prop:=
 ∃ d,e= .returned (.slice d.A d.len d.cap)/\SW b w0 (bufOb d (textB L n)::l.set kk (tpOb g A c L (n+1+textN L n))) w'
end
section
variable {b:Nat} {w0 w w':World} {l:List Ob}
theorem SW.fuseB {d:BD} {bs:List UInt8} {T:List BS} (h:SW b w0 (bufOb d bs::bufsOb T::l) w):SW b w0 (bufsOb (T++[(⟨d,bs⟩:BS)])::l) w:=
 SW.fuse (pre:=[bufOb d bs,bufsOb T]) h (fun e he=>by
  rcases List.mem_append.1 he with he | he
  · exact (h.get 1 (o:=bufsOb T) rfl) e he
  · rw [List.mem_singleton.1 he];exact h.get 0 (o:=bufOb d bs) rfl) (fun _ h=>h) (fun i hi=>by
  obtain ⟨e,he,hb⟩:=hi;rcases List.mem_append.1 he with he | he
  · exact ⟨bufsOb T,by simp,.inr ⟨e,he,hb⟩⟩
  rw [List.mem_singleton.1 he] at hb;exact ⟨bufOb d bs,by simp,.inl hb⟩)
theorem SW.noBufs (h:SW b w0 l w):SW b w0 (bufsOb []::l) w:=SW.fuse (pre:=[]) h (fun e he=>by cases he) (fun _ h=>h) (fun i hi=>by
 obtain ⟨e,he,_⟩:=hi;cases he)
theorem SW.fuseL {A:Option Addr} {c:Nat} {T:List BS} (h:SW b w0 (rowOb 34 1 (.slice A T.length c) T.length (T.flatMap encB)::bufsOb T::l) w):SW b w0 (blOb A T::l) w:=by
 have hb:∀ e∈T,RB w e.d e.bs:=h.get 1 (o:=bufsOb T) rfl;refine SW.fuse (pre:=[rowOb 34 1 (.slice A T.length c) T.length (T.flatMap encB),bufsOb T]) h ⟨h.rowBl hb,hb⟩ (fun _ h=>h) (fun i hi=>?_);rcases hi with ⟨hp,e⟩ | ⟨e,he,hb⟩
 · refine ⟨_,zC .., .inl ?_⟩;show (Value.slice A T.length c).ownBlock=some i;rw [e];rfl
 exact ⟨bufsOb T,by simp,.inr ⟨e,he,hb⟩⟩
theorem Short_any (w:World):Calls Tryz.prog 32 #[] w (fun e w'=>∃ v:Bool,e= .returned (.bool v)/\Below w.heap.size w w'):=by
 go_enter Tryz.func32,Tryz.ntmps32;go_wp2_with fail
 go_loopw [1,2] (fun s1 s2 wr=>∃ (n:Nat) (T:List BS) (A:Option Addr) (cap:Nat),1<=n/\n<=5/\s2= .int .i64 (n:Int)/\s1= .slice A T.length cap/\T.length<=16*(n-1)/\(∀ e∈T,e.bs.length<=4)/\SW w.heap.size w (rowOb 34 1 (.slice A T.length cap) T.length (T.flatMap encB)::bufsOb T::[]) wr) (fun _ s2 _=>5-(intOf s2).toNat)
 case atStart=>exact ⟨1,[],none,0,by omega,by omega,rfl,rfl,zL _,(fun e he=>by cases he),(SW.noBufs (SW.refl (Sep.nil w (Nat.le_refl _)))).newRow 34 1⟩
 obtain ⟨n,T,A,cap,hn1,hn2,rfl,rfl,hT,hb4,hs⟩:=hrel;have S1:=kh hs;have HB:=kh hb4;clear hs hb4;by_cases hlt:n<=4
 · obtain ⟨M,hM,hM16⟩:∃ M:Nat,wrap64 (2^n)=(M:Int)/\M<=16:=by
    have:n=1∨n=2∨n=3∨n=4:=by omega
    rcases this with rfl | rfl | rfl | rfl
    · exact ⟨2,by decide+kernel,by omega⟩
    · exact ⟨4,by decide+kernel,by omega⟩
    · exact ⟨8,by decide+kernel,by omega⟩
    exact ⟨16,by decide+kernel,by omega⟩
   have hn0:(0:Int)<=(n:Int):=by omega
   have hd4:decide ((n:Int)<=4)=true:=decide_eq_true (by omega);go_wp2_with fail
   rename World=>wa;go_loopw [1,3] (fun s1 s3 wr=>∃ (v:Nat) (T:List BS) (A:Option Addr) (cap:Nat),v<=M/\s3= .int .i64 (v:Int)/\s1= .slice A T.length cap/\T.length<=16*(n-1)+v/\(∀ e∈T,e.bs.length<=4)/\SW w.heap.size w (rowOb 34 1 (.slice A T.length cap) T.length (T.flatMap encB)::bufsOb T::[]) wr) (fun _ s3 _=>M-(intOf s3).toNat)
   case atStart=>exact ⟨0,T,A,cap,zL _,rfl,rfl,hT,HB.out,S1.out⟩
   obtain ⟨v,T,A,cap,hv,rfl,rfl,hT,hb4,hs⟩:=hrel;have S1:=kh hs;have HB:=kh hb4;clear hs hb4;by_cases hlt2:v<M
   · have hl2:¬ (wrap64 (2^n)<=(v:Int)):=by omega
     go_wp2_with fail
     rename World=>wb;go_loopw [4,5] (fun s4 s5 wr=>∃ (i:Nat) (d:BD) (bs:List UInt8),i<=n/\s5= .int .i64 (i:Int)/\s4= .slice d.A d.len d.cap/\bs.length=i/\SW w.heap.size w (bufOb d bs::rowOb 34 1 (.slice A T.length cap) T.length (T.flatMap encB)::bufsOb T::[]) wr) (fun _ s5 _=>n-(intOf s5).toNat)
     case atStart=>exact ⟨0,⟨none,0,0⟩,[],zL _,rfl,rfl,rfl,S1.out.newBuf⟩
     obtain ⟨i,d,bs,hi,rfl,rfl,hbl,hs⟩:=hrel;have S2:=kh hs;have HBL:=kh hbl;clear hs S1 hbl;by_cases hlt3:i<n
     · have hi0:(0:Int)<=(i:Int):=by omega
       go_wp2_with (at_builtin;refine halt_ ?_)
       obtain ⟨yb,hyb⟩:∃ yb:UInt8,((yb.toNat:Nat):Int)=bits BinOp.and IntKind.i64 ((v:Int) / 2^i) 1 % 256:=⟨UInt8.ofNat (bits BinOp.and IntKind.i64 ((v:Int) / 2^i) 1 % 256).toNat,by rw [UInt8.toNat_ofNat'];omega⟩;rw [<- hyb];clear hyb;have hrb:RB wr d bs:=S2.out.get 0 (o:=bufOb d bs) rfl;have SB1:Hid (SB (wr.alloc (.cells #[.int .u8 ((yb.toNat:Nat):Int)] 5)) (some ⟨wr.heap.size,0,none⟩) [yb]):=sb_const wr _ rfl [yb] (0,0);refine wpList_append_bytes rfl _ _ rfl d bs rfl (hrb.on (bel1 _ _)) (some ⟨wr.heap.size,0,none⟩) 1 [yb] rfl SB1.out (by rw [HBL.out];simp only [zF,List.length_nil];omega) ?_;intro d2 w2 hl2 happ;have S3:Hid (SW w.heap.size w [bufOb d2 (bs++[yb]),rowOb 34 1 (.slice A T.length cap) T.length (T.flatMap encB),bufsOb T] w2):=(S2.out.alloc (.cells #[.int .u8 ((yb.toNat:Nat):Int)] 5)).appB 0 rfl happ;have HBL2:Hid ((bs++[yb]).length=i+1):=by rw [Hid,zB,HBL.out];rfl
       generalize bs++[yb]=bs2 at S3 HBL2;clear happ hl2 hrb SB1 S2;go_wp2_with fail
       go_roundw
       case rel=>exact ⟨i+1,d2,bs2,by omega,by go_num,rfl,HBL2.out,S3.out⟩
       simp [intOf];omega
     obtain rfl:i=n:=by omega
     obtain ⟨i1,gi,gz0,gz1,gz2⟩:=info_parts info34;go_wp2_with (at_builtin;(refine wpList_rowS (t:=86) (e:=34) (size:=1) (bytes:=24) (i:=i1) (S2.out.alloc _) 1 rfl (by rfl) (.tmp 29) (.tmp 31) (by rfl) Tryz.underlying86 gi gz0 gz1 gz2 rfl (by omega) (by rfl) ⟨wr.heap.size,0,none⟩ 1 [.slice d.A d.len d.cap] (by rfl) rfl (fun j u hu=>by rw [lit_add,Nat.zero_add,new_cell wr 34 #[.slice d.A d.len d.cap] _ rfl j];simpa using hu) (by intro u hu;rw [List.mem_singleton.1 hu];rfl) (by unfold maxLen;omega) (by omega) ?_);refine halt_ ?_)
     intro v4 w4 s4;obtain ⟨g4,c4,rfl⟩:=own_some (s4.get 1 rfl) (by omega)
     have s5:SW w.heap.size w (bufOb d bs::rowOb 34 1 (.slice (some ⟨g4,0,none⟩) (T++[(⟨d,bs⟩:BS)]).length c4) (T++[(⟨d,bs⟩:BS)]).length ((T++[(⟨d,bs⟩:BS)]).flatMap encB)::bufsOb T::[]) w4:=by
      rw [List.flatMap_append,zB];exact s4
     have S5:=kh (SW.front (pre:=[_,_]) ((SW.front (pre:=[_,_,_]) s5 [0,2,1] (n:=3) rfl (by decide)).fuseB) [1,0] (n:=2) rfl (by decide))
     have HB5:Hid (∀ e∈T++[(⟨d,bs⟩:BS)],e.bs.length<=4):=fun e he=>by
      rcases List.mem_append.1 he with he | he
      · exact HB.out e he
      rw [List.mem_singleton.1 he];show bs.length<=4;rw [HBL.out];omega
     have hTl:(T++[(⟨d,bs⟩:BS)]).length=T.length+1:=by rw [zB];rfl
     have e4:T.length+1=(T++[(⟨d,bs⟩:BS)]).length:=hTl.symm;rw [e4];generalize T++[(⟨d,bs⟩:BS)]=T2 at S5 HB5 hTl;clear s4 s5 S2 e4;go_wp2_with fail
     go_roundw
     case rel=>exact ⟨v+1,T2,some ⟨g4,0,none⟩,c4,by omega,by go_num,rfl,by omega,HB5.out,S5.out⟩
     simp [intOf];omega
   have hl2:wrap64 (2^n)<=(v:Int):=by omega
   obtain rfl:v=M:=by omega
   go_wp2_with fail
   go_roundw
   case rel=>exact ⟨n+1,T,A,cap,by omega,by omega,by go_num,rfl,by omega,HB.out,S1.out⟩
   simp [intOf];omega
 have hd4:decide ((n:Int)<=4)=false:=decide_eq_false (by omega);have HL:=kh S1.out.fuseL;have HD:=kh (Distinct_any (HL.out.get 0 (o:=blOb A T) rfl) cap (by omega) (fun e he=>by have:=HB.out e he;omega));go_wp2_with (go_at_call 57;(with_reducible refine HD.out.mono ?_);refine halt_ ?_)
 rintro e w2 ⟨v,rfl,_,hb⟩;have B2:=kh (HL.out.on hb).2;clear hb HD HL S1;go_wp2_with fail
 go_ret;exact ⟨v,rfl,B2.out⟩
end
def bitsL:Nat->List (List UInt8)
 | 0=>[[]]
 | n+1=>(bitsL n).flatMap fun t=>[0::t,1::t]
def allTexts:List (List UInt8):=bitsL 1++bitsL 2++bitsL 3++bitsL 4
structure IsText (bs:List UInt8):Prop where
 lo:1<=bs.length
 hi:bs.length<=4
 bit:∀ c∈bs,c=0∨c=1
theorem mem_bitsL:∀ (bs:List UInt8),(∀ c∈bs,c=0∨c=1)->bs∈bitsL bs.length
 | [],_=>by simp [bitsL]
 | c::bs,h=>by
  have ih:=mem_bitsL bs (fun d hd=>h d (List.mem_cons_of_mem _ hd));rw [zF,bitsL];refine List.mem_flatMap.2 ⟨bs,ih,?_⟩;rcases h c (zC ..) with rfl | rfl<;>simp
theorem IsText.mem {bs:List UInt8} (h:IsText bs):bs∈allTexts:=by
 have hm:=mem_bitsL bs h.bit;have h1:=h.lo;have h2:=h.hi;unfold allTexts;simp only [zH];have:bs.length=1∨bs.length=2∨bs.length=3∨bs.length=4:=by omega
 rcases this with e | e | e | e<;>rw [e] at hm
 · exact .inl (.inl (.inl hm))
 · exact .inl (.inl (.inr hm))
 · exact .inl (.inr hm)
 exact .inr hm
theorem texts_nodup:(allTexts.map fpOf).Nodup:=by decide+kernel
theorem inj_of_nodup {α β:Type} (f:α->β):∀ (l:List α),(l.map f).Nodup->∀ a∈l,∀ b∈l,f a=f b->a=b
 | [],_,a,ha,_,_,_=>by cases ha
 | x::l,h,a,ha,b,hb,e=>by
  rw [zE,List.nodup_cons] at h;rcases List.mem_cons.1 ha with ha' | ha'
  · rcases List.mem_cons.1 hb with hb' | hb'
    · rw [ha',hb']
    exact absurd (List.mem_map.2 ⟨b,hb',by rw [<- e,ha']⟩) h.1
  rcases List.mem_cons.1 hb with hb' | hb'
  · exact absurd (List.mem_map.2 ⟨a,ha',by rw [e,hb']⟩) h.1
  exact inj_of_nodup f l h.2 a ha' b hb' e
theorem text_inj {a b:List UInt8} (ha:IsText a) (hb:IsText b) (e:fpOf a=fpOf b):a=b:=inj_of_nodup fpOf allTexts texts_nodup a ha.mem b hb.mem e
theorem tbytes_bit (L:List Int) (n:Nat):∀ c,∀ x∈tbytes L n 2 c,x=0∨x=1
 | 0,x,h=>by cases h
 | c+1,x,h=>by
  rw [tbytes] at h;rcases List.mem_append.1 h with h | h
  · exact tbytes_bit L n c x h
  rw [zJ] at h;obtain ⟨h0,h1⟩:=tnext_in L (n+c) 2;have h1:=h1 (by omega);have:(tnext L (n+c) 2).toNat=0∨(tnext L (n+c) 2).toNat=1:=by omega
  rcases this with e | e
  · left
    rw [h,e];rfl
  right
  rw [h,e];rfl
theorem textB_is (L:List Int) (n:Nat):IsText (textB L n):=by
 obtain ⟨h1,h2⟩:=textN_in L n;have hl:(textB L n).length=textN L n:=tbytes_len _ _ _ _;exact ⟨by omega,by omega,tbytes_bit _ _ _⟩
theorem IsText.size {bs:List UInt8} (h:IsText bs):(fpOf bs).2=bs.length:=rfl
structure TX (x:SR) (P:List (List UInt8)):Prop where
 has:∀ i,(asc x.C i).isSome=decide (i∈P.map fpOf)
 val:∀ bs∈P,valC x (fpOf bs)=some bs
 text:∀ bs∈P,IsText bs
theorem TX.empty {x:SR} (h:x.C=[]):TX x []:=⟨fun i=>by rw [h];simp [asc],fun _ h=>(by cases h),fun _ h=>(by cases h)⟩
theorem TX.key {x:SR} {P:List (List UInt8)} (h:TX x P) {i:ID} (hi:i∈x.C.map (·.1)):∃ bs∈P,fpOf bs=i/\IsText bs:=by
 have h1:=asc_key.2 hi;rw [h.has i,decide_eq_true_eq] at h1;obtain ⟨bs,hb,e⟩:=List.mem_map.1 h1;exact ⟨bs,hb,e,h.text bs hb⟩
theorem TX.len {x:SR} {P:List (List UInt8)} (h:TX x P) (hn:(x.C.map (·.1)).Nodup):x.C.length<=P.length:=by
 have:=len_le_sub (x.C.map (·.1)) (P.map fpOf) hn (fun i hi=>by
  obtain ⟨bs,hb,e,_⟩:=h.key hi;exact List.mem_map.2 ⟨bs,hb,e⟩)
 simpa using this
theorem TX.few {x:SR} {P:List (List UInt8)} (h:TX x P) (hn:(x.C.map (·.1)).Nodup):x.C.length<=30:=by
 have:=len_le_sub (x.C.map (·.1)) (allTexts.map fpOf) hn (fun i hi=>by
  obtain ⟨bs,hb,e,ht⟩:=h.key hi;exact List.mem_map.2 ⟨bs,ht.mem,e⟩)
 have e:(allTexts.map fpOf).length=30:=by decide+kernel
 rw [e] at this;simpa using this
theorem frSum_le:∀ (l:List ID),(∀ i∈l,i.2<=4)->frSum l<=32*l.length
 | [],_=>by simp [frSum]
 | i::l,h=>by
  have h1:=h i (zC ..);have ih:=frSum_le l (fun j hj=>h j (List.mem_cons_of_mem _ hj));have e:frSum (i::l)=28+i.2.toNat+frSum l:=by simp [frSum]
  rw [e,zF];omega
theorem TX.pends {x:SR} {P:List (List UInt8)} (h:TX x P):frSum (Go.Proofs.YteabgcollokgjaaGreatDoor.pends x.C)<=32*(Go.Proofs.YteabgcollokgjaaGreatDoor.pends x.C).length:=frSum_le _ (fun i hi=>by
 obtain ⟨d,bs,hm⟩:=pends_mem hi;obtain ⟨t,_,e,ht⟩:=h.key (List.mem_map.2 ⟨_,hm,rfl⟩);have e:fpOf t=i:=e;rw [<- e,ht.size];have:=ht.hi;omega)
theorem pends_le (C:Chs):(pends C).length<=C.length:=by
 unfold pends;rw [List.length_map];exact List.length_filter_le _ _
theorem TX.more {x:SR} {P:List (List UInt8)} (h:TX x P) {bs:List UInt8} (hb:bs∈P):TX x (P++[bs]):=by
 refine ⟨fun i=>?_,fun t ht=>?_,fun t ht=>?_⟩
 · rw [h.has i];congr 1
   simp only [zG,zE,List.map_nil,zH,zJ,eq_iff_iff];constructor
   · exact .inl
   rintro (h1 | rfl)
   · exact h1
   exact List.mem_map.2 ⟨bs,hb,rfl⟩
 · rcases List.mem_append.1 ht with ht | ht
   · exact h.val t ht
   rw [List.mem_singleton.1 ht];exact h.val bs hb
 rcases List.mem_append.1 ht with ht | ht
 · exact h.text t ht
 rw [List.mem_singleton.1 ht];exact h.text bs hb
theorem TX.put {x:SR} {P:List (List UInt8)} (h:TX x P) {bs:List UInt8} (ht:IsText bs) (hn:asc x.C (fpOf bs)=none) (d:BD):TX (putS x (fpOf bs) d bs) (P++[bs]):=by
 have hni:fpOf bs ∉ P.map fpOf:=fun hm=>by
  have:=h.has (fpOf bs);rw [hn] at this;simp [hm] at this
 refine ⟨fun i=>?_,fun t hm=>?_,fun t hm=>?_⟩
 · show (asc (setL x.C (fpOf bs) (Pl.pend d bs)) i).isSome=_;rw [asc_setL];by_cases e:fpOf bs=i
   · rw [if_pos e];simp [e]
   rw [if_neg e,h.has i];congr 1
   simp only [zG,zE,List.map_nil,zH,zJ,eq_iff_iff];constructor
   · exact .inl
   rintro (h1 | h1)
   · exact h1
   exact absurd h1.symm e
 · rw [put_val];rcases List.mem_append.1 hm with hm | hm
   · rw [if_neg (fun e=>hni (by rw [e];exact List.mem_map.2 ⟨t,hm,rfl⟩))];exact h.val t hm
   rw [List.mem_singleton.1 hm,if_pos rfl]
 rcases List.mem_append.1 hm with hm | hm
 · exact h.text t hm
 rw [List.mem_singleton.1 hm];exact ht
end
end Go.Proofs.YteabgcollokgjaaGreatDoor
