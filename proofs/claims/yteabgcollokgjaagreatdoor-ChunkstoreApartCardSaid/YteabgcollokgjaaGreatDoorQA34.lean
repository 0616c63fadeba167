/- Q -/
import Derived.Test.YteabgcollokgjaaGreatDoorQA33
set_option linter.unusedSimpArgs false
set_option linter.unusedVariables false
set_option maxRecDepth 100000
set_option maxHeartbeats 32000000
open Go.Lib renaming hid → kh
open List renaming length_map → zA,length_nil → zB,append_assoc → zC,nil_append → zD
namespace Go.Proofs.YteabgcollokgjaaGreatDoor
section
open Go.RowKit Go.MapKept Go.ChangeMaps Go.Shelf Go.Sort
attribute [local go_sem] wext_cell
def openedX (p:Nat) (r:Rp) (s:St) (nm:ByteArray) (H:Nat) (C:Chs) (F:Option FR):SR:=⟨p,H+2,H,H+1,r,s,nm,C,F,0,sizeC C,false⟩
def OpenedX (s:St) (nm:ByteArray) (bs:List UInt8) (C:Chs) (F:Option FR):Prop:=
 ((s.now (fileN nm)).isSome=false/\C=[]/\F=none)∨((s.now (fileN nm)).isSome=true/\∃ fb sb,C=(scanF bs bs.length 0 [] [] true).1/\F=some ⟨fb,sb,bs.length,(scanF bs bs.length 0 [] [] true).2.2,(scanF bs bs.length 0 [] [] true).2.1⟩)
def OpenG (b p:Nat) (r:Rp) (s:St) (nm:ByteArray) (bs:List UInt8) (l:List Ob) (w:World) (e:Ending) (w':World):Prop:=
 ∃ H C F,w.heap.size<=H/\e= .returned (.tuple #[vPtr (H+2),.int .i64 0])/\SW b w ((openedX p r s nm H C F).obs l) w'/\OpenedX s nm bs C F
theorem Open_gen {b:Nat} {w:World} {p:Nat} {r:Rp} {s:St} {l:List Ob} (h:Sep b w (devOb p r s::l)) (nm:ByteArray) (bs:List UInt8) (hn:nameV nm=true) (hd:s.dn=false) (hb0:0<b) (hS:Syn w) (hN:∀ m,(s.now m).isSome=true->m=fileN nm∨Alien nm m) (hR:(s.now (fileN nm)).isSome=true->readE s (fileN nm)=0/\readB s (fileN nm)=bs):Calls Tryz.prog 20 #[vPtr p,.string nm] w (OpenG b p r s nm bs l w):=by
 have hsz:=nameV_size hn;have HV:=kh (validStore_any nm w (by unfold maxLen;omega));rw [hn] at HV;have HD:=kh (Down_any p r s w h.head);rw [hd] at HD;have hm1:(Instr.makeMap 128 none).run Tryz.prog w= .ok (.map (some w.heap.size)) (w.alloc (.map #[] 0)):=by simp [Instr.makeMap,run_underlying Tryz.underlying128]
 have hm2:(Instr.makeMap 129 none).run Tryz.prog (w.alloc (.map #[] 0))= .ok (.map (some (w.heap.size+1))) ((w.alloc (.map #[] 0)).alloc (.map #[] 0)):=by simp [Instr.makeMap,run_underlying Tryz.underlying129]
 have S1:SW b w (flOb (w.heap.size+1) none::chOb w.heap.size []::devOb p r s::l) ((w.alloc (.map #[] 0)).alloc (.map #[] 0)):=by
  have:=((SW.refl h).newMap).newFl;simpa using this
 have S2:Hid (SW b w ((openedS p r s nm w.heap.size).obs l) (((w.alloc (.map #[] 0)).alloc (.map #[] 0)).alloc (.cells #[.pointer (some ⟨p,0,none⟩),.string nm,.map (some w.heap.size),.map (some (w.heap.size+1)),.int .i64 0,.int .i64 0,.bool false] 131))):=
  SW.front (pre:=[_,_,_,_]) (t:=l) (S1.newCellAt 131 #[.pointer (some ⟨p,0,none⟩),.string nm,.map (some w.heap.size),.map (some (w.heap.size+1)),.int .i64 0,.int .i64 0,.bool false] (H:=w.heap.size+2) (by simp)) [3,0,2,1] (n:=4) rfl (by decide)
 have HLO:=kh (load_gen (x:=openedS p r s nm w.heap.size) (bs:=bs) S2.out.1 hb0 (hS.on hb0 S2.out.2) rfl rfl (by show nm.size<=1000;omega) hN hR)
 have HSC:Hid (∀ C F,OpenedX s nm bs C F->∃ N,N<=4194304/\SInv C N):=by
  rintro C F (⟨_,rfl,_⟩ | ⟨h1,fb,sb,rfl,_⟩)
  · exact ⟨0,by omega,LAt.nil,by simp,by simp⟩
  have hbl:bs.length<=4194304:=by
   have hdv:DV w p r s:=h.head;have:=readB_len hdv.ok (fileN nm);rw [(hR h1).2] at this;exact this
  exact ⟨bs.length,hbl,scan_inv bs hbl bs.length 0 [] [] true (by omega) ⟨LAt.nil,by simp,by simp⟩⟩
 unfold OpenG openedX;clear h hn hd hN hR hS hb0 S1;go_enter Tryz.func20,Tryz.ntmps20;go_wp2_with (first | (go_at_call 81;(with_reducible refine HV.out.mono ?_);rintro e w1 ⟨rfl,rfl⟩) | (go_at_call 82;(with_reducible refine HD.out.mono ?_);rintro e w1 ⟨rfl,rfl⟩) | (go_at_call 83;refine halt_ ?_))
 refine HLO.out.mono ?_;rintro e w1 ⟨rfl,s3⟩
 obtain ⟨C,F,HX,S3⟩:∃ C F,Hid (OpenedX s nm bs C F)/\Hid (SW b w (({ openedS p r s nm w.heap.size with C:=C,F:=F }:SR).obs l) w1):=by
  rcases s3 with ⟨h1,s3⟩ | ⟨h1,fb,sb,s3⟩
  · exact ⟨[],none,.inl ⟨h1,rfl,rfl⟩,S2.out.then s3⟩
  exact ⟨_,_,.inr ⟨h1,fb,sb,rfl,rfl⟩,S2.out.then s3⟩
 obtain ⟨N,hN4,hsi⟩:=HSC.out C F HX.out;have HSI:=kh hsi;clear s3 HLO S2 hm1 hm2 hsi HSC;have k2:w1.cell? ⟨w.heap.size+1+1,2,none⟩=some (.map (some w.heap.size)):=(S3.out.cell 1 rfl).cell 2;have HM:=kh (S3.out.get 2 (o:=chOb w.heap.size C) rfl).1;go_wp2_with (at_range;(refine wpList_range_is _ rfl _ 128 rfl 31 138 Tryz.underlying128 w.heap.size C rfl HM.out ?_);intro w4 hrg hg hs;have SWr:=kh (S3.out.range 2 rfl hrg hg);clear hrg hg hs)
 obtain ⟨q,Hq⟩:∃ q,Hid (w1.heap.size=q):=⟨_,rfl⟩;rw [Hq.out] at SWr;rw [Hq.out];clear Hq HM S3 k2;have SW0:Hid (SW b w (devOb p r s::cellOb (w.heap.size+2) 131 #[.pointer (some ⟨p,0,none⟩),.string nm,.map (some w.heap.size),.map (some (w.heap.size+1)),.int .i64 0,.int .i64 (0),.bool false]::itOb w.heap.size q C [] C.length::flOb (w.heap.size+1) F::l) w4):=SWr.out;clear SWr;go_loopw [] (fun wr=>∃ (done:Chs) (cnt:Nat),done.length+cnt<=C.length/\(∀ c∈done,c∈C)/\SW b w (devOb p r s::cellOb (w.heap.size+2) 131 #[.pointer (some ⟨p,0,none⟩),.string nm,.map (some w.heap.size),.map (some (w.heap.size+1)),.int .i64 0,.int .i64 (sizeC done),.bool false]::itOb w.heap.size q C done cnt::flOb (w.heap.size+1) F::l) wr) (fun wr=>wr.rangeLeft w.heap.size q)
 case atStart=>exact ⟨[],C.length,by simp,by simp,SW0.out⟩
 obtain ⟨done,cnt,hdc,hsub,hs⟩:=hrel;have S6:=kh hs;have HRI:=kh (hs.get 2 (o:=itOb w.heap.size q C done cnt) rfl:RIs okID vID vPl wr w.heap.size q C done cnt);have Hleft:=kh HRI.out.left_eq;have HSUB:=kh hsub;clear hs SW0 hsub;go_wp2_with (at_next;(refine wpList_next_ch _ rfl _ rfl w.heap.size q C done cnt rfl HRI.out (fun hp=>?_) (fun i pl w5 cnt1 hc1 hrg1 hlt1 hg1 hs1 hen=>halt_ ?_)))
 · have HP:=kh hp;clear hp;go_wp2_with fail
   go_ret2;refine ⟨w.heap.size,C,F,Nat.le_refl _,rfl,?_,HX.out⟩;rw [<- sizeC_perm HP.out]
   exact S6.out.unRange 2 rfl (fun c hc=>by
    obtain ⟨q',e,_⟩:=HSI.out.1 c.1 c.2 (asc_mem (HRI.out.map.nodup) hc);exact ⟨q',e⟩)
 have S7:=kh (S6.out.next 2 rfl hrg1 hg1);have HI:=kh (HSI.out.2.2 i (List.mem_map.2 ⟨_,hc1,rfl⟩));have Hlt:=kh hlt1;have HC1:=kh hc1;clear hrg1 hg1 hs1 hlt1 S6 HRI hc1;have S8:Hid (SW b w (cellOb w5.heap.size 31 #[.int .u64 i.1,.int .i64 i.2]::devOb p r s::cellOb (w.heap.size+2) 131 #[.pointer (some ⟨p,0,none⟩),.string nm,.map (some w.heap.size),.map (some (w.heap.size+1)),.int .i64 0,.int .i64 (sizeC done),.bool false]::itOb w.heap.size q C (done++[(i,pl)]) cnt1::flOb (w.heap.size+1) F::l) (w5.alloc (.cells #[.int .u64 i.1,.int .i64 i.2] 31))):=S7.out.newCell 31 _;clear S7;refine kh ?_;go_upto_region 12 with fail
 generalize w5.alloc (.cells #[.int .u64 i.1,.int .i64 i.2] 31)=W6 at S8 |-; generalize w5.heap.size=H6 at S8 |-; have c5:W6.cell? ⟨w.heap.size+2,5,none⟩=some (.int .i64 (sizeC done)):=(S8.out.cell 2 rfl).cell 5;have f5:W6.frozen? ⟨w.heap.size+2,5,none⟩=false:=(S8.out.cell 2 rfl).frozen 5;have d1:W6.cell? ⟨H6,1,none⟩=some (.int .i64 i.2):=(S8.out.cell 0 rfl).cell 1;have hb1:=sizeC_le4 done (fun c hc=>(HSI.out.2.2 c.1 (List.mem_map.2 ⟨c,HSUB.out c hc,rfl⟩)).2);have hb2:=HSI.out.2.1;have hb3:=HI.out.2;have hsum:IntKind.i64.wrap (sizeC done+i.2)=sizeC done+i.2:=IntWalk.i64_in _ (by omega);clear hen;go_region
 have S9:=kh ((S8.out.setAt 2 rfl 5 (.int .i64 (sizeC done+i.2))).tail.drew);clear S8 c5 f5 d1 hsum hb1 hb2 hb3;go_wp2_with fail
 go_roundw
 case rel=>
  refine ⟨done++[(i,pl)],cnt1,by have:=Hlt.out;rw [List.length_append,List.length_singleton];omega,fun c hc=>?_,?_⟩
  · rcases List.mem_append.1 hc with hc | hc
    · exact HSUB.out c hc
    rw [List.mem_singleton.1 hc];exact HC1.out
  rw [sizeC_snoc];exact S9.out
 have h1:RIs okID vID vPl _ w.heap.size q C (done++[(i,pl)]) cnt1:=S9.out.get 2 rfl;exact Nat.lt_of_le_of_lt (Nat.le_of_eq h1.left_eq) (Nat.lt_of_lt_of_eq Hlt.out Hleft.out.symm)
end
section
open Go.RowKit Go.MapKept Go.ChangeMaps Go.Shelf Go.Sort
theorem cut_lay:∀ (cs:List (List UInt8)) (pre:List UInt8) (i:ID) (o:Nat),(i,Pl.at o)∈layC pre.length cs->∃ c∈cs,i=fpOf c/\cutB (pre++layB pre.length cs) i o=c/\o+28+c.length<=(pre++layB pre.length cs).length:=by
 intro cs;induction cs with
 | nil=>intro pre i o h;cases h
 | cons c cs ih=>
  intro pre i o h;rcases List.mem_cons.1 h with e | h
  · injection e with e1 e2;injection e2 with e2;subst e1;subst e2;refine ⟨c,by simp,rfl,?_,?_⟩
    · rw [layB];unfold cutB;have e:(fpOf c).2.toNat=c.length:=by simp [fpOf]
      rw [e, <- zC, <- zC,zC (pre++_),List.drop_left' (by simp [headB_len]),List.take_left' rfl]
    rw [layB];simp only [List.length_append,headB_len];omega
  have e:pre.length+28+c.length=(pre++headB (fpOf c) 1 pre.length++c).length:=by simp [headB_len];omega
  rw [e] at h;obtain ⟨d,h1,h2,h3,h4⟩:=ih _ i o h
  have e2:pre++layB pre.length (c::cs)=pre++headB (fpOf c) 1 pre.length++c++layB (pre++headB (fpOf c) 1 pre.length++c).length cs:=by
   rw [layB, <- e];simp only [zC]
  rw [e2];exact ⟨d,List.mem_cons_of_mem _ h1,h2,h3,h4⟩
structure DI (ns:List ByteArray) (s:St):Prop where
 up:s.dn=false
 f0:s.f=0
 ops:s.ops.length<=900000
 ns2:ns.length<=200
 ns3:∀ m,(s.now m).isSome=true->m∈ns
theorem Cl.di {ns:List ByteArray} {x:SR} (h:Cl ns x):DI ns x.s:=⟨h.up,h.f0,h.ops,h.ns2,h.ns3⟩
theorem DI.cnt {ns:List ByteArray} {s:St} (h:DI ns s) {n:Nat} (hn:Cnt s.now n):n<=200:=by
 obtain ⟨L,h1,h2,rfl⟩:=hn;exact Nat.le_trans (len_le_sub L ns h1 (fun a ha=>h.ns3 a ((h2 a).1 ha))) h.ns2
def Shut (s:St) (nm:ByteArray) (P:List (List UInt8)):Prop:=
 ∃ cs:List (List UInt8),(cs.map fpOf).Nodup/\(∀ c,c∈cs↔c∈P)/\(∀ c∈cs,IsText c)/\(s.now (fileN nm)=some (layB 0 cs)∨(s.now (fileN nm)=none/\cs=[]))
theorem texts_few {cs:List (List UInt8)} (hn:(cs.map fpOf).Nodup) (ht:∀ c∈cs,IsText c):cs.length<=30/\layN cs<=960:=by
 have h1:=len_le_sub (cs.map fpOf) (allTexts.map fpOf) hn (fun i hi=>by
  obtain ⟨c,hc,e⟩:=List.mem_map.1 hi;exact List.mem_map.2 ⟨c,(ht c hc).mem,e⟩)
 have e:(allTexts.map fpOf).length=30:=by decide+kernel
 rw [e,zA] at h1
 have h2:∀ cs:List (List UInt8),(∀ c∈cs,IsText c)->layN cs<=32*cs.length:=by
  intro cs;induction cs with
  | nil=>intro _;simp [layN]
  | cons c cs ih=>
   intro ht;have e:layN (c::cs)=28+c.length+layN cs:=by simp [layN]
   have:=ih (fun d hd=>ht d (List.mem_cons_of_mem _ hd));have:=(ht c (by simp)).hi;rw [e,List.length_cons];omega
 have:=h2 cs ht;omega
theorem shut_of {ns:List ByteArray} {x:SR} {P:List (List UInt8)} (h:Cl ns x) (hL:LayS x) (hT:TX x P) (hd:∀ c∈x.C,∃ o,c.2=Pl.at o):Shut x.s x.nm P:=by
 have hkey:∀ i,i∈x.C.map (·.1)↔i∈P.map fpOf:=fun i=>by rw [<- asc_key,hT.has i];simp
 cases hF:x.F with
 | none=>
  obtain ⟨h1,h2⟩:=h.no hF
  have hC:x.C=[]:=by
   cases hC:x.C with
   | nil=>rfl
   | cons c C=>
    exfalso
    obtain ⟨o,e⟩:=hd c (by rw [hC];simp);obtain ⟨i,pl⟩:=c;simp only at e;subst e;exact h2 i o (by rw [hC];simp)
  refine ⟨[],by simp,fun c=>⟨fun hc=>(by cases hc),fun hc=>?_⟩,fun c hc=>(by cases hc),.inr ⟨h1,rfl⟩⟩;have:=(hkey (fpOf c)).2 (List.mem_map.2 ⟨c,hc,rfl⟩);rw [hC] at this;cases this
 | some f=>
  obtain ⟨D,h1,cs,h2,h3,h4,h5⟩:=hL f hF
  have hin:∀ c∈cs,c∈P:=fun c hc=>by
   have hk:fpOf c∈(layC 0 cs).map (·.1):=by rw [layC_keys];exact List.mem_map.2 ⟨c,hc,rfl⟩
   obtain ⟨⟨i,pl⟩,hm,e⟩:=List.mem_map.1 hk;simp only at e;subst e;obtain ⟨o,e⟩:=layC_at cs 0 _ hm;simp only at e;subst e;have hmC:=(h5 _ o).2 hm;obtain ⟨t,ht,e⟩:=List.mem_map.1 ((hkey (fpOf c)).1 (List.mem_map.2 ⟨_,hmC,rfl⟩));have hv:=hT.val t ht;obtain ⟨d,hd1,hd2,hd3,hd4⟩:=cut_lay cs [] (fpOf c) o hm;simp only [zB,zD] at hd3 hd4;obtain ⟨_,D',k1,_,k3⟩:=h.file f hF;rw [h1] at k1;injection k1 with k1;subst k1;have ha:=asc_mem h.keys hmC
   have hvc:valC x (fpOf c)=some (cutB D (fpOf c) o):=by
    unfold valC;rw [ha];exact read_at h.up h.nv h1 (k3 _ o hmC)
   rw [e,hvc,h2,hd3] at hv;injection hv with hv;subst hv
   have hcd:c=d:=by
    exact inj_of_nodup fpOf cs h4 c hc d hd1 hd2
   subst hcd;exact ht
  refine ⟨cs,h4,fun c=>⟨hin c,fun hc=>?_⟩,fun c hc=>hT.text c (hin c hc),.inl (by rw [h1,h2])⟩;have hk:=(hkey (fpOf c)).2 (List.mem_map.2 ⟨c,hc,rfl⟩);obtain ⟨⟨i,pl⟩,hm,e⟩:=List.mem_map.1 hk;simp only at e;subst e;obtain ⟨o,e⟩:=hd _ hm;simp only at e;subst e;obtain ⟨d,hd1,hd2,_⟩:=cut_lay cs [] _ o ((h5 _ o).1 hm);have:=text_inj (hT.text c hc) (hT.text d (hin d hd1)) hd2;rw [this];exact hd1
theorem Shut.same {s s':St} {nm:ByteArray} {P:List (List UInt8)} (h:Shut s nm P) (e:s'.now (fileN nm)=s.now (fileN nm)):Shut s' nm P:=by
 unfold Shut at h |-; rw [e];exact h
structure Opened (ns:List ByteArray) (x:SR) (P:List (List UInt8)):Prop where
 cl:Cl ns x
 lay:LayS x
 tx:TX x P
 done:∀ c∈x.C,∃ o,c.2=Pl.at o
theorem open_shut {ns:List ByteArray} {s:St} {nm:ByteArray} {P:List (List UInt8)} (hD:DI ns s) (hs:Shut s nm P) (hn:nameV nm=true) (hm:fileN nm∈ns) {p H:Nat} {r:Rp} {C:Chs} {F:Option FR} (hx:OpenedX s nm ((s.now (fileN nm)).getD []) C F):Opened ns (openedX p r s nm H C F) P:=by
 obtain ⟨cs,c1,c2,c3,c4⟩:=hs;obtain ⟨f1,f2⟩:=texts_few c1 c3
 have hmap:∀ i,i∈cs.map fpOf↔i∈P.map fpOf:=fun i=>by
  constructor
  · intro h;obtain ⟨c,hc,e⟩:=List.mem_map.1 h;exact List.mem_map.2 ⟨c,(c2 c).1 hc,e⟩
  intro h;obtain ⟨c,hc,e⟩:=List.mem_map.1 h;exact List.mem_map.2 ⟨c,(c2 c).2 hc,e⟩
 have hCF:C=layC 0 cs/\((F=none/\s.now (fileN nm)=none/\cs=[])∨(s.now (fileN nm)=some (layB 0 cs)/\∃ fb sb,F=some ⟨fb,sb,layN cs,true,[]⟩)):=by
  rcases c4 with h1 | ⟨h1,h2⟩
  · rcases hx with ⟨k1,_⟩ | ⟨_,fb,sb,k1,k2⟩
    · rw [h1] at k1;cases k1
    rw [h1,Option.getD_some,scan_lay0 cs (fun c hc=>by have:=(c3 c hc).lo;have:=(c3 c hc).hi;omega) c1] at k1 k2;exact ⟨k1,.inr ⟨h1,fb,sb,by rw [k2,layB_len]⟩⟩
  rcases hx with ⟨_,k1,k2⟩ | ⟨k1,_⟩
  · subst h2;exact ⟨k1,.inl ⟨k2,h1,rfl⟩⟩
  rw [h1] at k1;cases k1
 obtain ⟨rfl,hF⟩:=hCF;have hk:((layC 0 cs).map (·.1)).Nodup:=by rw [layC_keys];exact c1
 have hmem:∀ i pl,(i,pl)∈layC 0 cs->∃ c o,c∈cs/\i=fpOf c/\pl= .at o/\cutB (layB 0 cs) i o=c/\o+28+c.length<=layN cs:=fun i pl h=>by
  obtain ⟨o,e⟩:=layC_at cs 0 _ h;simp only at e;subst e;obtain ⟨c,h1,h2,h3,h4⟩:=cut_lay cs [] i o h;simp only [zB,zD] at h3 h4;rw [layB_len] at h4;exact ⟨c,o,h1,h2,rfl,h3,h4⟩
 have hcut:∀ i o,(i,Pl.at o)∈layC 0 cs->cutOk (layB 0 cs) i o=true:=fun i o h=>by
  obtain ⟨c,o',h1,h2,h3,h4,h5⟩:=hmem i _ h;injection h3 with h3;subst h3;unfold cutOk;rw [h4,layB_len,h2];simp only [Bool.and_eq_true,decide_eq_true_eq,and_true];have:(fpOf c).2=(c.length:Int):=rfl;omega
 have hfl:flen F<=layN cs/\(∀ f,F=some f->f.T=[]/\f.clean=true/\f.len=layN cs/\s.now (fileN nm)=some (layB 0 cs))/\(F=none->s.now (fileN nm)=none/\cs=[])/\layN cs<=flen F:=by
  rcases hF with ⟨rfl,h1,h2⟩ | ⟨h1,fb,sb,rfl⟩
  · exact ⟨by simp [flen],(fun f hf=>by cases hf),fun _=>⟨h1,h2⟩,by rw [h2];simp [layN]⟩
  exact ⟨Nat.le_refl _,(fun f hf=>by injection hf with hf;subst hf;exact ⟨rfl,rfl,rfl,h1⟩),(fun hf=>by cases hf),Nat.le_refl _⟩
 obtain ⟨g1,g2,g3,g4⟩:=hfl
 have hlen:(layC 0 cs).length=cs.length:=by
  have:=congrArg List.length (layC_keys 0 cs);simpa using this
 have hid:∀ c∈layC 0 cs,1<=c.1.2/\c.1.2<=4:=fun c hc=>by
  obtain ⟨i,pl⟩:=c;obtain ⟨d,o,h1,h2,_⟩:=hmem i pl hc;have:=(c3 d h1).lo;have:=(c3 d h1).hi;have e:(fpOf d).2=(d.length:Int):=rfl;show 1<=i.2/\i.2<=4;rw [h2,e];omega
 refine ⟨?_,?_,?_,layC_at cs 0⟩
 · exact {
    live:=rfl
    up:=hD.up
    name:=by have:=nameV_size hn;simp only [openedX];omega
    few:=by simp only [openedX,hlen];omega
    ids:=fun c hc=>by have:=hid c hc;omega
    offs:=fun i o hc=>by
     obtain ⟨d,o',h1,h2,h3,_,h5⟩:=hmem i _ hc;injection h3 with h3;omega
    pends:=fun i d bs hc=>by obtain ⟨q,e⟩:=layC_at cs 0 _ hc;cases e
    whole:=fun f hf=>(g2 f hf).2.1
    own:=fun i d bs hc=>by obtain ⟨q,e⟩:=layC_at cs 0 _ hc;cases e
    ops:=hD.ops
    files:=fun n hn=>hD.cnt hn
    ids8:=fun c hc=>by have:=hid c hc;omega
    wait0:=by simp [openedX]
    wait1:=by simp [openedX]
    keys:=hk
    f0:=hD.f0
    nv:=hn
    ns1:=hm
    ns2:=hD.ns2
    ns3:=hD.ns3
    no:=fun hf=>⟨(g3 hf).1,fun i o hc=>by
     obtain ⟨d,o',h1,_⟩:=hmem i _ hc;rw [(g3 hf).2] at h1;cases h1⟩
    file:=fun f hf=>⟨(g2 f hf).1,layB 0 cs,(g2 f hf).2.2.2,by rw [layB_len,(g2 f hf).2.2.1],hcut⟩
    len:=by simp only [openedX];omega
    waits:=by
     simp only [openedX];rw [layC_pends];rfl
    pA:=fun i d bs hc=>by obtain ⟨q,e⟩:=layC_at cs 0 _ hc;cases e
    size:=rfl
    frames:=by
     simp only [openedX];rw [layC_sum];exact g4 }
 · intro f hf;exact ⟨layB 0 cs,(g2 f hf).2.2.2,cs,rfl,fun c hc=>by have:=(c3 c hc).lo;have:=(c3 c hc).hi;omega,c1,fun i o=>Iff.rfl⟩
 refine ⟨fun i=>?_,fun bs hb=>?_,fun bs hb=>c3 bs ((c2 bs).2 hb)⟩
 · rw [Bool.eq_iff_iff,decide_eq_true_eq, <- hmap i, <- layC_keys 0 cs];exact asc_key
 have hbc:=(c2 bs).2 hb;have hkk:fpOf bs∈(layC 0 cs).map (·.1):=by rw [layC_keys];exact List.mem_map.2 ⟨bs,hbc,rfl⟩
 obtain ⟨⟨i,pl⟩,h,e⟩:=List.mem_map.1 hkk;simp only at e;subst e;obtain ⟨c,o,h1,h2,rfl,h4,h5⟩:=hmem _ _ h;have hcb:bs=c:=inj_of_nodup fpOf cs c1 bs hbc c h1 h2
 have hnow:s.now (fileN nm)=some (layB 0 cs):=by
  rcases hF with ⟨_,_,h9⟩ | ⟨h9,_⟩
  · rw [h9] at h1;cases h1
  exact h9
 unfold valC;simp only [openedX];rw [asc_mem hk h];simp only [Option.bind_some];rw [read_at hD.up hn hnow (hcut _ _ h),h4,hcb]
theorem lay_in {ns:List ByteArray} {x:SR} {P:List (List UInt8)} (h:Cl ns x) (hL:LayS x) (hT:TX x P) {f:FR} (hF:x.F=some f):∃ cs:List (List UInt8),x.s.now (fileN x.nm)=some (layB 0 cs)/\(cs.map fpOf).Nodup/\(∀ c∈cs,c∈P)/\f.len=layN cs:=by
 obtain ⟨D,h1,cs,h2,h3,h4,h5⟩:=hL f hF;obtain ⟨_,D',k1,k2,k3⟩:=h.file f hF;rw [h1] at k1;injection k1 with k1;subst k1;refine ⟨cs,by rw [h1,h2],h4,fun c hc=>?_,by rw [<- k2,h2,layB_len]⟩;have hk:fpOf c∈(layC 0 cs).map (·.1):=by rw [layC_keys];exact List.mem_map.2 ⟨c,hc,rfl⟩
 obtain ⟨⟨i,pl⟩,hm,e⟩:=List.mem_map.1 hk;simp only at e;subst e;obtain ⟨o,e⟩:=layC_at cs 0 _ hm;simp only at e;subst e;have hmC:=(h5 _ o).2 hm
 have hky:fpOf c∈P.map fpOf:=by
  have h7:=hT.has (fpOf c);rw [asc_key.2 (List.mem_map.2 ⟨_,hmC,rfl⟩)] at h7;exact of_decide_eq_true h7.symm
 obtain ⟨t,ht,e⟩:=List.mem_map.1 hky;have hv:=hT.val t ht;obtain ⟨d,hd1,hd2,hd3,hd4⟩:=cut_lay cs [] (fpOf c) o hm;simp only [zB,zD] at hd3 hd4;have ha:=asc_mem h.keys hmC
 have hvc:valC x (fpOf c)=some (cutB D (fpOf c) o):=by
  unfold valC;rw [ha];exact read_at h.up h.nv h1 (k3 _ o hmC)
 rw [e,hvc,h2,hd3] at hv;injection hv with hv;subst hv;have hcd:c=d:=inj_of_nodup fpOf cs h4 c hc d hd1 hd2;subst hcd;exact ht
theorem flen_few {ns:List ByteArray} {x:SR} {P:List (List UInt8)} (h:Cl ns x) (hL:LayS x) (hT:TX x P):flen x.F<=960:=by
 cases hF:x.F with
 | none=>simp [flen]
 | some f=>
  obtain ⟨cs,_,h2,h3,h4⟩:=lay_in h hL hT hF;have:=(texts_few h2 (fun c hc=>hT.text c (h3 c hc))).2;simp only [flen];omega
structure PlN (ns:List ByteArray) (nm:ByteArray) (dp:Nat) (x:SR) (r:R3):Prop where
 p:x.p=dp
 nm:x.nm=nm
 lay:LayS x
 isi:∃ P,IsI ns x r P
section
variable {ns:List ByteArray} {nm:ByteArray} {dp:Nat} {x x':SR} {r r':R3}
theorem PlN.few (h:PlN ns nm dp x r):x.C.length<=30:=by
 obtain ⟨P,hP⟩:=h.isi;exact hP.tx.few hP.cl.keys
theorem PlN.cl (h:PlN ns nm dp x r):Cl ns x:=by
 obtain ⟨P,hP⟩:=h.isi;exact hP.cl
theorem PlN.flush (h:PlN ns nm dp x r) (hc:Cl ns x') (hf:Flushed x x') (hr:r'.E=r.E.map fun e=>{ e with pn:=false }) (hT:∀ P,RTX r P->RTX r' P):PlN ns nm dp x' r':=by
 obtain ⟨P,hP⟩:=h.isi;refine ⟨hf.p.trans h.p,hf.nm.trans h.nm,hf.lay h.lay,⟨P,hc,hP.tx.flush hf,hT P hP.rtx,fun f hm=>?_⟩⟩
 · rw [pends_none hf.done];rw [hr] at hm;obtain ⟨e,_,rfl⟩:=List.mem_map.1 hm;simp
theorem PlN.gone (h:PlN ns nm dp x r) {ids:List ID} (hc:Cl ns x') (hg:Gone x ids x') (hr:r'.E=remE r.E ids) (hT:∀ P,RTX r P->RTX r' (P.filter fun t=> !decide (fpOf t∈ids))):PlN ns nm dp x' r':=by
 obtain ⟨P,hP⟩:=h.isi;refine ⟨hg.p.trans h.p,hg.nm.trans h.nm,hg.lay h.lay,⟨_,hc,hP.tx.gone hg,hT P hP.rtx,fun f hm=>?_⟩⟩
 · rw [hr] at hm;obtain ⟨h1,h2⟩:=List.mem_filter.1 hm;have h2:f.id ∉ ids:=by simpa using h2
   rw [hg.pend _ h2];exact hP.pn f h1
structure PutY (ns:List ByteArray) (x:SR) (bs:List UInt8) (x':SR):Prop where
 cl:Cl ns x'
 way:((asc x.C (fpOf bs)).isSome=true/\x'=x)∨(asc x.C (fpOf bs)=none/\∃ d,d.A.isSome=true/\x'=putS x (fpOf bs) d bs)
theorem PlN.has (h:PlN ns nm dp x r) (i:ID):hasAt r.E i=(asc x.C i).isSome:=by
 obtain ⟨P,hP⟩:=h.isi;rw [Bool.eq_iff_iff,hasAt_iff hP.rtx.sort,asc_key,hP.key i]
theorem PlN.put (h:PlN ns nm dp x r) {bs:List UInt8} (ht:IsText bs) (hx:PutY ns x bs x') (hr:RPutX r bs r'):PlN ns nm dp x' r':=by
 obtain ⟨hc,hw⟩:=hx;obtain ⟨hrw⟩:=hr;have hh:=h.has (fpOf bs);rcases hw with ⟨h1,rfl⟩ | ⟨h1,d,hd,rfl⟩
 · rcases hrw with ⟨h2,rfl⟩ | ⟨h2,_⟩
   · exact h
   rw [hh,h1] at h2;cases h2
 rcases hrw with ⟨h2,_⟩ | ⟨h2,d2,h3⟩
 · rw [hh,h1] at h2;cases h2
 obtain ⟨P,hP⟩:=h.isi;refine ⟨h.p,h.nm,h.lay.put h1,⟨P++[bs],hc,hP.tx.put ht h1 d,hP.rtx.put ht h3 h2,fun f hm=>?_⟩⟩
 · have hpe:pends (putS x (fpOf bs) d bs).C=pends x.C++[fpOf bs]:=by
    have hn:fpOf bs ∉ x.C.map (·.1):=fun hm=>by
     have:=asc_key.2 hm;rw [h1] at this;cases this
    show pends (setL x.C (fpOf bs) (.pend d bs))=_;rw [setL_new hn];unfold pends;rw [List.filter_append,List.map_append];simp [Pl.A,hd]
   rw [hpe,List.mem_append];rw [h3] at hm;rcases putE_mem.1 hm with rfl | hm
   · simp
   have hne:f.id≠fpOf bs:=fun e=>by
    have h5:=(hP.key f.id).2 (List.mem_map.2 ⟨f,hm,rfl⟩);rw [<- asc_key,e,h1] at h5;cases h5
   rw [hP.pn f hm];simp [hne]
theorem PlN.cnt (h:PlN ns nm dp x r) (ids:List ID):(goneL x.C ids).length=cntE r.E ids:=by
 obtain ⟨P,hP⟩:=h.isi;have n1:((goneL x.C ids).map (·.1)).Nodup:=goneL_nodup _ _;have n2:((r.E.filter fun e=>decide (e.id∈ids)).map (·.id)).Nodup:=(ids_nodup hP.rtx).sublist (List.filter_sublist.map _)
 have hm:∀ i,i∈(goneL x.C ids).map (·.1)↔i∈(r.E.filter fun e=>decide (e.id∈ids)).map (·.id):=fun i=>by
  rw [goneL_key,asc_key,hP.key i];constructor
  · rintro ⟨h1,h2⟩;obtain ⟨f,hf,rfl⟩:=List.mem_map.1 h2;exact List.mem_map.2 ⟨f,List.mem_filter.2 ⟨hf,by simpa using h1⟩,rfl⟩
  intro h1;obtain ⟨f,hf,rfl⟩:=List.mem_map.1 h1;obtain ⟨h2,h3⟩:=List.mem_filter.1 hf;exact ⟨by simpa using h3,List.mem_map.2 ⟨f,h2,rfl⟩⟩
 have a1:=len_le_sub _ _ n1 (fun a ha=>(hm a).1 ha);have a2:=len_le_sub _ _ n2 (fun a ha=>(hm a).2 ha);rw [zA,zA] at a1 a2;unfold cntE;omega
theorem PlN.opened {P:List (List UInt8)} (h:Opened ns x P) (hr:RTX r P) (hpn:∀ f∈r.E,f.pn=false) (hp:x.p=dp) (hn:x.nm=nm):PlN ns nm dp x r:=
 ⟨hp,hn,h.lay,P,h.cl,h.tx,hr,fun f hf=>by rw [hpn f hf,pends_none h.done];simp⟩
def ShutI (s:St) (nm:ByteArray) (r:R3):Prop:=∃ P,Shut s nm P/\RTX r P/\∀ f∈r.E,f.pn=false
theorem PlN.shut (h:PlN ns nm dp x r) (hd:∀ c∈x.C,∃ o,c.2=Pl.at o):ShutI x.s nm r:=by
 obtain ⟨P,hP⟩:=h.isi;refine ⟨P,?_,hP.rtx,fun f hf=>?_⟩
 · rw [<- h.nm];exact shut_of hP.cl h.lay hP.tx hd
 cases hpn:f.pn with
 | false=>rfl
 | true=>
  have:=(hP.pn f hf).1 hpn;rw [pends_none hd] at this;cases this
theorem ShutI.same {s s':St} (h:ShutI s nm r) (e:s'.now (fileN nm)=s.now (fileN nm)):ShutI s' nm r:=by
 obtain ⟨P,h1,h2⟩:=h;exact ⟨P,h1.same e,h2⟩
end
section
variable {b:Nat} {w0 w:World} {ns:List ByteArray} {nm:ByteArray} {x:SR} {r:R3} {dp:Nat} {l:List Ob}
theorem Put_N (h:SW b w0 (x.obs l) w) (hI:PlN ns nm dp x r) (A:Option Addr) (c:Nat) (bs:List UInt8) (hs:RS w A bs) (ht:IsText bs):
 Calls Tryz.prog 23 #[vPtr x.ps,.slice A bs.length c] w (fun e w'=>e= .returned (.tuple #[.agg #[.int .u64 (fpOf bs).1,.int .i64 (fpOf bs).2],.int .i64 0])/\∃ x',SW b w0 (x'.obs l) w'/\PutY ns x bs x'/\x'.ps=x.ps):=by
 have h1:=ht.lo;have h2:=ht.hi;obtain ⟨P,hP⟩:=hI.isi;cases ha:asc x.C (fpOf bs) with
 | none=>
  have hf:=hI.few;have hz:=sizeC_le x.C hP.cl.ids8;have hz2:=hP.cl.size;have hw:=hP.cl.waits;have hp:(Go.Proofs.YteabgcollokgjaaGreatDoor.pends x.C).length<=x.C.length:=by unfold Go.Proofs.YteabgcollokgjaaGreatDoor.pends;rw [zA];exact List.length_filter_le _ _
  refine (Put_new h.1 hP.cl.toWF A c bs hs h1 (by omega) ha (by omega) hP.cl.wait0 hP.cl.wait1 (by omega) (by omega)).mono ?_;rintro e w' ⟨rfl,d,hs',_,hb⟩;have hsw:SW b w0 ((putS x (fpOf bs) d bs).obs l) w':=⟨hs',h.2.trans hb⟩;have hr:=hs'.spend (x:=putS x (fpOf bs) d bs) (id:=fpOf bs) (d:=d) (bs:=bs) (mem_of_asc (by simp only [putS];rw [asc_setL];simp));have hA:=rb_some hr.1 h1;exact ⟨rfl,_,hsw,⟨put_cl hP.cl hA h1 (by omega) ha (by omega),.inr ⟨ha,d,hA,rfl⟩⟩,rfl⟩
 | some pl=>
  have hm:fpOf bs∈P.map fpOf:=by
   have:=hP.tx.has (fpOf bs);rw [ha] at this;exact of_decide_eq_true this.symm
  obtain ⟨t,ht',e⟩:=List.mem_map.1 hm;have e2:=text_inj (hP.tx.text t ht') ht e;subst e2;refine (PutS_L h hP.cl A c t hs (by omega) (by omega) (hP.tx.val t ht')).mono ?_;rintro e w' ⟨rfl,s⟩;exact ⟨rfl,x,s,⟨hP.cl,.inl ⟨by rw [ha];rfl,rfl⟩⟩,rfl⟩
theorem rPut_N (h:SW b w0 l w) (hr:r3Ob r∈l) (hI:PlN ns nm dp x r) (d:BD) (bs:List UInt8) (hb:RB w d bs) (ht:IsText bs):
 Calls Tryz.prog 36 #[.agg #[.slice r.A r.E.length r.c,.slice r.B r.E.length r.k],.slice d.A d.len d.cap] w (fun e w'=>∃ r':R3,e= .returned (.tuple #[.agg #[.slice r'.A r'.E.length r'.c,.slice r'.B r'.E.length r'.k],.agg #[.int .u64 (fpOf bs).1,.int .i64 (fpOf bs).2],.int .i64 0])/\SW b w0 (r3Ob r'::l) w'/\RPutX r bs r'):=by
 obtain ⟨P,hP⟩:=hI.isi;have hT:=hP.rtx;have hok:R3Ok w r:=h.1.holds (r3Ob r) hr;have h1:=ht.lo;have h2:=ht.hi
 have hlen:r.E.length<4096:=by
  have h3:=len_le_sub r.ids (x.C.map (·.1)) (ids_nodup hT) (fun i hi=>(hP.key i).2 hi);have h4:=hI.few;have h6:(x.C.map (·.1)).length=x.C.length:=zA _;have h5:r.ids.length=r.E.length:=zA _;omega
 cases hat:hasAt r.E (fpOf bs) with
 | false=>
  refine (rPut_new hok d bs hb h1 (by omega) hat hlen).mono ?_;rintro e w' ⟨r',d2,rfl,hok',he,hbel,hj⟩;exact ⟨r',rfl,h.alsoR hr hbel hok' hj,⟨.inr ⟨hat,d2,he⟩⟩⟩
 | true=>
  obtain ⟨f,hk,he,hid⟩:∃ f:RE,atI r.E (fpOf bs)<r.E.length/\r.E.getD (atI r.E (fpOf bs)) re0=f/\f.id=fpOf bs:=by
   have hat':=hat;unfold hasAt at hat';split at hat'
   · rename_i f hf
     exact ⟨f,(List.getElem?_eq_some_iff.1 hf).1,by rw [List.getD_eq_getElem?_getD,hf];rfl,of_decide_eq_true hat'⟩
   cases hat'
  have hmem:f∈r.E:=by
   rw [<- he,List.getD_eq_getElem?_getD,List.getElem?_eq_getElem hk];exact List.getElem_mem hk
  obtain ⟨hv1,hv2⟩:=hT.val f hmem;have hbs:f.bs=bs:=text_inj hv2 ht (hv1.trans hid);refine (rPut_there hok d bs hb h1 (by omega) hat he hk hbs).mono ?_;rintro e w' ⟨rfl,hbel⟩;exact ⟨r,rfl,h.alsoR hr hbel (hok.on hbel) (fun j hj=> .inr hj),⟨.inl ⟨hat,rfl⟩⟩⟩
theorem is_N {ps:Nat} (h:SW b w0 (x.obs l) w) (hI:PlN ns nm dp x r) (hps:x.ps=ps) (hm:r3Ob r∈l):Calls Tryz.prog 40 #[vPtr ps,.agg #[.slice r.A r.E.length r.c,.slice r.B r.E.length r.k]] w (fun e w'=>e= .returned (.bool true)/\SW b w0 (x.obs l) w'):=by
 obtain ⟨P,hP⟩:=hI.isi;subst hps;exact is40 h hP hm
theorem rem_N {ps:Nat} (h:SW b w0 (x.obs l) w) (hI:PlN ns nm dp x r) (hps:x.ps=ps) (A:Option Addr) (c:Nat) (ids:List ID) (hA:riOb A ids∈l) (hok:∀ i∈ids,okID i) (hl:ids.length<=3):Calls Tryz.prog 25 #[vPtr ps,.slice A ids.length c] w (fun e w'=>e= .returned (.tuple #[.int .i64 ((cntE r.E ids:Nat):Int),.int .i64 0])/\∃ x',SW b w0 (x'.obs l) w'/\Cl ns x'/\Gone x ids x'):=by
 subst hps;rw [<- hI.cnt ids];exact Rem_L h hI.cl A c ids hA hok (by omega)
theorem open_N {s:St} {rp:Rp} (h:SW b w0 (devOb dp rp s::l) w) (hb0:0<b) (hS:Syn w0) (hD:DI ns s) (hI:ShutI s nm r) (hn:nameV nm=true) (hm:fileN nm∈ns) (hal:∀ m∈ns,m=fileN nm∨Alien nm m):Calls Tryz.prog 20 #[vPtr dp,.string nm] w (fun e w'=>∃ x:SR,e= .returned (.tuple #[vPtr x.ps,.int .i64 0])/\SW b w0 (x.obs l) w'/\PlN ns nm dp x r/\x.s=s):=by
 obtain ⟨P,h1,h2,h3⟩:=hI;refine (Open_gen h.1 nm ((s.now (fileN nm)).getD []) hn hD.up hb0 (hS.on hb0 h.2) (fun m hm'=>hal m (hD.ns3 m hm')) (fun hs=>?_)).mono ?_
 · obtain ⟨D,hD'⟩:=Option.isSome_iff_exists.1 hs;rw [hD'];exact readE_ok hD.up (nameB_file hn) hD'
 rintro e w' ⟨H,C,F,hH,rfl,s2,hx⟩;exact ⟨_,rfl,h.then s2,PlN.opened (open_shut hD h1 hn hm hx) h2 h3 rfl rfl,rfl⟩
end
def nmA:Nat->ByteArray | 0=>⟨#[97]⟩ | 1=>⟨#[97,45,97]⟩ | _=>⟨#[97,97]⟩
abbrev nsA:List ByteArray:=[fileN (nmA 0),fileN (nmA 1),fileN (nmA 2)]
theorem nmA_ok {j:Nat} (hj:j<3):nameV (nmA j)=true:=by
 match j,hj with
 | 0,_=>decide+kernel
 | 1,_=>decide+kernel
 | 2,_=>decide+kernel
theorem nmA_in {j:Nat} (hj:j<3):fileN (nmA j)∈nsA:=by
 match j,hj with
 | 0,_=>simp
 | 1,_=>simp
 | 2,_=>simp
theorem nmA_al {j:Nat} (hj:j<3):∀ m∈nsA,m=fileN (nmA j)∨Alien (nmA j) m:=by
 have h:∀ m∈nsA,∀ j<3,decide (m.data=(fileN (nmA j)).data)||(!(Lib.hasPrefix m.data.toList (nmA j++⟨#[46]⟩:ByteArray).data.toList)&&decide (m.size<=18)):=by decide+kernel
 intro m hm;have h:=h m hm j hj;rw [Bool.or_eq_true,decide_eq_true_eq,Bool.and_eq_true,decide_eq_true_eq] at h;rcases h with h | h
 · left
   cases m
   cases hf:fileN (nmA j)
   rw [hf] at h;simp only at h;rw [h]
 exact .inr (.inr ⟨by simpa using h.1,h.2⟩)
theorem nmA_ne {j k:Nat} (hj:j<3) (hk:k<3) (h:k≠j):fileN (nmA k)≠fileN (nmA j)/\fileN (nmA k)≠freshN (nmA j):=by
 have h1:∀ j<3,∀ k<3,k≠j->(fileN (nmA k)).data≠(fileN (nmA j)).data/\(fileN (nmA k)).data≠(freshN (nmA j)).data:=by decide+kernel
 have:=h1 j hj k hk h;exact ⟨fun e=>this.1 (by rw [e]),fun e=>this.2 (by rw [e])⟩
abbrev wcA (R:Nat->R3):Array Value:= #[.slice (R 0).A (R 0).E.length (R 0).c,.slice (R 0).B (R 0).E.length (R 0).k,.slice (R 1).A (R 1).E.length (R 1).c,.slice (R 1).B (R 1).E.length (R 1).k,.slice (R 2).A (R 2).E.length (R 2).c,.slice (R 2).B (R 2).E.length (R 2).k]
abbrev apR (R:Nat->R3) (gw gn:Nat) (t:List Ob):List Ob:=r3Ob (R 0)::r3Ob (R 1)::r3Ob (R 2)::cellOb gw 54 (wcA R)::cellOb gn 9 #[.string (nmA 0),.string (nmA 1),.string (nmA 2)]::t
def upd (R:Nat->R3) (j:Nat) (r:R3):Nat->R3:=fun k=>if k=j then r else R k
theorem upd_at (R:Nat->R3) (j:Nat) (r:R3):upd R j r j=r:=by simp [upd]
theorem upd_ne (R:Nat->R3) {j k:Nat} (r:R3) (h:k≠j):upd R j r k=R k:=by simp [upd,h]
theorem apR_mem (R:Nat->R3) (gw gn:Nat) (t:List Ob) {j:Nat} (hj:j<3):r3Ob (R j)∈apR R gw gn t:=by
 match j,hj with
 | 0,_=>simp
 | 1,_=>simp
 | 2,_=>simp
theorem wcA_at {w:World} {gw:Nat} {R:Nat->R3} (h:IsB w gw 54 (wcA R)) {j:Nat} (hj:j<3):w.cell? ⟨gw,j*2,none⟩=some (.slice (R j).A (R j).E.length (R j).c)/\w.cell? ⟨gw,j*2+1,none⟩=some (.slice (R j).B (R j).E.length (R j).k):=by
 match j,hj with
 | 0,_=>exact ⟨h.cell 0,h.cell 1⟩
 | 1,_=>exact ⟨h.cell 2,h.cell 3⟩
 | 2,_=>exact ⟨h.cell 4,h.cell 5⟩
theorem nmA_at {w:World} {gn:Nat} (h:IsB w gn 9 #[.string (nmA 0),.string (nmA 1),.string (nmA 2)]) {j:Nat} (hj:j<3):w.cell? ⟨gn,j,none⟩=some (.string (nmA j)):=by
 match j,hj with
 | 0,_=>exact h.cell 0
 | 1,_=>exact h.cell 1
 | 2,_=>exact h.cell 2
theorem wcA_set (R:Nat->R3) {j:Nat} (hj:j<3) (r:R3):((wcA R).setIfInBounds (j*2) (.slice r.A r.E.length r.c)).setIfInBounds (j*2+1) (.slice r.B r.E.length r.k)=wcA (upd R j r):=by
 match j,hj with
 | 0,_=>rfl
 | 1,_=>rfl
 | 2,_=>rfl
section
variable {b:Nat} {w0 w:World} {x:SR} {R:Nat->R3} {t:List Ob} {gw gn:Nat}
theorem SW.apSet (h:SW b w0 (x.obs (apR R gw gn t)) w) {j:Nat} (hj:j<3) {r:R3} (hr:SW b w0 (r3Ob r::x.obs (apR R gw gn t)) w):
 SW b w0 (x.obs (apR (upd R j r) gw gn t)) ((w.setCell ⟨gw,j*2,none⟩ (.slice r.A r.E.length r.c)).setCell ⟨gw,j*2+1,none⟩ (.slice r.B r.E.length r.k)):=by
 have S6:=(hr.setAt 8 rfl (j*2) (.slice r.A r.E.length r.c)).setAt 8 rfl (j*2+1) (.slice r.B r.E.length r.k)
 have S7:SW b w0 (r3Ob r::x.obs (r3Ob (R 0)::r3Ob (R 1)::r3Ob (R 2)::cellOb gw 54 (wcA (upd R j r))::cellOb gn 9 #[.string (nmA 0),.string (nmA 1),.string (nmA 2)]::t)) ((w.setCell ⟨gw,j*2,none⟩ (.slice r.A r.E.length r.c)).setCell ⟨gw,j*2+1,none⟩ (.slice r.B r.E.length r.k)):=by
  rw [<- wcA_set R hj r];exact S6
 match j,hj with
 | 0,_=>exact SW.few (pre:=[_,_,_,_,_,_,_,_,_,_]) S7 [1,2,3,4,0,6,7,8,9] (n:=10) rfl (by decide) (by decide)
 | 1,_=>exact SW.few (pre:=[_,_,_,_,_,_,_,_,_,_]) S7 [1,2,3,4,5,0,7,8,9] (n:=10) rfl (by decide) (by decide)
 | 2,_=>exact SW.few (pre:=[_,_,_,_,_,_,_,_,_,_]) S7 [1,2,3,4,5,6,0,8,9] (n:=10) rfl (by decide) (by decide)
end
structure ApI (s:St) (R:Nat->R3):Prop where
 di:DI nsA s
 sh:∀ j,j<3->ShutI s (nmA j) (R j)
structure ApJ (dp j:Nat) (x:SR) (R:Nat->R3):Prop where
 pl:PlN nsA (nmA j) dp x (R j)
 oth:∀ k,k<3->k≠j->ShutI x.s (nmA k) (R k)
section
variable {dp j:Nat} {x x':SR} {R:Nat->R3} {r:R3}
theorem ApI.open {s:St} (h:ApI s R) (hx:PlN nsA (nmA j) dp x (R j)) (hs:x.s=s):ApJ dp j x R:=⟨hx,fun k hk _=>by rw [hs];exact h.sh k hk⟩
theorem PutY.s {ns:List ByteArray} {bs:List UInt8} (h:PutY ns x bs x'):x'.s=x.s:=by
 rcases h.way with ⟨_,rfl⟩ | ⟨_,d,_,rfl⟩<;>rfl
theorem ApJ.put (h:ApJ dp j x R) {bs:List UInt8} (ht:IsText bs) (hx:PutY nsA x bs x') (hr:RPutX (R j) bs r):ApJ dp j x' (upd R j r):=
 ⟨by rw [upd_at];exact h.pl.put ht hx hr,fun k hk hkj=>by rw [upd_ne R r hkj,hx.s];exact h.oth k hk hkj⟩
theorem ApJ.oth2 (h:ApJ dp j x R) (hj:j<3) (hn:∀ m,m≠fileN x.nm->m≠freshN x.nm->x'.s.now m=x.s.now m):∀ k,k<3->k≠j->ShutI x'.s (nmA k) (R k):=fun k hk hkj=>by
 have hne:=nmA_ne hj hk hkj;rw [<- h.pl.nm] at hne;exact (h.oth k hk hkj).same (hn _ hne.1 hne.2)
theorem ApJ.close (h:ApJ dp j x R) (hj:j<3) {x2 x3:SR} {ids:List ID} {r2 r3:R3} (hc2:Cl nsA x2) (hg:Gone x ids x2) (hc3:Cl nsA x3) (hf:Flushed x2 x3) (h2:r2.E=remE (R j).E ids) (h3:r3.E=r2.E.map fun e=>{ e with pn:=false }) (hT:∀ P,RTX r2 P->RTX r3 P):ApI x3.s (upd R j r3):=by
 have p2:PlN nsA (nmA j) dp x2 r2:=h.pl.gone hc2 hg h2 (fun P hP=>hP.remL h2);have p3:PlN nsA (nmA j) dp x3 r3:=p2.flush hc3 hf h3 hT
 have hnow:∀ m,m≠fileN x.nm->m≠freshN x.nm->x3.s.now m=x.s.now m:=fun m h1 h2=>by
  rw [hf.now m (by rw [hg.nm];exact h1),hg.now m h1 h2]
 refine ⟨hc3.di,fun k hk=>?_⟩;by_cases hkj:k=j
 · subst hkj;rw [upd_at];exact p3.shut hf.done
 rw [upd_ne R r3 hkj];exact h.oth2 hj hnow k hk hkj
end
theorem Flush_T {b:Nat} {w0 w:World} {ns:List ByteArray} {x:SR} {P:List (List UInt8)} {l:List Ob} (h:SW b w0 (x.obs l) w) (hc:Cl ns x) (hL:LayS x) (hT:TX x P):Calls Tryz.prog 35 #[vPtr x.ps] w (FlushL ns b w0 x l):=by
 have h1:=hT.few hc.keys;have h2:=pends_le x.C;have h3:=hT.pends;have h4:=hc.waits;have h5:=flen_few hc hL hT;exact Flush_L h hc (by omega) (by omega)
theorem ApI.start:ApI St.new (fun _=>r30):=by
 refine ⟨⟨rfl,rfl,by decide,by simp,fun m hm=>by cases hm⟩,fun j hj=>⟨[],⟨[],by simp,by simp,by simp,.inr ⟨rfl,rfl⟩⟩,RTX.empty,fun f hf=>by cases hf⟩⟩
theorem info54:(Tryz.prog.info? 54).map (fun i=>(i.zero,i.size,i.bytes))=some (some (.agg #[.slice none 0 0,.slice none 0 0]),2,48):=by kernel_rfl
theorem mk_three (w:World):(Instr.makeSlice 67 (.int .i64 3) (.int .i64 3)).run Tryz.prog w= .ok (.slice (some ⟨w.heap.size,0,none⟩) 3 3) (w.alloc (.cells #[.slice none 0 0,.slice none 0 0,.slice none 0 0,.slice none 0 0,.slice none 0 0,.slice none 0 0] 54)):=by
 obtain ⟨i0,hi,hz0,hz1,hz2⟩:=info_parts info54;have:=run_makeSlice (P:=Tryz.prog) w 67 54 i0 _ Tryz.underlying67 hi hz0 .i64 .i64 (3:Nat) (3:Nat) (by omega) (by omega) (by rw [hz1];omega) (by rw [hz2];omega) (by omega);have e:madeCells (Value.agg #[.slice none 0 0,.slice none 0 0]).cells (((3:Nat):Int).toNat*2)= #[.slice none 0 0,.slice none 0 0,.slice none 0 0,.slice none 0 0,.slice none 0 0,.slice none 0 0]:=by kernel_rfl
 rw [hz1,e] at this;exact this
end
section
open Go.RowKit Go.MapKept Go.ChangeMaps Go.Shelf Go.Sort
attribute [local go_sem] wext_cell
end
section
open Go.RowKit Go.MapKept Go.ChangeMaps Go.Shelf Go.Sort

end
end Go.Proofs.YteabgcollokgjaaGreatDoor
