/- Q -/
import Derived.Test.YteabgcollokgjaaGreatDoorQB37
set_option linter.unusedSimpArgs false
set_option linter.unusedVariables false
set_option maxRecDepth 100000
set_option maxHeartbeats 32000000
open Go.Lib renaming hid → kh
open List renaming append_assoc → zA,getElem?_cons_zero → zB
namespace Go.Proofs.YteabgcollokgjaaGreatDoor
section
open Go.RowKit Go.MapKept Go.ChangeMaps Go.Shelf Go.Sort
attribute [local go_sem] wext_cell
def openedX (p:Nat) (r:Rp) (s:St) (nm:ByteArray) (H:Nat) (C:Chs) (F:Option FR):SR:=⟨p,H+2,H,H+1,r,s,nm,C,F,0,sizeC C,false⟩
def OpenedX (s:St) (nm:ByteArray) (bs:List UInt8) (C:Chs) (F:Option FR):Prop:=
 ((s.now (fileN nm)).isSome=false/\C=[]/\F=none)∨((s.now (fileN nm)).isSome=true/\∃ fb sb,C=(scanF bs bs.length 0 [] [] true).1/\F=some ⟨fb,sb,bs.length,(scanF bs bs.length 0 [] [] true).2.2,(scanF bs bs.length 0 [] [] true).2.1⟩)
def OpenG (b p:Nat) (r:Rp) (s:St) (nm:ByteArray) (bs:List UInt8) (l:List Ob) (w:World) (e:Ending) (w':World):Prop:=
 ∃ H C F,w.heap.size<=H/\e= .returned (.tuple #[vPtr (H+2),.int .i64 0])/\SW b w ((openedX p r s nm H C F).obs l) w'/\OpenedX s nm bs C F
theorem Open_gen {b:Nat} {w:World} {p:Nat} {r:Rp} {s:St} {l:List Ob} (h:Sep b w (devOb p r s::l)) (nm:ByteArray) (bs:List UInt8) (hn:nameV nm=true) (hd:s.dn=false) (hb0:0<b) (hS:Syn w) (hN:∀ m,(s.now m).isSome=true->m=fileN nm∨Alien nm m) (hR:(s.now (fileN nm)).isSome=true->readE s (fileN nm)=0/\readB s (fileN nm)=bs):Calls Tryz.prog 20 #[vPtr p,.string nm] w (OpenG b p r s nm bs l w):=by
 have hsz:=nameV_size hn;have HV:=kh (validStore_any nm w (by unfold maxLen;omega));rw [hn] at HV;have HD:=kh (Down_any p r s w h.head);rw [hd] at HD;have hm1:(Instr.makeMap 128 none).run Tryz.prog w= .ok (.map (some w.heap.size)) (w.alloc (.map #[] 0)):=by simp [Instr.makeMap,run_underlying Tryz.underlying128]
 have hm2:(Instr.makeMap 129 none).run Tryz.prog (w.alloc (.map #[] 0))= .ok (.map (some (w.heap.size+1))) ((w.alloc (.map #[] 0)).alloc (.map #[] 0)):=by simp [Instr.makeMap,run_underlying Tryz.underlying129]
 have S1:SW b w (flOb (w.heap.size+1) none::chOb w.heap.size []::devOb p r s::l) ((w.alloc (.map #[] 0)).alloc (.map #[] 0)):=by
  have:=((SW.refl h).newMap).newFl;simpa using this
 have S2:Hid (SW b w ((openedS p r s nm w.heap.size).obs l) (((w.alloc (.map #[] 0)).alloc (.map #[] 0)).alloc (.cells #[.pointer (some ⟨p,0,none⟩),.string nm,.map (some w.heap.size),.map (some (w.heap.size+1)),.int .i64 0,.int .i64 0,.bool false] 131))):=
  SW.front (pre:=[_,_,_,_]) (t:=l) (S1.newCellAt 131 #[.pointer (some ⟨p,0,none⟩),.string nm,.map (some w.heap.size),.map (some (w.heap.size+1)),.int .i64 0,.int .i64 0,.bool false] (H:=w.heap.size+2) (by simp)) [3,0,2,1] (n:=4) rfl (by decide)
 have HLO:=kh (load_gen (x:=openedS p r s nm w.heap.size) (bs:=bs) S2.out.1 hb0 (hS.on hb0 S2.out.2) rfl rfl (by show nm.size<=1000;omega) hN hR)
 have HSC:Hid (∀ C F,OpenedX s nm bs C F->∃ N,N<=4194304/\SInv C N):=by
  rintro C F (⟨_,rfl,_⟩ | ⟨h1,fb,sb,rfl,_⟩)
  · exact ⟨0,by omega,LAt.nil,by simp,by simp⟩
  have hbl:bs.length<=4194304:=by
   have hdv:DV w p r s:=h.head;have:=readB_len hdv.ok (fileN nm);rw [(hR h1).2] at this;exact this
  exact ⟨bs.length,hbl,scan_inv bs hbl bs.length 0 [] [] true (by omega) ⟨LAt.nil,by simp,by simp⟩⟩
 unfold OpenG openedX;clear h hn hd hN hR hS hb0 S1;go_enter Tryz.func20,Tryz.ntmps20;go_wp2_with (first | (go_at_call 81;(with_reducible refine HV.out.mono ?_);rintro e w1 ⟨rfl,rfl⟩) | (go_at_call 82;(with_reducible refine HD.out.mono ?_);rintro e w1 ⟨rfl,rfl⟩) | (go_at_call 83;refine halt_ ?_))
 refine HLO.out.mono ?_;rintro e w1 ⟨rfl,s3⟩
 obtain ⟨C,F,HX,S3⟩:∃ C F,Hid (OpenedX s nm bs C F)/\Hid (SW b w (({ openedS p r s nm w.heap.size with C:=C,F:=F }:SR).obs l) w1):=by
  rcases s3 with ⟨h1,s3⟩ | ⟨h1,fb,sb,s3⟩
  · exact ⟨[],none,.inl ⟨h1,rfl,rfl⟩,S2.out.then s3⟩
  exact ⟨_,_,.inr ⟨h1,fb,sb,rfl,rfl⟩,S2.out.then s3⟩
 obtain ⟨N,hN4,hsi⟩:=HSC.out C F HX.out;have HSI:=kh hsi;clear s3 HLO S2 hm1 hm2 hsi HSC;have k2:w1.cell? ⟨w.heap.size+1+1,2,none⟩=some (.map (some w.heap.size)):=(S3.out.cell 1 rfl).cell 2;have HM:=kh (S3.out.get 2 (o:=chOb w.heap.size C) rfl).1;go_wp2_with (at_range;(refine wpList_range_is _ rfl _ 128 rfl 31 138 Tryz.underlying128 w.heap.size C rfl HM.out ?_);intro w4 hrg hg hs;have SWr:=kh (S3.out.range 2 rfl hrg hg);clear hrg hg hs)
 obtain ⟨q,Hq⟩:∃ q,Hid (w1.heap.size=q):=⟨_,rfl⟩;rw [Hq.out] at SWr;rw [Hq.out];clear Hq HM S3 k2;have SW0:Hid (SW b w (devOb p r s::cellOb (w.heap.size+2) 131 #[.pointer (some ⟨p,0,none⟩),.string nm,.map (some w.heap.size),.map (some (w.heap.size+1)),.int .i64 0,.int .i64 (0),.bool false]::itOb w.heap.size q C [] C.length::flOb (w.heap.size+1) F::l) w4):=SWr.out;clear SWr;go_loopw [] (fun wr=>∃ (done:Chs) (cnt:Nat),done.length+cnt<=C.length/\(∀ c∈done,c∈C)/\SW b w (devOb p r s::cellOb (w.heap.size+2) 131 #[.pointer (some ⟨p,0,none⟩),.string nm,.map (some w.heap.size),.map (some (w.heap.size+1)),.int .i64 0,.int .i64 (sizeC done),.bool false]::itOb w.heap.size q C done cnt::flOb (w.heap.size+1) F::l) wr) (fun wr=>wr.rangeLeft w.heap.size q)
 case atStart=>exact ⟨[],C.length,by simp,by simp,SW0.out⟩
 obtain ⟨done,cnt,hdc,hsub,hs⟩:=hrel;have S6:=kh hs;have HRI:=kh (hs.get 2 (o:=itOb w.heap.size q C done cnt) rfl:RIs okID vID vPl wr w.heap.size q C done cnt);have Hleft:=kh HRI.out.left_eq;have HSUB:=kh hsub;clear hs SW0 hsub;go_wp2_with (at_next;(refine wpList_next_ch _ rfl _ rfl w.heap.size q C done cnt rfl HRI.out (fun hp=>?_) (fun i pl w5 cnt1 hc1 hrg1 hlt1 hg1 hs1 hen=>halt_ ?_)))
 · have HP:=kh hp;clear hp;go_wp2_with fail
   go_ret2;refine ⟨w.heap.size,C,F,Nat.le_refl _,rfl,?_,HX.out⟩;rw [<- sizeC_perm HP.out]
   exact S6.out.unRange 2 rfl (fun c hc=>by
    obtain ⟨q',e,_⟩:=HSI.out.1 c.1 c.2 (asc_mem (HRI.out.map.nodup) hc);exact ⟨q',e⟩)
 have S7:=kh (S6.out.next 2 rfl hrg1 hg1);have HI:=kh (HSI.out.2.2 i (List.mem_map.2 ⟨_,hc1,rfl⟩));have Hlt:=kh hlt1;have HC1:=kh hc1;clear hrg1 hg1 hs1 hlt1 S6 HRI hc1;have S8:Hid (SW b w (cellOb w5.heap.size 31 #[.int .u64 i.1,.int .i64 i.2]::devOb p r s::cellOb (w.heap.size+2) 131 #[.pointer (some ⟨p,0,none⟩),.string nm,.map (some w.heap.size),.map (some (w.heap.size+1)),.int .i64 0,.int .i64 (sizeC done),.bool false]::itOb w.heap.size q C (done++[(i,pl)]) cnt1::flOb (w.heap.size+1) F::l) (w5.alloc (.cells #[.int .u64 i.1,.int .i64 i.2] 31))):=S7.out.newCell 31 _;clear S7;refine kh ?_;go_upto_region 12 with fail
 generalize w5.alloc (.cells #[.int .u64 i.1,.int .i64 i.2] 31)=W6 at S8 |-; generalize w5.heap.size=H6 at S8 |-; have c5:W6.cell? ⟨w.heap.size+2,5,none⟩=some (.int .i64 (sizeC done)):=(S8.out.cell 2 rfl).cell 5;have f5:W6.frozen? ⟨w.heap.size+2,5,none⟩=false:=(S8.out.cell 2 rfl).frozen 5;have d1:W6.cell? ⟨H6,1,none⟩=some (.int .i64 i.2):=(S8.out.cell 0 rfl).cell 1;have hb1:=sizeC_le4 done (fun c hc=>(HSI.out.2.2 c.1 (List.mem_map.2 ⟨c,HSUB.out c hc,rfl⟩)).2);have hb2:=HSI.out.2.1;have hb3:=HI.out.2;have hsum:IntKind.i64.wrap (sizeC done+i.2)=sizeC done+i.2:=IntWalk.i64_in _ (by omega);clear hen;go_region
 have S9:=kh ((S8.out.setAt 2 rfl 5 (.int .i64 (sizeC done+i.2))).tail.drew);clear S8 c5 f5 d1 hsum hb1 hb2 hb3;go_wp2_with fail
 go_roundw
 case rel=>
  refine ⟨done++[(i,pl)],cnt1,by have:=Hlt.out;rw [List.length_append,List.length_singleton];omega,fun c hc=>?_,?_⟩
  · rcases List.mem_append.1 hc with hc | hc
    · exact HSUB.out c hc
    rw [List.mem_singleton.1 hc];exact HC1.out
  rw [sizeC_snoc];exact S9.out
 have h1:RIs okID vID vPl _ w.heap.size q C (done++[(i,pl)]) cnt1:=S9.out.get 2 rfl;exact Nat.lt_of_le_of_lt (Nat.le_of_eq h1.left_eq) (Nat.lt_of_lt_of_eq Hlt.out Hleft.out.symm)
end
section
open Go.RowKit Go.MapKept Go.ChangeMaps Go.Shelf Go.Sort
theorem cut_lay:∀ (cs:List (List UInt8)) (pre:List UInt8) (i:ID) (o:Nat),(i,Pl.at o)∈layC pre.length cs->∃ c∈cs,i=fpOf c/\cutB (pre++layB pre.length cs) i o=c/\o+28+c.length<=(pre++layB pre.length cs).length:=by
 intro cs;induction cs with
 | nil=>intro pre i o h;cases h
 | cons c cs ih=>
  intro pre i o h;rcases List.mem_cons.1 h with e | h
  · injection e with e1 e2;injection e2 with e2;subst e1;subst e2;refine ⟨c,by simp,rfl,?_,?_⟩
    · rw [layB];unfold cutB;have e:(fpOf c).2.toNat=c.length:=by simp [fpOf]
      rw [e, <- zA, <- zA,zA (pre++_),List.drop_left' (by simp [headB_len]),List.take_left' rfl]
    rw [layB];simp only [List.length_append,headB_len];omega
  have e:pre.length+28+c.length=(pre++headB (fpOf c) 1 pre.length++c).length:=by simp [headB_len];omega
  rw [e] at h;obtain ⟨d,h1,h2,h3,h4⟩:=ih _ i o h
  have e2:pre++layB pre.length (c::cs)=pre++headB (fpOf c) 1 pre.length++c++layB (pre++headB (fpOf c) 1 pre.length++c).length cs:=by
   rw [layB, <- e];simp only [zA]
  rw [e2];exact ⟨d,List.mem_cons_of_mem _ h1,h2,h3,h4⟩
structure DI (ns:List ByteArray) (s:St):Prop where
 up:s.dn=false
 f0:s.f=0
 ops:s.ops.length<=900000
 ns2:ns.length<=200
 ns3:∀ m,(s.now m).isSome=true->m∈ns
theorem DI.cnt {ns:List ByteArray} {s:St} (h:DI ns s) {n:Nat} (hn:Cnt s.now n):n<=200:=by
 obtain ⟨L,h1,h2,rfl⟩:=hn;exact Nat.le_trans (len_le_sub L ns h1 (fun a ha=>h.ns3 a ((h2 a).1 ha))) h.ns2
def Shut (s:St) (nm:ByteArray) (P:List (List UInt8)):Prop:=
 ∃ cs:List (List UInt8),(cs.map fpOf).Nodup/\(∀ c,c∈cs↔c∈P)/\(∀ c∈cs,IsText c)/\(s.now (fileN nm)=some (layB 0 cs)∨(s.now (fileN nm)=none/\cs=[]))
theorem texts_few {cs:List (List UInt8)} (hn:(cs.map fpOf).Nodup) (ht:∀ c∈cs,IsText c):cs.length<=30/\layN cs<=960:=by
 have h1:=len_le_sub (cs.map fpOf) (allTexts.map fpOf) hn (fun i hi=>by
  obtain ⟨c,hc,e⟩:=List.mem_map.1 hi;exact List.mem_map.2 ⟨c,(ht c hc).mem,e⟩)
 have e:(allTexts.map fpOf).length=30:=by decide+kernel
 rw [e,List.length_map] at h1
 have h2:∀ cs:List (List UInt8),(∀ c∈cs,IsText c)->layN cs<=32*cs.length:=by
  intro cs;induction cs with
  | nil=>intro _;simp [layN]
  | cons c cs ih=>
   intro ht;have e:layN (c::cs)=28+c.length+layN cs:=by simp [layN]
   have:=ih (fun d hd=>ht d (List.mem_cons_of_mem _ hd));have:=(ht c (by simp)).hi;rw [e,List.length_cons];omega
 have:=h2 cs ht;omega
theorem shut_of {ns:List ByteArray} {x:SR} {P:List (List UInt8)} (h:Cl ns x) (hL:LayS x) (hT:TX x P) (hd:∀ c∈x.C,∃ o,c.2=Pl.at o):Shut x.s x.nm P:=by
 have hkey:∀ i,i∈x.C.map (·.1)↔i∈P.map fpOf:=fun i=>by rw [<- asc_key,hT.has i];simp
 cases hF:x.F with
 | none=>
  obtain ⟨h1,h2⟩:=h.no hF
  have hC:x.C=[]:=by
   cases hC:x.C with
   | nil=>rfl
   | cons c C=>
    exfalso
    obtain ⟨o,e⟩:=hd c (by rw [hC];simp);obtain ⟨i,pl⟩:=c;simp only at e;subst e;exact h2 i o (by rw [hC];simp)
  refine ⟨[],by simp,fun c=>⟨fun hc=>(by cases hc),fun hc=>?_⟩,fun c hc=>(by cases hc),.inr ⟨h1,rfl⟩⟩;have:=(hkey (fpOf c)).2 (List.mem_map.2 ⟨c,hc,rfl⟩);rw [hC] at this;cases this
 | some f=>
  obtain ⟨D,h1,cs,h2,h3,h4,h5⟩:=hL f hF
  have hin:∀ c∈cs,c∈P:=fun c hc=>by
   have hk:fpOf c∈(layC 0 cs).map (·.1):=by rw [layC_keys];exact List.mem_map.2 ⟨c,hc,rfl⟩
   obtain ⟨⟨i,pl⟩,hm,e⟩:=List.mem_map.1 hk;simp only at e;subst e;obtain ⟨o,e⟩:=layC_at cs 0 _ hm;simp only at e;subst e;have hmC:=(h5 _ o).2 hm;obtain ⟨t,ht,e⟩:=List.mem_map.1 ((hkey (fpOf c)).1 (List.mem_map.2 ⟨_,hmC,rfl⟩));have hv:=hT.val t ht;obtain ⟨d,hd1,hd2,hd3,hd4⟩:=cut_lay cs [] (fpOf c) o hm;simp only [List.length_nil,List.nil_append] at hd3 hd4;obtain ⟨_,D',k1,_,k3⟩:=h.file f hF;rw [h1] at k1;injection k1 with k1;subst k1;have ha:=asc_mem h.keys hmC
   have hvc:valC x (fpOf c)=some (cutB D (fpOf c) o):=by
    unfold valC;rw [ha];exact read_at h.up h.nv h1 (k3 _ o hmC)
   rw [e,hvc,h2,hd3] at hv;injection hv with hv;subst hv
   have hcd:c=d:=by
    exact inj_of_nodup fpOf cs h4 c hc d hd1 hd2
   subst hcd;exact ht
  refine ⟨cs,h4,fun c=>⟨hin c,fun hc=>?_⟩,fun c hc=>hT.text c (hin c hc),.inl (by rw [h1,h2])⟩;have hk:=(hkey (fpOf c)).2 (List.mem_map.2 ⟨c,hc,rfl⟩);obtain ⟨⟨i,pl⟩,hm,e⟩:=List.mem_map.1 hk;simp only at e;subst e;obtain ⟨o,e⟩:=hd _ hm;simp only at e;subst e;obtain ⟨d,hd1,hd2,_⟩:=cut_lay cs [] _ o ((h5 _ o).1 hm);have:=text_inj (hT.text c hc) (hT.text d (hin d hd1)) hd2;rw [this];exact hd1
theorem Shut.same {s s':St} {nm:ByteArray} {P:List (List UInt8)} (h:Shut s nm P) (e:s'.now (fileN nm)=s.now (fileN nm)):Shut s' nm P:=by
 unfold Shut at h |-; rw [e];exact h
structure Opened (ns:List ByteArray) (x:SR) (P:List (List UInt8)):Prop where
 cl:Cl ns x
 lay:LayS x
 tx:TX x P
 done:∀ c∈x.C,∃ o,c.2=Pl.at o
theorem open_shut {ns:List ByteArray} {s:St} {nm:ByteArray} {P:List (List UInt8)} (hD:DI ns s) (hs:Shut s nm P) (hn:nameV nm=true) (hm:fileN nm∈ns) {p H:Nat} {r:Rp} {C:Chs} {F:Option FR} (hx:OpenedX s nm ((s.now (fileN nm)).getD []) C F):Opened ns (openedX p r s nm H C F) P:=by
 obtain ⟨cs,c1,c2,c3,c4⟩:=hs;obtain ⟨f1,f2⟩:=texts_few c1 c3
 have hmap:∀ i,i∈cs.map fpOf↔i∈P.map fpOf:=fun i=>by
  constructor
  · intro h;obtain ⟨c,hc,e⟩:=List.mem_map.1 h;exact List.mem_map.2 ⟨c,(c2 c).1 hc,e⟩
  intro h;obtain ⟨c,hc,e⟩:=List.mem_map.1 h;exact List.mem_map.2 ⟨c,(c2 c).2 hc,e⟩
 have hCF:C=layC 0 cs/\((F=none/\s.now (fileN nm)=none/\cs=[])∨(s.now (fileN nm)=some (layB 0 cs)/\∃ fb sb,F=some ⟨fb,sb,layN cs,true,[]⟩)):=by
  rcases c4 with h1 | ⟨h1,h2⟩
  · rcases hx with ⟨k1,_⟩ | ⟨_,fb,sb,k1,k2⟩
    · rw [h1] at k1;cases k1
    rw [h1,Option.getD_some,scan_lay0 cs (fun c hc=>by have:=(c3 c hc).lo;have:=(c3 c hc).hi;omega) c1] at k1 k2;exact ⟨k1,.inr ⟨h1,fb,sb,by rw [k2,layB_len]⟩⟩
  rcases hx with ⟨_,k1,k2⟩ | ⟨k1,_⟩
  · subst h2;exact ⟨k1,.inl ⟨k2,h1,rfl⟩⟩
  rw [h1] at k1;cases k1
 obtain ⟨rfl,hF⟩:=hCF;have hk:((layC 0 cs).map (·.1)).Nodup:=by rw [layC_keys];exact c1
 have hmem:∀ i pl,(i,pl)∈layC 0 cs->∃ c o,c∈cs/\i=fpOf c/\pl= .at o/\cutB (layB 0 cs) i o=c/\o+28+c.length<=layN cs:=fun i pl h=>by
  obtain ⟨o,e⟩:=layC_at cs 0 _ h;simp only at e;subst e;obtain ⟨c,h1,h2,h3,h4⟩:=cut_lay cs [] i o h;simp only [List.length_nil,List.nil_append] at h3 h4;rw [layB_len] at h4;exact ⟨c,o,h1,h2,rfl,h3,h4⟩
 have hcut:∀ i o,(i,Pl.at o)∈layC 0 cs->cutOk (layB 0 cs) i o=true:=fun i o h=>by
  obtain ⟨c,o',h1,h2,h3,h4,h5⟩:=hmem i _ h;injection h3 with h3;subst h3;unfold cutOk;rw [h4,layB_len,h2];simp only [Bool.and_eq_true,decide_eq_true_eq,and_true];have:(fpOf c).2=(c.length:Int):=rfl;omega
 have hfl:flen F<=layN cs/\(∀ f,F=some f->f.T=[]/\f.clean=true/\f.len=layN cs/\s.now (fileN nm)=some (layB 0 cs))/\(F=none->s.now (fileN nm)=none/\cs=[])/\layN cs<=flen F:=by
  rcases hF with ⟨rfl,h1,h2⟩ | ⟨h1,fb,sb,rfl⟩
  · exact ⟨by simp [flen],(fun f hf=>by cases hf),fun _=>⟨h1,h2⟩,by rw [h2];simp [layN]⟩
  exact ⟨Nat.le_refl _,(fun f hf=>by injection hf with hf;subst hf;exact ⟨rfl,rfl,rfl,h1⟩),(fun hf=>by cases hf),Nat.le_refl _⟩
 obtain ⟨g1,g2,g3,g4⟩:=hfl
 have hlen:(layC 0 cs).length=cs.length:=by
  have:=congrArg List.length (layC_keys 0 cs);simpa using this
 have hid:∀ c∈layC 0 cs,1<=c.1.2/\c.1.2<=4:=fun c hc=>by
  obtain ⟨i,pl⟩:=c;obtain ⟨d,o,h1,h2,_⟩:=hmem i pl hc;have:=(c3 d h1).lo;have:=(c3 d h1).hi;have e:(fpOf d).2=(d.length:Int):=rfl;show 1<=i.2/\i.2<=4;rw [h2,e];omega
 refine ⟨?_,?_,?_,layC_at cs 0⟩
 · exact {
    live:=rfl
    up:=hD.up
    name:=by have:=nameV_size hn;simp only [openedX];omega
    few:=by simp only [openedX,hlen];omega
    ids:=fun c hc=>by have:=hid c hc;omega
    offs:=fun i o hc=>by
     obtain ⟨d,o',h1,h2,h3,_,h5⟩:=hmem i _ hc;injection h3 with h3;omega
    pends:=fun i d bs hc=>by obtain ⟨q,e⟩:=layC_at cs 0 _ hc;cases e
    whole:=fun f hf=>(g2 f hf).2.1
    own:=fun i d bs hc=>by obtain ⟨q,e⟩:=layC_at cs 0 _ hc;cases e
    ops:=hD.ops
    files:=fun n hn=>hD.cnt hn
    ids8:=fun c hc=>by have:=hid c hc;omega
    wait0:=by simp [openedX]
    wait1:=by simp [openedX]
    keys:=hk
    f0:=hD.f0
    nv:=hn
    ns1:=hm
    ns2:=hD.ns2
    ns3:=hD.ns3
    no:=fun hf=>⟨(g3 hf).1,fun i o hc=>by
     obtain ⟨d,o',h1,_⟩:=hmem i _ hc;rw [(g3 hf).2] at h1;cases h1⟩
    file:=fun f hf=>⟨(g2 f hf).1,layB 0 cs,(g2 f hf).2.2.2,by rw [layB_len,(g2 f hf).2.2.1],hcut⟩
    len:=by simp only [openedX];omega
    waits:=by
     simp only [openedX];rw [layC_pends];rfl
    pA:=fun i d bs hc=>by obtain ⟨q,e⟩:=layC_at cs 0 _ hc;cases e
    size:=rfl
    frames:=by
     simp only [openedX];rw [layC_sum];exact g4 }
 · intro f hf;exact ⟨layB 0 cs,(g2 f hf).2.2.2,cs,rfl,fun c hc=>by have:=(c3 c hc).lo;have:=(c3 c hc).hi;omega,c1,fun i o=>Iff.rfl⟩
 refine ⟨fun i=>?_,fun bs hb=>?_,fun bs hb=>c3 bs ((c2 bs).2 hb)⟩
 · rw [Bool.eq_iff_iff,decide_eq_true_eq, <- hmap i, <- layC_keys 0 cs];exact asc_key
 have hbc:=(c2 bs).2 hb;have hkk:fpOf bs∈(layC 0 cs).map (·.1):=by rw [layC_keys];exact List.mem_map.2 ⟨bs,hbc,rfl⟩
 obtain ⟨⟨i,pl⟩,h,e⟩:=List.mem_map.1 hkk;simp only at e;subst e;obtain ⟨c,o,h1,h2,rfl,h4,h5⟩:=hmem _ _ h;have hcb:bs=c:=inj_of_nodup fpOf cs c1 bs hbc c h1 h2
 have hnow:s.now (fileN nm)=some (layB 0 cs):=by
  rcases hF with ⟨_,_,h9⟩ | ⟨h9,_⟩
  · rw [h9] at h1;cases h1
  exact h9
 unfold valC;simp only [openedX];rw [asc_mem hk h];simp only [Option.bind_some];rw [read_at hD.up hn hnow (hcut _ _ h),h4,hcb]
def St.unf (s:St):St:={ s with f:=0 }
def SR.unf (x:SR):SR:={ x with s:=x.s.unf }
theorem gate_unf (s:St) (n:Nat) (o:POp):gate s.unf n o=gate s n o:=rfl
theorem gate_up {s:St} {n:Nat} {o:POp} (h:gate s n o=0):s.dn=false:=by
 cases hd:s.dn with
 | false=>rfl
 | true=>
  unfold gate at h;cases hk:o.k<;>simp [hk,hd] at h
theorem reqE_zero {s:St} {n:Nat} {o:POp} (h:reqE s n o=0):gate s n o=0/\s.f≠1:=by
 unfold reqE at h;by_cases hg:gate s n o=0
 · rw [if_pos hg] at h;refine ⟨hg,fun e=>?_⟩;rw [if_pos e] at h;cases h
 rw [if_neg hg] at h;exact absurd h hg
theorem did_up {s:St} {o:POp} (hd:s.dn=false) (hf:s.f≠1):(s.did o).dn=false:=by
 simp only [St.did,burnD];split
 · exact hd
 simp [hf]
theorem req_unf {s:St} {n:Nat} {o:POp} (h:reqE s n o=0):reqE s.unf n o=0/\reqS s.unf n o=(reqS s n o).unf/\reqS s n o=s.did o:=by
 obtain ⟨hg,hf⟩:=reqE_zero h;have hd:=gate_up hg;have e1:reqS s n o=s.did o:=by unfold reqS;rw [if_pos hg,if_neg hf]
 have e2:reqS s.unf n o=s.unf.did o:=by unfold reqS;rw [gate_unf,if_pos hg,if_neg (by simp [St.unf])]
 refine ⟨?_,?_,e1⟩
 · unfold reqE;rw [gate_unf,if_pos hg,if_neg (by simp [St.unf])]
 rw [e1,e2];have h1:=did_up (o:=o) hd hf;simp only [St.did,St.unf,burnD,burnF] at h1 |-; simp only [hd,if_pos,h1];simp [hd];exact fun _=>hf
theorem sync_unf {s:St} (h:syncE s=0):syncE s.unf=0/\syncS s.unf=(syncS s).unf/\syncS s=⟨s.now,[],false,burnF s.f⟩:=by
 unfold syncE at h;cases hd:s.dn with
 | true=>rw [hd] at h;cases h
 | false=>
  have hf:s.f≠1:=fun e=>by rw [hd,if_neg (by simp),if_pos e] at h;cases h
  have e1:syncS s=⟨s.now,[],false,burnF s.f⟩:=by unfold syncS;rw [hd,if_neg (by simp),if_neg hf]
  refine ⟨by simp [syncE,St.unf,hd],?_,e1⟩;rw [e1];simp only [syncS,St.unf,hd,burnF];rfl
theorem rq_unf {s:St} {nm:ByteArray} {n1 n2:Nat} {bs:List UInt8} (h:rqE s nm n1 n2 bs=0):rqE s.unf nm n1 n2 bs=0/\rqS s.unf nm n1 n2 bs=(rqS s nm n1 n2 bs).unf:=by
 unfold rqE at h;by_cases h1:reqE s n1 (crOp nm bs)=0
 · rw [if_pos h1] at h;obtain ⟨a1,a2,a3⟩:=req_unf h1;obtain ⟨b1,b2,b3⟩:=req_unf h;unfold rqE rqS;rw [if_pos a1,if_pos a1,if_pos h1,a2];exact ⟨b1,b2⟩
 rw [if_neg h1] at h;exact absurd h h1
theorem After.unf {x x1:SR} {G:List (ID×Bool)} (h:After x G x1):After x.unf G x1.unf:=by
 cases h with
 | none hno=>exact .none hno
 | del n r h1 hn e1 e2 hgo=>
  obtain ⟨a1,a2,a3⟩:=req_unf e1;obtain ⟨b1,b2,b3⟩:=sync_unf e2;have:=After.del (x:=x.unf) (G:=G) n r h1 hn a1 (by rw [show x.unf.s=x.s.unf from rfl,show x.unf.nm=x.nm from rfl,a2];exact b1) hgo;rw [show x.unf.s=x.s.unf from rfl,show x.unf.nm=x.nm from rfl,a2,b2] at this;exact this
 | ren n1 n2 r ys mv f hany hys hsrt hst hn1 hn2 e1 e2 hmv hfl hfc hfT=>
  have hr:readB x.unf.s (fileN x.unf.nm)=readB x.s (fileN x.nm):=rfl;obtain ⟨a1,a2⟩:=rq_unf e1;obtain ⟨b1,b2,b3⟩:=sync_unf e2
  have hq:reqE x.s n1 (crOp x.nm (rfold (readB x.s (fileN x.nm)) [] (stays G ys)).2)=0:=by
   unfold rqE at e1;by_cases h1:reqE x.s n1 (crOp x.nm (rfold (readB x.s (fileN x.nm)) [] (stays G ys)).2)=0
   · exact h1
   rw [if_neg h1] at e1;exact absurd e1 h1
  have hn2':Cnt (reqS x.unf.s n1 (crOp x.unf.nm (rfold (readB x.unf.s (fileN x.unf.nm)) [] (stays G ys)).2)).now n2:=by
   rw [hr,show x.unf.s=x.s.unf from rfl,show x.unf.nm=x.nm from rfl,(req_unf hq).2.1];exact hn2
  have:=After.ren (x:=x.unf) (G:=G) n1 n2 r ys mv f hany hys hsrt hst hn1 hn2' a1 (by rw [hr,show x.unf.s=x.s.unf from rfl,show x.unf.nm=x.nm from rfl,a2];exact b1) hmv hfl hfc hfT;rw [hr,show x.unf.s=x.s.unf from rfl,show x.unf.nm=x.nm from rfl,a2,b2] at this;exact this
theorem After.ops {x x1:SR} {G:List (ID×Bool)} (h:After x G x1) (ho:x.s.ops=[]):x1.s.ops=[]:=by
 cases h with
 | none hno=>exact ho
 | del n r h1 hn e1 e2 hgo=>simp only;rw [(sync_unf e2).2.2]
 | ren n1 n2 r ys mv f hany hys hsrt hst hn1 hn2 e1 e2 hmv hfl hfc hfT=>simp only;rw [(sync_unf e2).2.2]
theorem lost_s (s:St) (keep torn:Int):restartS (loseS s keep torn)=⟨lossF s keep torn,[],false,0⟩:=by
 have e:lossF s.cut keep torn=lossF s keep torn:=rfl;unfold restartS loseS decideS;rw [if_pos (by rfl),loss_none _ _ _ rfl,e];rfl
def LostK (nm:ByteArray) (P:List (List UInt8)) (ids:List ID) (K:FF):Prop:=
 DI [fileN nm,freshN nm] ⟨K,[],false,0⟩/\(Shut ⟨K,[],false,0⟩ nm P∨Shut ⟨K,[],false,0⟩ nm (P.filter fun t=> !decide (fpOf t∈ids)))
section
variable {nm:ByteArray} {P:List (List UInt8)} {ids:List ID} {K:FF} {s:St}
theorem di_of (h:∀ m,(K m).isSome=true->m=fileN nm∨m=freshN nm):DI [fileN nm,freshN nm] ⟨K,[],false,0⟩:=
 ⟨rfl,rfl,by simp,by simp,fun m hm=>by
  have h1:(K m).isSome=true:=hm;rcases h m h1 with rfl | rfl<;>simp⟩
theorem LostK.old (h:∀ m,(K m).isSome=true->m=fileN nm∨m=freshN nm) (hs:Shut s nm P) (e:K (fileN nm)=s.now (fileN nm)):LostK nm P ids K:=⟨di_of h,.inl (hs.same e)⟩
end
theorem fresh_ne_file (nm:ByteArray):freshN nm≠fileN nm:=fun h=>by
 have:=congrArg ByteArray.size h;unfold fileN freshN at this;rw [ByteArray.size_append,ByteArray.size_append,ByteArray.size_append] at this;have e1:(⟨#[46]⟩:ByteArray).size=1:=rfl;have e2:(⟨#[49]⟩:ByteArray).size=1:=rfl;have e3:(⟨#[46,110,101,119]⟩:ByteArray).size=4:=rfl;omega
section
variable {ns:List ByteArray} {x:SR} {P:List (List UInt8)} {ids:List ID}
theorem shut_ren (h:Cl ns x) (hT:TX x P) (hd:∀ c∈x.C,∃ o,c.2=Pl.at o) {D:List UInt8} (hD:∀ i o,(i,Pl.at o)∈x.C->x.s.now (fileN x.nm)=some D/\cutOk D i o=true) {ys:List Ent} (hys:ys.Perm (durs x.C)):
 ∃ cs:List (List UInt8),(rfold D [] (stays (goneL x.C ids) ys)).2=layB 0 cs/\(cs.map fpOf).Nodup/\(∀ c,c∈cs↔c∈P.filter fun t=> !decide (fpOf t∈ids))/\∀ c∈cs,IsText c:=by
 have hkey:∀ i,i∈x.C.map (·.1)↔i∈P.map fpOf:=fun i=>by rw [<- asc_key,hT.has i];simp
 have hmem:∀ y∈stays (goneL x.C ids) ys,(y.1,Pl.at y.2)∈x.C/\y.1 ∉ ids:=fun y hy=>by
  obtain ⟨h1,h2⟩:=List.mem_filter.1 hy;have hm:=durs_mem (hys.mem_iff.1 h1);refine ⟨hm,fun hi=>?_⟩;rw [goneT ((goneL_key x.C ids y.1).2 ⟨hi,asc_key.2 (List.mem_map.2 ⟨_,hm,rfl⟩)⟩)] at h2;simp at h2
 have hid:∀ y∈stays (goneL x.C ids) ys,fpOf (cutB D y.1 y.2)=y.1/\cutB D y.1 y.2∈P:=fun y hy=>by
  have hm:=(hmem y hy).1;obtain ⟨h1,h2⟩:=hD _ _ hm;have hf:=(cutOk_len h2).1;refine ⟨hf,?_⟩;obtain ⟨t,ht,e⟩:=List.mem_map.1 ((hkey y.1).1 (List.mem_map.2 ⟨_,hm,rfl⟩));have hv:=hT.val t ht
  have hvc:valC x y.1=some (cutB D y.1 y.2):=by
   unfold valC;rw [asc_mem h.keys hm];exact read_at h.up h.nv h1 h2
  rw [e,hvc] at hv;injection hv with hv;rw [hv];exact ht
 have hyn:((stays (goneL x.C ids) ys).map (·.1)).Nodup:=by
  refine List.Nodup.sublist ((List.filter_sublist).map _) ((hys.map (·.1)).nodup_iff.2 ?_)
  have:∀ C:Chs,(C.map (·.1)).Nodup->((durs C).map (·.1)).Nodup:=by
   intro C;induction C with
   | nil=>intro _;exact List.nodup_nil
   | cons c C ih=>
    intro hn;obtain ⟨i,pl⟩:=c;have h2:=ih (List.nodup_cons.1 hn).2;cases pl with
    | pend d bs=>exact h2
    | «at» o=>
     rw [durs,List.map_cons,List.nodup_cons];refine ⟨fun hi=>?_,h2⟩;obtain ⟨y,hy,e⟩:=List.mem_map.1 hi;exact (List.nodup_cons.1 hn).1 (List.mem_map.2 ⟨_,durs_mem hy,e⟩)
  exact this x.C h.keys
 have hmp:((stays (goneL x.C ids) ys).map (fun y=>cutB D y.1 y.2)).map fpOf=(stays (goneL x.C ids) ys).map (·.1):=by
  rw [List.map_map];exact List.map_congr_left (fun y hy=>(hid y hy).1)
 have hr:=rfold_lay D (stays (goneL x.C ids) ys) ([],[]) (fun y hy=>(hid y hy).1) hyn (by simp);refine ⟨(stays (goneL x.C ids) ys).map (fun y=>cutB D y.1 y.2),?_,by rw [hmp];exact hyn,fun c=>⟨fun hc=>?_,fun hc=>?_⟩,fun c hc=>?_⟩
 · have h2:rfold D [] (stays (goneL x.C ids) ys)=(stays (goneL x.C ids) ys).foldl (rstep D) ([],[]):=rfl;rw [h2,hr];simp
 · obtain ⟨y,hy,rfl⟩:=List.mem_map.1 hc;refine List.mem_filter.2 ⟨(hid y hy).2,?_⟩;rw [(hid y hy).1];simpa using (hmem y hy).2
 · obtain ⟨h1,h2⟩:=List.mem_filter.1 hc;have h2:fpOf c ∉ ids:=by simpa using h2
   obtain ⟨⟨i,pl⟩,hm,e⟩:=List.mem_map.1 ((hkey (fpOf c)).2 (List.mem_map.2 ⟨c,h1,rfl⟩));simp only at e;subst e;obtain ⟨o,e⟩:=hd _ hm;simp only at e;subst e
   have hy:(fpOf c,o)∈stays (goneL x.C ids) ys:=by
    refine List.mem_filter.2 ⟨hys.mem_iff.2 (durs_of hm),?_⟩;cases ha:asc (goneL x.C ids) (fpOf c) with
    | none=>simp
    | some v=>exact absurd ((goneL_key x.C ids _).1 (asc_key.1 (by rw [ha];rfl))).1 h2
   refine List.mem_map.2 ⟨_,hy,?_⟩;exact text_inj (hT.text _ (hid _ hy).2) (hT.text c h1) (hid _ hy).1
 obtain ⟨y,hy,rfl⟩:=List.mem_map.1 hc;exact hT.text _ (hid y hy).2
end
theorem loss1 (K:FF) (o:POp) (dn:Bool) (f keep torn:Int):lossF ⟨K,[o],dn,f⟩ keep torn=K∨(o.tears=true/\lossF ⟨K,[o],dn,f⟩ keep torn=applyF K (o.cutTo torn))∨lossF ⟨K,[o],dn,f⟩ keep torn=applyF K o:=by
 unfold lossF;split
 · exact .inl rfl
 cases hk:keep.toNat with
 | zero=>
  simp only [zB];split
  · rename_i h
    exact .inr (.inl ⟨h.1,rfl⟩)
  exact .inl rfl
 | succ k=>exact .inr (.inr rfl)
theorem loss2 (K:FF) (o1 o2:POp) (dn:Bool) (f keep torn:Int) (h2:o2.tears=false):lossF ⟨K,[o1,o2],dn,f⟩ keep torn=K∨(o1.tears=true/\lossF ⟨K,[o1,o2],dn,f⟩ keep torn=applyF K (o1.cutTo torn))∨lossF ⟨K,[o1,o2],dn,f⟩ keep torn=applyF K o1∨lossF ⟨K,[o1,o2],dn,f⟩ keep torn=applyF (applyF K o1) o2:=by
 unfold lossF;split
 · exact .inl rfl
 cases hk:keep.toNat with
 | zero=>
  simp only [zB];split
  · rename_i h
    exact .inr (.inl ⟨h.1,rfl⟩)
  exact .inl rfl
 | succ k=>
  cases k with
  | zero=>
   simp only [List.getElem?_cons_succ,zB];rw [if_neg (by rw [h2];simp)];exact .inr (.inr (.inl rfl))
  | succ k=>exact .inr (.inr (.inr rfl))
section
variable {x x1:SR} {P:List (List UInt8)} {ids:List ID} {E:Int}
theorem fails_lost (h:Cl [fileN x.nm] x.unf) (hL:LayS x) (hT:TX x P) (hd:∀ c∈x.C,∃ o,c.2=Pl.at o) (ho:x.s.ops=[]) (hf:Fails x (goneL x.C ids) E x1):
 E=303/\x1.p=x.p/\x1.s.ops.length<=2/\∀ keep torn,LostK x.nm P ids (lossF x1.s keep torn):=by
 have hK:x.s.now=x.s.K:=by unfold St.now;rw [ho];rfl
 have hns:∀ m,(x.s.K m).isSome=true->m=fileN x.nm∨m=freshN x.nm:=fun m hm=>by
  rw [<- hK] at hm;have:=h.ns3 m hm;exact .inl (List.mem_singleton.1 this)
 have hTu:TX x.unf P:=⟨hT.has,hT.val,hT.text⟩;have hSh:Shut x.s x.nm P:=shut_of (x:=x.unf) h hL hTu hd;have hold:∀ K:FF,(∀ m,(K m).isSome=true->m=fileN x.nm∨m=freshN x.nm)->K (fileN x.nm)=x.s.K (fileN x.nm)->LostK x.nm P ids K:=fun K h1 h2=>LostK.old h1 hSh (by rw [h2,hK]);have hK0:LostK x.nm P ids x.s.K:=hold _ hns rfl;have hup:x.s.dn=false:=h.up;have hfr:=fresh_ne_file x.nm
 have hset:∀ (v:Option (List UInt8)) (m:ByteArray),(FF.set x.s.K (freshN x.nm) v m).isSome=true->m=fileN x.nm∨m=freshN x.nm:=fun v m hm=>by
  unfold FF.set at hm;by_cases e:freshN x.nm=m
  · exact .inr e.symm
  rw [if_neg e] at hm;exact hns m hm
 have hcr:∀ bs,LostK x.nm P ids (applyF x.s.K (crOp x.nm bs)):=fun bs=>hold _ (hset _) (by simp [applyF,FF.set,hfr]);have hs0:∀ s:St,s=⟨s.K,s.ops,s.dn,s.f⟩:=fun _=>rfl;cases hf with
 | req n r E hany hcn e1 e2=>
  have hg:gate x.s n (delOp x.nm)=0:=(reqE_zero (h.reqDel n (anyAt_file h hany)).1).1
  have hf1:x.s.f=1:=by
   refine Classical.byContradiction fun hne=>e2 ?_;rw [e1];unfold reqE;rw [if_pos hg,if_neg hne]
  have hE:E=303:=by rw [e1];unfold reqE;rw [if_pos hg,if_pos hf1]
  have hs:reqS x.s n (delOp x.nm)=x.s.cut:=by unfold reqS;rw [if_pos hg,if_pos hf1]
  simp only [hs];refine ⟨hE,trivial,by simp [St.cut,ho],fun keep torn=>?_⟩;rw [loss_none _ _ _ (by exact ho)];exact hK0
 | sync n r E hany hcn e0 e1 e2 hgo=>
  obtain ⟨hg,hf1⟩:=reqE_zero e0;have hs:=(req_unf e0).2.2;rw [hs] at e1;have hdu:=did_up (o:=delOp x.nm) hup hf1
  have hf2:(x.s.did (delOp x.nm)).f=1:=by
   refine Classical.byContradiction fun hne=>e2 ?_;rw [e1];unfold syncE;rw [hdu,if_neg (by simp),if_neg hne]
  have hE:E=303:=by rw [e1];unfold syncE;rw [hdu,if_neg (by simp),if_pos hf2]
  have hs2:syncS (reqS x.s n (delOp x.nm))=⟨x.s.K,[delOp x.nm],true,0⟩:=by
   rw [hs];unfold syncS;rw [hdu,if_neg (by simp),if_pos hf2];simp [St.cut,St.did,ho]
  simp only [hs2];refine ⟨hE,trivial,by simp,fun keep torn=>?_⟩;rcases loss1 x.s.K (delOp x.nm) true 0 keep torn with e | ⟨e,_⟩ | e
  · rw [e];exact hK0
  · cases e
  rw [e];refine ⟨di_of (fun m hm=>?_),.inr ⟨[],by simp,fun c=>⟨fun hc=>(by cases hc),fun hc=>?_⟩,by simp,.inr ⟨by simp [St.now,applyF,FF.set],rfl⟩⟩⟩
  · simp only [applyF,FF.set] at hm;by_cases e:fileN x.nm=m
    · exact .inl e.symm
    rw [if_neg e] at hm;exact hns m hm
  exfalso
  obtain ⟨f,hF⟩:=anyAt_file h hany;obtain ⟨_,D,k1,_,k3⟩:=h.file f hF;obtain ⟨cs,c1,_,c3,_⟩:=shut_ren (x:=x.unf) (ids:=ids) h hTu hd (D:=D) (fun i o hm=>⟨k1,k3 i o hm⟩) (List.Perm.refl _);have h0:stays (goneL x.unf.C ids) (durs x.unf.C)=[]:=hgo _ (List.Perm.refl _);rw [h0] at c1
  have hcs:cs=[]:=by
   cases cs with
   | nil=>rfl
   | cons d cs=>
    have:=congrArg List.length c1;simp [rfold,layB,headB_len] at this;omega
  rw [hcs] at c3;have:=(c3 c).2 hc;cases this
 | rreq n1 n2 r ys E hany hys hsrt hn1 hn2 e1 e2=>
  obtain ⟨D,hD,hb⟩:=h.renew_len hany hys;have hD:readB x.s (fileN x.nm)=D:=hD;have hb:(rfold D [] (stays (goneL x.C ids) ys)).2.length<=1048576:=hb;rw [hD] at e1;generalize hbs:(rfold D [] (stays (goneL x.C ids) ys)).2=bs at e1 hb;have hsq:rqS x.s x.nm n1 n2 (rfold (readB x.s (fileN x.nm)) [] (stays (goneL x.C ids) ys)).2=rqS x.s x.nm n1 n2 bs:=by rw [hD,hbs]
  have hq:=rq_ok (s:=x.unf.s) (n1:=n1) (n2:=n2) (bs:=bs) h.up rfl h.nv (h.cnt hn1) hb
  have hq1:reqE x.unf.s n1 (crOp x.nm bs)=0:=by
   have:=hq.1;unfold rqE at this;by_cases h1:reqE x.unf.s n1 (crOp x.nm bs)=0
   · exact h1
   have this:(if reqE x.unf.s n1 (crOp x.nm bs)=0 then reqE (reqS x.unf.s n1 (crOp x.nm bs)) n2 (rnOp x.nm) else reqE x.unf.s n1 (crOp x.nm bs))=0:=this;rw [if_neg h1] at this;exact absurd this h1
  have hg:gate x.s n1 (crOp x.nm bs)=0:=(reqE_zero hq1).1;simp only [hsq];by_cases hf1:x.s.f=1
  · have hr:reqE x.s n1 (crOp x.nm bs)=303:=by unfold reqE;rw [if_pos hg,if_pos hf1]
    have hs:rqS x.s x.nm n1 n2 bs=x.s.cut:=by
     unfold rqS;rw [hr,if_neg (by omega)];unfold reqS;rw [if_pos hg,if_pos hf1]
    have hE:E=303:=by rw [e1];unfold rqE;rw [hr,if_neg (by omega)]
    rw [hs];refine ⟨hE,trivial,by simp [St.cut,ho],fun keep torn=>?_⟩;rw [loss_none _ _ _ (by exact ho)];exact hK0
  have hr:reqE x.s n1 (crOp x.nm bs)=0:=by unfold reqE;rw [if_pos hg,if_neg hf1]
  have hs1:reqS x.s n1 (crOp x.nm bs)=x.s.did (crOp x.nm bs):=(req_unf hr).2.2;have hdu:=did_up (o:=crOp x.nm bs) hup hf1
  have hg2:gate (x.s.did (crOp x.nm bs)) n2 (rnOp x.nm)=0:=by
   have hnow:(St.now (x.s.did (crOp x.nm bs))) (freshN x.nm)=some bs:=by
    rw [St.now_did];simp [applyF,FF.set]
   have h1:nameB (freshN x.nm)=true:=nameB_fresh h.nv;have h2:nameB (fileN x.nm)=true:=nameB_file h.nv;show (if (x.s.did (crOp x.nm bs)).dn then (303:Int) else if nameB (freshN x.nm)&&nameB (fileN x.nm) then (if (St.now (x.s.did (crOp x.nm bs)) (freshN x.nm)).isSome then 0 else 301) else 300)=0;rw [hnow,h1,h2,hdu];simp
  have hf2:(x.s.did (crOp x.nm bs)).f=1:=by
   refine Classical.byContradiction fun hne=>e2 ?_;rw [e1];unfold rqE;rw [if_pos hr,hs1];unfold reqE;rw [if_pos hg2,if_neg hne]
  have hE:E=303:=by
   rw [e1];unfold rqE;rw [if_pos hr,hs1];unfold reqE;rw [if_pos hg2,if_pos hf2]
  have hs:rqS x.s x.nm n1 n2 bs=⟨x.s.K,[crOp x.nm bs],true,0⟩:=by
   unfold rqS;rw [if_pos hr,hs1];unfold reqS;rw [if_pos hg2,if_pos hf2];simp [St.cut,St.did,ho]
  rw [hs];refine ⟨hE,trivial,by simp,fun keep torn=>?_⟩;rcases loss1 x.s.K (crOp x.nm bs) true 0 keep torn with e | ⟨_,e⟩ | e
  · rw [e];exact hK0
  · rw [e];exact hcr _
  rw [e];exact hcr _
 | rsync n1 n2 r ys E hany hys hsrt hn1 hn2 e0 e1 e2=>
  obtain ⟨D,hD,hb⟩:=h.renew_len hany hys;have hD:readB x.s (fileN x.nm)=D:=hD;obtain ⟨f,hF⟩:=anyAt_file h hany;obtain ⟨_,D',k1,_,k3⟩:=h.file f hF
  have hDD:D'=D:=by
   have:=(readE_ok h.up (nameB_file h.nv) k1).2;exact this.symm.trans hD
  subst hDD;obtain ⟨cs,c1,c2,c3,c4⟩:=shut_ren (x:=x.unf) (ids:=ids) h hTu hd (D:=D') (fun i o hm=>⟨k1,k3 i o hm⟩) hys;have c1:(rfold D' [] (stays (goneL x.C ids) ys)).2=layB 0 cs:=c1;rw [hD] at e0 e1;generalize hbs:(rfold D' [] (stays (goneL x.C ids) ys)).2=bs at e0 e1 c1;have hsq:syncS (rqS x.s x.nm n1 n2 (rfold (readB x.s (fileN x.nm)) [] (stays (goneL x.C ids) ys)).2)=syncS (rqS x.s x.nm n1 n2 bs):=by rw [hD,hbs]
  simp only [hsq]
  have hr:reqE x.s n1 (crOp x.nm bs)=0:=by
   unfold rqE at e0;by_cases h1:reqE x.s n1 (crOp x.nm bs)=0
   · exact h1
   rw [if_neg h1] at e0;exact absurd e0 h1
  have hs1:reqS x.s n1 (crOp x.nm bs)=x.s.did (crOp x.nm bs):=(req_unf hr).2.2
  have hr2:reqE (x.s.did (crOp x.nm bs)) n2 (rnOp x.nm)=0:=by
   unfold rqE at e0;rw [if_pos hr,hs1] at e0;exact e0
  have hs2:rqS x.s x.nm n1 n2 bs=(x.s.did (crOp x.nm bs)).did (rnOp x.nm):=by
   unfold rqS;rw [if_pos hr,hs1];exact (req_unf hr2).2.2
  rw [hs2] at e1;have hdu:=did_up (o:=rnOp x.nm) (did_up (o:=crOp x.nm bs) hup (reqE_zero hr).2) (reqE_zero hr2).2
  have hf2:((x.s.did (crOp x.nm bs)).did (rnOp x.nm)).f=1:=by
   refine Classical.byContradiction fun hne=>e2 ?_;rw [e1];unfold syncE;rw [hdu,if_neg (by simp),if_neg hne]
  have hE:E=303:=by rw [e1];unfold syncE;rw [hdu,if_neg (by simp),if_pos hf2]
  have hs3:syncS (rqS x.s x.nm n1 n2 bs)=⟨x.s.K,[crOp x.nm bs,rnOp x.nm],true,0⟩:=by
   rw [hs2];unfold syncS;rw [hdu,if_neg (by simp),if_pos hf2];simp [St.cut,St.did,ho]
  rw [hs3];refine ⟨hE,trivial,by simp,fun keep torn=>?_⟩;rcases loss2 x.s.K (crOp x.nm bs) (rnOp x.nm) true 0 keep torn rfl with e | ⟨_,e⟩ | e | e
  · rw [e];exact hK0
  · rw [e];exact hcr _
  · rw [e];exact hcr _
  rw [e]
  have hnow:∀ m,applyF (applyF x.s.K (crOp x.nm bs)) (rnOp x.nm) m=if freshN x.nm=m then none else if fileN x.nm=m then some bs else applyF x.s.K (crOp x.nm bs) m:=fun m=>by
   simp only [applyF,hfr,if_false];simp [FF.set]
  refine ⟨di_of (fun m hm=>?_),.inr ⟨cs,c2,c3,c4,.inl ?_⟩⟩
  · rw [hnow] at hm;by_cases m1:freshN x.nm=m
    · exact .inr m1.symm
    rw [if_neg m1] at hm;by_cases m2:fileN x.nm=m
    · exact .inl m2.symm
    rw [if_neg m2] at hm;exact hset _ m hm
  show applyF (applyF x.s.K (crOp x.nm bs)) (rnOp x.nm) (fileN x.nm)=some (layB 0 cs);rw [hnow,if_neg hfr,if_pos rfl,c1]
end
end
end Go.Proofs.YteabgcollokgjaaGreatDoor
