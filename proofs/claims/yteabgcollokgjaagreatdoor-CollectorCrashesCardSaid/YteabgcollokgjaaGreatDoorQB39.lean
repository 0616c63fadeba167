/- Q -/
import Derived.Test.YteabgcollokgjaaGreatDoorQB38
set_option linter.unusedSimpArgs false
set_option linter.unusedVariables false
set_option maxRecDepth 100000
set_option maxHeartbeats 32000000
open Go.Lib (hid)
namespace Go.Proofs.YteabgcollokgjaaGreatDoor
section
open Go.RowKit Go.MapKept Go.ChangeMaps Go.Shelf Go.Sort
attribute [local go_sem] wext_cell
structure FzI (x:SR) (P:List (List UInt8)):Prop where
 cl:Cl [fileN x.nm] x.unf
 lay:LayS x
 tx:TX x P
 done:∀ c∈x.C,∃ o,c.2=Pl.at o
 ops:x.s.ops=[]
theorem done_gone {ns:List ByteArray} {x x':SR} {ids:List ID} (hd:∀ c∈x.C,∃ o,c.2=Pl.at o) (hc:Cl ns x') (hg:Gone x ids x'):∀ c∈x'.C,∃ o,c.2=Pl.at o:=fun c hc'=>by
 obtain ⟨i,pl⟩:=c;cases pl with
 | «at» o=>exact ⟨o,rfl⟩
 | pend d bs=>
  exfalso
  have hA:=(hc.pA i d bs hc').1;have h1:i∈Go.Proofs.YteabgcollokgjaaGreatDoor.pends x'.C:=pends_of hc' hA;by_cases hi:i∈ids
  · have:=hg.has i;rw [asc_key.2 (List.mem_map.2 ⟨_,hc',rfl⟩)] at this;simp [hi] at this
  rw [hg.pend i hi,pends_none hd] at h1;cases h1
theorem FzI.gone {x x':SR} {P:List (List UInt8)} {ids:List ID} (h:FzI x P) (hc:Cl [fileN x.nm] x'.unf) (hg:Gone x.unf ids x'.unf) (ho:x'.s.ops=[]):FzI x' (P.filter fun t=> !decide (fpOf t∈ids)):=by
 have hn:x'.nm=x.nm:=hg.nm;have hTu:TX x.unf P:=⟨h.tx.has,h.tx.val,h.tx.text⟩;have hT:TX x'.unf _:=hTu.gone hg;exact ⟨by rw [hn];exact hc,hg.lay h.lay,⟨hT.has,hT.val,hT.text⟩,done_gone (x:=x.unf) (x':=x'.unf) h.done hc hg,ho⟩
theorem FzI.lost {x:SR} {P:List (List UInt8)} (h:FzI x P) (keep torn:Int):LostK x.nm P [] (lossF x.s keep torn):=by
 have hTu:TX x.unf P:=⟨h.tx.has,h.tx.val,h.tx.text⟩;have hSh:Shut x.s x.nm P:=shut_of (x:=x.unf) h.cl h.lay hTu h.done;rw [loss_none _ _ _ h.ops];have hK:x.s.now=x.s.K:=by unfold St.now;rw [h.ops];rfl
 exact LostK.old (fun m hm=>by
  rw [<- hK] at hm;exact .inl (List.mem_singleton.1 (h.cl.ns3 m hm))) hSh (by rw [hK])
structure Torn (x:SR) (P:List (List UInt8)) (ids:List ID) (x1:SR):Prop where
 p:x1.p=x.p
 ops:x1.s.ops.length<=2
 lost:∀ keep torn,LostK x.nm P ids (lossF x1.s keep torn)
section
variable {b:Nat} {w0 w:World} {l:List Ob} {c:CR} {x:SR} {P:List (List UInt8)}
def RemF (b:Nat) (w0:World) (x:SR) (P:List (List UInt8)) (ids:List ID) (l:List Ob) (e:Ending) (w':World):Prop:=
 (e= .returned (.tuple #[.int .i64 ((goneL x.C ids).length:Int),.int .i64 0])/\∃ x',SW b w0 (x'.obs l) w'/\FzI x' (P.filter fun t=> !decide (fpOf t∈ids))/\x'.nm=x.nm/\x'.p=x.p/\x'.ps=x.ps)∨
 (e= .returned (.tuple #[.int .i64 0,.int .i64 303])/\∃ x1,SW b w0 (x1.obs l) w'/\Torn x P ids x1)
theorem Rem_f (h:SW b w0 (x.obs l) w) (hx:FzI x P) (A:Option Addr) (c:Nat) (ids:List ID) (hA:riOb A ids∈l) (hok:∀ i∈ids,okID i) (hl:ids.length<=100000):Calls Tryz.prog 25 #[vPtr x.ps,.slice A ids.length c] w (RemF b w0 x P ids l):=by
 have hc:=hx.cl;have hz:=sizeC_le x.C hc.ids8;have hz2:x.bytes=sizeC x.C:=hc.size;have hfew:x.C.length<=4096:=hc.few;have hw:WH x:={ live:=hc.live,up:=hc.up,name:=hc.name,few:=hc.few,ids:=hc.ids,offs:=hc.offs,pends:=hc.pends,whole:=hc.whole,own:=hc.own,ops:=hc.ops,files:=hc.files,ids8:=hc.ids8,wait0:=hc.wait0,wait1:=hc.wait1 };refine (Remove_any h.1 hw A c ids hA hok hl (fun f hf=>(hc.file f hf).1) (fun ha=>hc.ren ha) (fun ha=>anyAt_file (x:=x.unf) hc ha) (by omega) (by omega)).mono ?_;rintro e w' (⟨E,x1,hE,rfl,hf,hs⟩ | ⟨x1,done,rfl,ha,hd,hs⟩)
 · obtain ⟨rfl,h1,h2,h3⟩:=fails_lost hx.cl hx.lay hx.tx hx.done hx.ops hf;exact .inr ⟨rfl,x1,h.then hs,h1,h2,h3⟩
 obtain ⟨a1,a2⟩:=gone_cl (x:=x.unf) hx.cl ha.unf hd;have h3:FzI (rmS x1 done) (P.filter fun t=> !decide (fpOf t∈ids)):=hx.gone a1 a2 (ha.ops hx.ops);exact .inl ⟨rfl,rmS x1 done,h.then hs,h3,a2.nm,a2.p,a2.ps⟩
abbrev StepF (b:Nat) (w0:World) (c:CR) (x:SR) (P:List (List UInt8)) (R:List ID) (l:List Ob) (e:Ending) (w':World):Prop:=
 (∃ A cap x',e= .returned (.tuple #[.slice A R.length cap,.int .i64 0])/\SW b w0 (coOb { c with cand:=lessL (setI R) c.cand }::x'.obs l) w'/\FzI x' (P.filter fun t=> !decide (fpOf t∈R))/\x'.nm=x.nm/\x'.p=x.p/\x'.ps=x.ps)∨
 (∃ x1,e= .returned (.tuple #[.slice none 0 0,.int .i64 303])/\SW b w0 (coOb c::x1.obs l) w'/\Torn x P R x1)
theorem Step_f (h:SW b w0 (coOb c::x.obs l) w) (hps:c.ps=x.ps) (hx:FzI x P) (n:Int) (hok:∀ i∈c.cand,okID i) (hl:c.cand.length<=100000) (R:List ID) (hR:stepL c n=R):
 Calls Tryz.prog 62 #[vPtr c.cp,.int .i64 n] w (StepF b w0 c x P R l):=by
 have HR:=hid hR;have HRO:Hid (∀ i∈R,okID i):=fun i hi=>hok i (stF_sub c n _ i (by rw [<- hR] at hi;exact hi))
 have hRl:R.length<=100000:=by
  rw [<- hR];show (stF c n c.cand).length<=_;unfold stF;rw [List.length_take];have:=List.length_filter_le (fun i=> !heldC c i) c.cand;omega
 obtain ⟨A0,HA0⟩:∃ A0,Hid (c.A=A0):=⟨_,rfl⟩;clear hR;have H:=hid h;have HOK:=hid hok;have HX:=hid hx;have HPS:=hid hps;obtain ⟨N,HN⟩:∃ N,Hid (c.cand.length=N):=⟨_,rfl⟩;have k1:=CR.cell1 (h.get 0 (o:=coOb c) rfl);rw [HN.out,HA0.out] at k1;rw [HN.out] at hl;clear h hok hx hps;go_enter Tryz.func62,Tryz.ntmps62;go_upto_block 0 with fail
 go_cut [6] from 33 (fun s6 w'=>∃ A cap,s6= .slice A R.length cap/\SW b w0 (rowOb 31 2 (.slice A R.length cap) R.length (R.flatMap encID)::coOb c::x.obs l) w')
 case first=>
  go_wp2_with fail
  go_loopw [6,16] (fun s6 s16 wr=>∃ (k:Nat) (A:Option Addr) (cap:Nat),k<=N/\s16= .int .i64 (k:Int)/\s6= .slice A (stF c n (c.cand.take k)).length cap/\SW b w0 (rowOb 31 2 (.slice A (stF c n (c.cand.take k)).length cap) (stF c n (c.cand.take k)).length ((stF c n (c.cand.take k)).flatMap encID)::coOb c::x.obs l) wr) (fun _ s16 _=>N-(intOf s16).toNat)
  case atStart=>
   refine ⟨0,none,0,Nat.zero_le _,rfl,?_,?_⟩
   · simp [stF]
   have:=H.out.newRow 31 2;simpa [stF] using this
  obtain ⟨k,A,cap,hk,rfl,rfl,hs⟩:=hrel;have S1:=hid hs;clear hs H k1;by_cases hlt:k<N
  · have hltc:k<c.cand.length:=by rw [HN.out];exact hlt
    obtain ⟨i,hik⟩:∃ i,c.cand.getD k id0=i:=⟨_,rfl⟩
    have hmm:i∈c.cand:=by
     rw [<- hik,List.getD_eq_getElem?_getD,List.getElem?_eq_getElem hltc];exact List.getElem_mem hltc
    have hoki:=HOK.out i hmm
    have hts:c.cand.take (k+1)=c.cand.take k++[i]:=by
     rw [List.take_succ_eq_append_getElem hltc, <- hik,List.getD_eq_getElem?_getD,List.getElem?_eq_getElem hltc];rfl
    have HTS:=hid (stF_snoc c n (c.cand.take k) i);rw [<- hts] at HTS;have HFU:=hid (stF_full c n k);obtain ⟨F,HF⟩:∃ F,Hid (stF c n (c.cand.take k)=F):=⟨_,rfl⟩
    have hFk:F.length<=k:=by
     rw [<- HF.out];unfold stF;rw [List.length_take];have:=List.length_filter_le (fun i=> !heldC c i) (c.cand.take k);rw [List.length_take] at this;omega
    rw [HF.out] at S1 HTS HFU |-; have hhm:(coOb c).holds wr:=S1.out.get 1 (o:=coOb c) rfl
    obtain ⟨gA,hA,hrow,hgl⟩:∃ g,c.A=some ⟨g,0,none⟩/\RowI wr g c.cand/\g<wr.heap.size:=by
     obtain ⟨_,r2,r3⟩:=hhm.2.1;cases hcA:c.A with
     | none=>
      have:=r2 hcA;rw [this] at hltc;simp at hltc
     | some ad=>
      obtain ⟨g,rfl,h1,h2⟩:=r3 ad hcA;exact ⟨g,rfl,h1,h2⟩
    obtain rfl:A0=some ⟨gA,0,none⟩:=HA0.out.symm.trans hA;obtain ⟨a0,a1,_,_⟩:=hrow.cells hltc hik;have S2:=hid (S1.out.newCell 31 #[.int .u64 i.1,.int .i64 i.2]);have HHE:=hid (held_any (SW.front (pre:=[_,_,_]) (t:=x.obs l) S2.out [2,1,0] (n:=3) rfl (by decide)) i hoki);have c0:(wr.alloc (.cells #[.int .u64 i.1,.int .i64 i.2] 31)).cell? ⟨wr.heap.size,0,none⟩=some (.int .u64 i.1):=(S2.out.cell 0 rfl).cell 0;have c1:(wr.alloc (.cells #[.int .u64 i.1,.int .i64 i.2] 31)).cell? ⟨wr.heap.size,1,none⟩=some (.int .i64 i.2):=(S2.out.cell 0 rfl).cell 1;clear hhm hrow hik hmm hts hltc S1;by_cases hfull:n<=(F.length:Int)
    · have hd:decide ((F.length:Int)>=n)=true:=decide_eq_true hfull;have HE:Hid (F=R):=(HFU.out hfull).trans HR.out;clear HFU HTS;go_wp2_with fail
      go_meet;refine ⟨A,cap,?_,?_⟩
      · rw [HE.out]
      rw [<- HE.out];exact S2.out.tail
    have hd:decide ((F.length:Int)>=n)=false:=decide_eq_false (by omega);have HE:=hid (HTS.out (by omega));clear HFU HTS;go_wp2_with (go_at_call 111;(with_reducible refine HHE.out.mono ?_);refine halt_ ?_)
    rintro e w3 rfl s3;have S3:=hid (SW.front (pre:=[_,_,_]) (t:=x.obs l) s3 [2,1,0] (n:=3) rfl (by decide));clear s3 HHE S2 c0 c1;have c0:=(S3.out.cell 0 rfl).cell 0;have c1:=(S3.out.cell 0 rfl).cell 1;cases hhd:heldC c i with
    | true=>
     rw [hhd,if_pos rfl,List.append_nil] at HE;go_wp2_with fail
     go_roundw
     case rel=>
      refine ⟨k+1,A,cap,by omega,by go_num,?_,?_⟩
      · rw [HE.out]
      rw [HE.out];exact S3.out.tail
     simp [intOf];omega
    | false=>
     rw [hhd,if_neg (by decide)] at HE;obtain ⟨i1,gi,gz0,gz1,gz2⟩:=info_parts info31;go_wp2_with (at_builtin;(refine wpList_rowS (t:=38) (e:=31) (size:=2) (bytes:=16) (i:=i1) (S3.out.alloc _) 1 rfl (by rfl) (.tmp 28) (.tmp 30) (by rfl) Tryz.underlying38 gi gz0 gz1 gz2 rfl (by omega) (by rfl) ⟨w3.heap.size,0,none⟩ 1 [.int .u64 i.1,.int .i64 i.2] (by rfl) rfl (two_new w3 _ _ 31 _ rfl) (encID_one i) (by unfold maxLen;omega) (by omega) ?_);refine halt_ ?_)
     intro v4 w4 s4;obtain ⟨g4,c4,rfl⟩:=own_some (s4.get 1 rfl) (by omega)
     have S4:Hid (SW b w0 (rowOb 31 2 (.slice (some ⟨g4,0,none⟩) (F++[i]).length c4) (F++[i]).length ((F++[i]).flatMap encID)::coOb c::x.obs l) w4):=by
      rw [Hid,List.flatMap_append,List.length_append];exact s4.tail
     clear s4 S3 c0 c1;go_wp2_with fail
     go_roundw
     case rel=>
      refine ⟨k+1,some ⟨g4,0,none⟩,c4,by omega,by go_num,?_,?_⟩
      · rw [HE.out,List.length_append];rfl
      rw [HE.out];exact S4.out
     simp [intOf];omega
  obtain rfl:k=N:=by omega
  have hF:c.cand.take k=c.cand:=by rw [<- HN.out,List.take_length]
  have hFR:stF c n c.cand=R:=HR.out;rw [hF,hFR] at S1 |-; clear hFR hF;go_wp2_with fail
  go_meet;exact ⟨A,cap,rfl,S1.out⟩
 obtain ⟨A,cap,rfl,s⟩:=hcut;have S1:Hid (SW b w0 (coOb c::x.obs (riOb A R::l)) wc):=SW.front (pre:=[_,_,_,_,_,_]) (t:=l) s.rowRi [1,2,3,4,5,0] (n:=6) rfl (by decide);clear s k1 H;obtain ⟨r,hr⟩:∃ r,R.length=r:=⟨_,rfl⟩;cases r with
 | zero=>
  obtain rfl:R=[]:=List.eq_nil_of_length_eq_zero hr;go_wp2_with fail
  go_ret2;refine .inl ⟨none,0,x,rfl,?_,by have e:(P.filter fun t=> !decide (fpOf t∈([]:List ID)))=P:=(List.filter_eq_self.2 (fun t _=>by simp));rw [e];exact HX.out,rfl,rfl,rfl⟩
  have e:lessL (setI []) c.cand=c.cand:=by
   unfold lessL setI;exact List.filter_eq_self.2 (fun i _=>by simp [asc])
  rw [e];exact SW.few (pre:=[_,_,_,_,_,_]) (t:=l) S1.out [0,1,2,3,4] (n:=6) rfl (by decide) (by decide)
 | succ r=>
  have k0:=CR.cell0 (S1.out.get 0 (o:=coOb c) rfl);rw [HPS.out] at k0;have S2:Hid (SW b w0 (x.obs (riOb A R::coOb c::l)) wc):=SW.front (pre:=[_,_,_,_,_,_]) (t:=l) S1.out [1,2,3,4,5,0] (n:=6) rfl (by decide);have HRM:=hid (fun cc=>Rem_f S2.out HX.out A cc R (by simp) HRO.out hRl);rw [hr] at HRM |-; have hd:decide (((r+1:Nat):Int)=0)=false:=decide_eq_false (by omega);clear S1;go_wp2_with (go_at_call 25;(with_reducible refine (HRM.out _).mono ?_);refine halt_ ?_)
  rintro e w2 (⟨rfl,x',s2,hz2,hnm2,hp2,hps2⟩ | ⟨rfl,x1,s2,htn⟩);rotate_left
  · have S3:=hid s2;have TN:=hid htn;clear s2 htn HRM k0;go_wp2_with fail
    go_ret2;exact .inr ⟨x1,rfl,SW.few (pre:=[_,_,_,_,_,_]) (t:=l) S3.out [5,0,1,2,3] (n:=6) rfl (by decide) (by decide),TN.out⟩
  have Z2:=hid hz2;have N2:Hid (x'.nm=x.nm/\x'.p=x.p/\x'.ps=x.ps):=⟨hnm2,hp2,hps2⟩;clear hz2 hnm2 hp2 hps2;have HST:=hid (fun cc=>set_any s2 A cc R (by simp) HRO.out hRl);rw [hr] at HST;clear s2 HRM k0;go_wp2_with (go_at_call 113;(with_reducible refine (HST.out _).mono ?_);refine halt_ ?_)
  rintro e w3 ⟨rfl,s3⟩;have HDR:=hid (drop_any (SW.front (pre:=[_,_,_,_,_,_,_]) (t:=l) s3 [6,0,1,2,3,4,5] (n:=7) rfl (by decide)) HOK.out (by rw [HN.out];exact hl));clear s3 HST;go_wp2_with (go_at_call 112;(with_reducible refine HDR.out.mono ?_);refine halt_ ?_)
  rintro e w4 ⟨rfl,s4⟩;have S4:=hid s4;clear s4 HDR;go_wp2_with fail
  go_ret2;exact .inl ⟨A,cap,x',by rw [hr];rfl,SW.few (pre:=[_,_,_,_,_,_,_]) (t:=l) S4.out [0,2,3,4,5] (n:=7) rfl (by decide) (by decide),Z2.out,N2.out⟩
end
end
section
open Go.RowKit Go.MapKept Go.ChangeMaps Go.Shelf Go.Sort
theorem fileN_inj {a b:ByteArray} (h:fileN a=fileN b):a=b:=by
 have e:∀ nm:ByteArray,(fileN nm).data.toList=nm.data.toList++[46,49]:=fun nm=>by simp [fileN]
 have h1:=congrArg (fun x=>x.data.toList) h;simp only [e] at h1;have h2:=List.append_cancel_right h1;cases a
 cases b
 simp only at h2;rw [Array.toList_inj.1 h2]
theorem Cl.fuse {ns:List ByteArray} {x:SR} (h:Cl ns x) (r':Rp) (n:Int):Cl ns ({ x with r:=r',s:={ x.s with f:=n } }:SR).unf where
 live:=h.live
 up:=h.up
 name:=h.name
 few:=h.few
 ids:=h.ids
 offs:=h.offs
 pends:=h.pends
 whole:=h.whole
 own:=h.own
 ops:=h.ops
 files:=h.files
 ids8:=h.ids8
 wait0:=h.wait0
 wait1:=h.wait1
 keys:=h.keys
 f0:=rfl
 nv:=h.nv
 ns1:=h.ns1
 ns2:=h.ns2
 ns3:=h.ns3
 no:=h.no
 file:=h.file
 len:=h.len
 waits:=h.waits
 pA:=h.pA
 size:=h.size
 frames:=h.frames
def KeepI (P0:List (List UInt8)) (live:List ID) (P:List (List UInt8)):Prop:=(∀ t∈P,t∈P0)/\∀ t∈P0,fpOf t∈live->t∈P
theorem KeepI.less {P0 P:List (List UInt8)} {live R:List ID} (h:KeepI P0 live P) (hR:∀ i∈R,i ∉ live):KeepI P0 live (P.filter fun t=> !decide (fpOf t∈R)):=
 ⟨fun t ht=>h.1 t (List.mem_filter.1 ht).1,fun t ht hl=>List.mem_filter.2 ⟨h.2 t ht hl,by simpa using fun hm=>hR _ hm hl⟩⟩
structure LostI (P0:List (List UInt8)) (live:List ID) (s:St):Prop where
 ops:s.ops.length<=2
 lost:∀ keep torn,∃ P,DI [fileN nmS,freshN nmS] ⟨lossF s keep torn,[],false,0⟩/\Shut ⟨lossF s keep torn,[],false,0⟩ nmS P/\KeepI P0 live P
structure CrI (P0:List (List UInt8)) (live:List ID) (cp ps dp:Nat) (c:CR) (x:SR):Prop where
 cp:c.cp=cp
 cps:c.ps=x.ps
 xps:x.ps=ps
 xp:x.p=dp
 nm:x.nm=nmS
 fz:∃ P,FzI x P/\KeepI P0 live P
 cand:∀ i∈c.cand,okID i/\i ∉ live
 len:c.cand.length<=11
section
variable {P0:List (List UInt8)} {live:List ID} {cp ps dp:Nat} {c:CR} {x x':SR}
theorem CrI.lost (h:CrI P0 live cp ps dp c x):LostI P0 live x.s:=by
 obtain ⟨P,hz,hk⟩:=h.fz;refine ⟨by rw [hz.ops];simp,fun keep torn=>?_⟩;obtain ⟨h1,h2⟩:=hz.lost keep torn;rw [h.nm] at h1 h2;rcases h2 with h2 | h2
 · exact ⟨P,h1,h2,hk⟩
 exact ⟨_,h1,h2,hk.less (by simp)⟩
theorem CrI.torn (h:CrI P0 live cp ps dp c x) {P:List (List UInt8)} (hk:KeepI P0 live P) {R:List ID} (hR:∀ i∈R,i ∉ live) (ht:Torn x P R x'):LostI P0 live x'.s:=by
 refine ⟨ht.ops,fun keep torn=>?_⟩;obtain ⟨h1,h2⟩:=ht.lost keep torn;rw [h.nm] at h1 h2;rcases h2 with h2 | h2
 · exact ⟨P,h1,h2,hk⟩
 exact ⟨_,h1,h2,hk.less hR⟩
theorem CrI.start {L:List Int} {p:PR} (h:BgOk L p) (r':Rp) (n:Int):CrI (bgE L).P (bgE L).live p.co.cp p.x.ps p.x.p p.co { p.x with r:=r',s:={ p.x.s with f:=n } }:=by
 have hn:p.x.nm=nmS:=fileN_inj (List.mem_singleton.1 h.cl.ns1);refine ⟨rfl,h.ps,rfl,rfl,hn,⟨_,⟨?_,h.lay,⟨h.tx.has,h.tx.val,h.tx.text⟩,h.done,h.ops⟩,fun t ht=>ht,fun t ht _=>ht⟩,fun i hi=>⟨bg_ids h i hi,(bg_key h hi).2⟩,bg_clen h⟩;show Cl [fileN p.x.nm] _;rw [hn];exact h.cl.fuse r' n
end
section
variable {b:Nat} {w0 w:World} {l:List Ob} {P0:List (List UInt8)} {live:List ID} {cp ps dp:Nat} {c:CR} {x:SR}
def StepC (b:Nat) (w0:World) (P0:List (List UInt8)) (live:List ID) (cp ps dp:Nat) (l:List Ob) (e:Ending) (w':World):Prop:=
 (∃ (A:Option Addr) (q cap:Nat) (c':CR) (x':SR),e= .returned (.tuple #[.slice A q cap,.int .i64 0])/\SW b w0 (coOb c'::x'.obs l) w'/\CrI P0 live cp ps dp c' x')∨
 (∃ (c':CR) (x':SR),e= .returned (.tuple #[.slice none 0 0,.int .i64 303])/\SW b w0 (coOb c'::x'.obs l) w'/\LostI P0 live x'.s/\x'.p=dp)
theorem Step_C (h:SW b w0 (coOb c::x.obs l) w) (hI:CrI P0 live cp ps dp c x) (n:Int):Calls Tryz.prog 62 #[vPtr cp,.int .i64 n] w (StepC b w0 P0 live cp ps dp l):=by
 obtain ⟨P,hz,hk⟩:=hI.fz;have hlen:=hI.len;have hsub:∀ i∈stepL c n,i∈c.cand:=stF_sub c n c.cand;have h1:=Step_f h hI.cps hz n (fun i hi=>(hI.cand i hi).1) (by omega) _ rfl;rw [hI.cp] at h1;refine h1.mono ?_;rintro e w' (⟨A,cap,x',rfl,s,hz',hn,hp,hps⟩ | ⟨x1,rfl,s,ht⟩)
 · refine .inl ⟨A,_,cap,_,x',rfl,s,hI.cp,hI.cps.trans hps.symm,hps.trans hI.xps,hp.trans hI.xp,hn.trans hI.nm,⟨_,hz',hk.less (fun i hi=>(hI.cand i (hsub i hi)).2)⟩,fun i hi=>hI.cand i (List.mem_filter.1 hi).1,?_⟩;exact Nat.le_trans (lessL_le _ _) hI.len
 exact .inr ⟨c,x1,rfl,s,hI.torn hk (fun i hi=>(hI.cand i (hsub i hi)).2) ht,ht.p.trans hI.xp⟩
theorem Fuse_S {p:Nat} {r:Rp} {s:St} {k:Nat} (h:SW b w0 l w) (hk:l[k]? =some (devOb p r s)) (n:Int) (hn:n<=9223372036854775807):Calls Tryz.prog 50 #[vPtr p,.int .i64 n] w (fun e w'=>e= .returned (.tuple #[])/\∃ r',SW b w0 (l.set k (devOb p r' { s with f:=max n 0 })) w'):=by
 refine (goes_S (Fuse_any p r s n w (h.1.dv hk) hn) h.1 hk).mono ?_;rintro e w' ⟨rfl,r',s',hb⟩;exact ⟨rfl,r',s',h.2.trans hb⟩
theorem Lose_S {p:Nat} {r:Rp} {s:St} {k:Nat} (h:SW b w0 l w) (hk:l[k]? =some (devOb p r s)) (keep torn:Int) (hL:s.ops.length<=1000000) (ht:torn<=9223372036854775807):Calls Tryz.prog 51 #[vPtr p,.agg #[.int .i64 keep,.int .i64 torn]] w (fun e w'=>e= .returned (.tuple #[])/\∃ r',SW b w0 (l.set k (devOb p r' (loseS s keep torn))) w'):=by
 refine (goes_S (Lose_any p r s keep torn w (h.1.dv hk) hL ht) h.1 hk).mono ?_;rintro e w' ⟨rfl,r',s',hb⟩;exact ⟨rfl,r',s',h.2.trans hb⟩
theorem Restart_S {p:Nat} {r:Rp} {s:St} {k:Nat} (h:SW b w0 l w) (hk:l[k]? =some (devOb p r s)) (hL:s.ops.length<=1000000):Calls Tryz.prog 52 #[vPtr p] w (fun e w'=>e= .returned (.tuple #[])/\∃ r',SW b w0 (l.set k (devOb p r' (restartS s))) w'):=by
 refine (goes_S (Restart_any p r s w (h.1.dv hk) hL) h.1 hk).mono ?_;rintro e w' ⟨rfl,r',s',hb⟩;exact ⟨rfl,r',s',h.2.trans hb⟩
theorem open_lost {rp:Rp} {s:St} (h:SW b w0 (devOb dp rp s::l) w) (hb0:0<b) (hS:Syn w0) {P:List (List UInt8)} (hD:DI [fileN nmS,freshN nmS] s) (hI:Shut s nmS P):Calls Tryz.prog 20 #[vPtr dp,.string nmS] w (fun e w'=>∃ x:SR,e= .returned (.tuple #[vPtr x.ps,.int .i64 0])/\SW b w0 (x.obs l) w'/\Opened [fileN nmS,freshN nmS] x P):=by
 refine (Open_gen h.1 nmS ((s.now (fileN nmS)).getD []) nmS_ok hD.up hb0 (hS.on hb0 h.2) (fun m hm'=>?_) (fun hs=>?_)).mono ?_
 · have:=hD.ns3 m hm';simp only [List.mem_cons,List.not_mem_nil,or_false] at this;rcases this with rfl | rfl
   · exact .inl rfl
   exact .inr (.inl rfl)
 · obtain ⟨D,hD'⟩:=Option.isSome_iff_exists.1 hs;rw [hD'];exact readE_ok hD.up (nameB_file nmS_ok) hD'
 rintro e w' ⟨H,C,F,hH,rfl,s2,hx⟩;exact ⟨_,rfl,h.then s2,open_shut hD hI nmS_ok (by simp) hx⟩
end
end
section
open Go.RowKit Go.MapKept Go.ChangeMaps Go.Shelf Go.Sort
attribute [local go_sem] wext_cell
end
section
open Go.RowKit Go.MapKept Go.ChangeMaps Go.Shelf Go.Sort

end
section
open Go.RowKit Go.MapKept Go.ChangeMaps Go.Shelf Go.Sort
attribute [local go_sem] wext_cell
end
end Go.Proofs.YteabgcollokgjaaGreatDoor
