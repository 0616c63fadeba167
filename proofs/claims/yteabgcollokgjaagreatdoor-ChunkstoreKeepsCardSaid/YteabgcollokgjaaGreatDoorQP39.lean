/- Q -/
import Derived.Test.YteabgcollokgjaaGreatDoorQP38
set_option linter.unusedSimpArgs false
set_option linter.unusedVariables false
set_option maxRecDepth 100000
set_option maxHeartbeats 32000000
open Go.Lib (hid)
namespace Go.Proofs.YteabgcollokgjaaGreatDoor
section
open Go.RowKit Go.MapKept Go.ChangeMaps Go.Shelf Go.Sort
section
variable {b:Nat} {w0 w:World} {x:SR} {cs P:List (List UInt8)} {l:List Ob}
abbrev PutKP (b:Nat) (w0:World) (x:SR) (cs P:List (List UInt8)) (bs:List UInt8) (l:List Ob) (e:Ending) (w':World):Prop:=
 e= .returned (.tuple #[.agg #[.int .u64 (fpOf bs).1,.int .i64 (fpOf bs).2],.int .i64 0])/\∃ x',SW b w0 (x'.obs l) w'/\KpI x' cs (P++[bs])/\x'.ps=x.ps/\x'.p=x.p
theorem Put_K (h:SW b w0 (x.obs l) w) (hK:KpI x cs P) (A:Option Addr) (c:Nat) (bs:List UInt8) (hs:RS w A bs) (ht:IsText bs):Calls Tryz.prog 23 #[vPtr x.ps,.slice A bs.length c] w (PutKP b w0 x cs P bs l):=by
 have h1:=ht.lo;have h2:=ht.hi;have hf:=hK.few;have hb:=hK.bytes;have hwr:=hK.wr;cases ha:asc x.C (fpOf bs) with
 | none=>
  refine (Put_new h.1 hK.wf A c bs hs h1 (by omega) ha (by omega) hwr.wait0 hwr.wait1 hb.1 (by omega)).mono ?_;rintro e w' ⟨rfl,d,hs',_,hbl⟩;have hsw:SW b w0 ((putS x (fpOf bs) d bs).obs l) w':=⟨hs',h.2.trans hbl⟩;have hr:=hs'.spend (x:=putS x (fpOf bs) d bs) (id:=fpOf bs) (d:=d) (bs:=bs) (mem_of_asc (by simp only [putS];rw [asc_setL];simp));exact ⟨rfl,_,hsw,hK.put ht (rb_some hr.1 h1) ha,rfl,rfl⟩
 | some pl=>
  have hm:fpOf bs∈P.map fpOf:=by
   have:=hK.tx.has (fpOf bs);rw [ha] at this;exact of_decide_eq_true this.symm
  obtain ⟨t,ht',e⟩:=List.mem_map.1 hm;have e2:=text_inj (hK.tx.text t ht') ht e;subst e2;have hv:=hK.tx.val t ht';unfold valC at hv;rw [ha] at hv;have:=Put_there h.1 hK.wf A c t hs h1 (by omega) pl ha t hv;rw [if_pos rfl,if_pos rfl] at this;refine this.mono ?_;rintro e w' ⟨rfl,hbl⟩;exact ⟨rfl,x,h.on hbl,hK.more ht',rfl,rfl⟩
theorem Get_K (h:SW b w0 (x.obs l) w) (hK:KpI x cs P) {t:List UInt8} (ht:t∈P):Calls Tryz.prog 30 #[vPtr x.ps,.agg #[.int .u64 (fpOf t).1,.int .i64 (fpOf t).2]] w (GetCP b w0 x 0 t l):=by
 have hv:=hK.tx.val t ht;unfold valC at hv;cases ha:asc x.C (fpOf t) with
 | none=>rw [ha] at hv;cases hv
 | some pl=>
  rw [ha] at hv;have hv:readC x.s x.nm (fpOf t) pl=some t:=hv;have:=Get_at h.1 hK.wf (fpOf t) (hK.tx.text t ht).ok pl ha;rw [hv] at this;refine this.mono ?_;rintro e w' ⟨d,rfl,hr,hn,hb⟩;exact ⟨d,rfl,(h.newBytes hb hr hn).behind⟩
theorem Has_K (h:SW b w0 (x.obs l) w) (hK:KpI x cs P) {t:List UInt8} (ht:t∈P):Calls Tryz.prog 46 #[vPtr x.ps,.agg #[.int .u64 (fpOf t).1,.int .i64 (fpOf t).2]] w (fun e w'=>e= .returned (.bool true)/\Below w.heap.size w w'):=by
 have h1:=Has_any h.1 (fpOf t) (hK.tx.text t ht).ok;rw [hK.tx.has,decide_eq_true (List.mem_map.2 ⟨t,ht,rfl⟩)] at h1;exact h1
theorem IDs_K (h:SW b w0 (x.obs l) w) (hK:KpI x cs P):Calls Tryz.prog 28 #[vPtr x.ps] w (fun e w'=>∃ A c ys,e= .returned (.slice A ys.length c)/\(∀ i∈ys,∃ t∈P,fpOf t=i)/\(∀ t∈P,fpOf t∈ys)/\ys.length<=30/\SW b w0 (riOb A ys::x.obs l) w'):=by
 have hf:=hK.few;refine (IDs_S (x:=x) h (by omega)).mono ?_;rintro e w' ⟨A,k,ys,rfl,hp,hs,s⟩;refine ⟨A,k,ys,rfl,fun i hi=>?_,fun t ht=>?_,?_,s⟩
 · obtain ⟨t,ht,e,_⟩:=hK.tx.key (hp.mem_iff.1 hi);exact ⟨t,ht,e⟩
 · have:=hK.tx.has (fpOf t);rw [decide_eq_true (List.mem_map.2 ⟨t,ht,rfl⟩)] at this;exact hp.mem_iff.2 (asc_key.1 this)
 rw [hp.length_eq,List.length_map];exact hf
theorem KpI.fuse (h:KpI x cs P) (r':Rp) (n:Int):KpI { x with r:=r',s:={ x.s with f:=n } } cs P where
 nm:=h.nm
 ops:=h.ops
 cl:=h.cl.fuse r' n
 dsk:=h.dsk
 lay:=h.lay
 tx:=⟨h.tx.has,h.tx.val,h.tx.text⟩
 whole:=h.whole
theorem Fuse_K (h:SW b w0 (x.obs l) w) (hK:KpI x cs P) (n:Int) (hn:n<=9223372036854775807):Calls Tryz.prog 50 #[vPtr x.p,.int .i64 n] w (fun e w'=>e= .returned (.tuple #[])/\∃ x':SR,SW b w0 (x'.obs l) w'/\KpI x' cs P/\x'.ps=x.ps/\x'.p=x.p/\x'.wait=x.wait):=by
 refine (Fuse_S h (k:=0) rfl n hn).mono ?_;rintro e w' ⟨rfl,r',s⟩;exact ⟨rfl,{ x with r:=r',s:={ x.s with f:=max n 0 } },s,hK.fuse r' _,rfl,rfl,rfl⟩
theorem Open_K {dp:Nat} {rp:Rp} {s:St} (h:SW b w0 (devOb dp rp s::l) w) (hb0:0<b) (hS:Syn w0) (hs:s.dn=false) (ho:s.ops=[]) (hD:DskI s.now cs):Calls Tryz.prog 20 #[vPtr dp,.string nmS] w (fun e w'=>∃ x:SR,e= .returned (.tuple #[vPtr x.ps,.int .i64 0])/\SW b w0 (x.obs l) w'/\KpI x cs cs/\x.p=dp/\x.wait=0):=by
 refine (Open_gen h.1 nmS ((s.now (fileN nmS)).getD []) nmS_ok hs hb0 (hS.on hb0 h.2) (fun m hm'=>?_) (fun hs'=>?_)).mono ?_
 · rcases hD.ns m hm' with rfl | rfl
   · exact .inl rfl
   exact .inr (.inl rfl)
 · obtain ⟨D,hD'⟩:=Option.isSome_iff_exists.1 hs';rw [hD'];exact readE_ok hs (nameB_file nmS_ok) hD'
 rintro e w' ⟨H,C,F,hH,rfl,s2,hx⟩;refine ⟨openedX dp rp s nmS H C F,rfl,h.then s2,?_,rfl,rfl⟩;have hk2:((layC 0 cs).map (·.1)).Nodup:=by rw [layC_keys];exact hD.nd
 rcases hx with ⟨k1,k2,k3⟩ | ⟨k1,fb,sb,k2,k3⟩
 · have hnone:s.now (fileN nmS)=none:=by
    cases hv:s.now (fileN nmS) with
    | none=>rfl
    | some v=>rw [hv] at k1;cases k1
   have hcs:cs=[]:=by
    rcases hD.file with ⟨J,_,e⟩ | ⟨_,e⟩
    · rw [hnone] at e;cases e
    exact e
   subst hcs;subst k2;subst k3;exact KpI.done rfl rfl hs ho hD (by simp [openedX]) (fun i o=>by simp [openedX,layC]) (fun c hc=>by cases hc) rfl rfl (.inl ⟨rfl,hnone,rfl⟩) (fun c=>Iff.rfl)
 obtain ⟨J,hJ,e⟩:∃ J,TailJ (layN cs) J/\s.now (fileN nmS)=some (layB 0 cs++J):=by
  rcases hD.file with ⟨J,h1,e⟩ | ⟨e,_⟩
  · exact ⟨J,h1,e⟩
  rw [e] at k1;cases k1
 rw [e,Option.getD_some] at k2 k3;obtain ⟨cl,hsc,hcl⟩:=scan_torn hD.tx hD.nd hJ;rw [hsc] at k2 k3;simp only at k2 k3;subst k2;subst k3;exact KpI.done rfl rfl hs ho hD hk2 (fun i o=>Iff.rfl) (layC_at cs 0) rfl rfl (.inr ⟨_,J,rfl,rfl,e,by simp only [List.length_append,layB_len],hcl,hJ.len⟩) (fun c=>Iff.rfl)
def OpenedP (b:Nat) (w0:World) (dp:Nat) (cs:List (List UInt8)) (l:List Ob) (kk tg:Nat) (A:Option Addr) (cap:Nat) (L:List Int) (n:Nat) (e:Ending) (w':World):Prop:=
 ∃ (x:SR) (n':Nat),e= .returned (.tuple #[vPtr x.ps,.bool true])/\n'<=n+2/\KpI x cs cs/\x.p=dp/\x.wait=0/\SW b w0 (x.obs (l.set kk (tpOb tg A cap L n'))) w'
theorem opened53 {dp:Nat} {rp:Rp} {s:St} (h:SW b w0 (devOb dp rp s::l) w) (kk:Nat) {tg:Nat} {A:Option Addr} {cap:Nat} {L:List Int} {n:Nat} (hk:l[kk]? =some (tpOb tg A cap L n)) (hn:n<=900000) (hb0:0<b) (hS:Syn w0) (hs:s.dn=false) (ho:s.ops=[]) (hD:DskI s.now cs):
 Calls Tryz.prog 53 #[vPtr tg,vPtr dp] w (OpenedP b w0 dp cs l kk tg A cap L n):=by
 have hkl:kk<l.length:=(List.getElem?_eq_some_iff.1 hk).1;have HN:=hid (Next_x h (kk+1) hk 3 (by omega) (by omega));obtain ⟨hv0,hv1⟩:=tnext_in L n 3;have hv1:=hv1 (by omega);obtain ⟨K,HKK⟩:∃ K:Nat,Hid (tnext L n 3=(K:Int)):=⟨(tnext L n 3).toNat,by rw [Hid];omega⟩;rw [HKK.out] at HN hv0 hv1;have HB0:=hid hb0;have HS:=hid hS;have HDN:=hid hs;have HOP:=hid ho;have HD:=hid hD;have HKL:=hid hkl;clear h hk hb0 hS hs ho hD hkl;go_enter Tryz.func53,Tryz.ntmps53;go_wp2_with (go_at_call 33;(with_reducible refine HN.out.mono ?_);refine halt_ ?_)
 rintro e w1 ⟨rfl,s1⟩;have S1:Hid (SW b w0 (devOb dp rp s::l.set kk (tpOb tg A cap L (n+1))) w1):=s1;clear s1 HN;go_wp2_with fail
 go_loopw [6] (fun s6 wr=>∃ (m:Nat),s6= .int .i64 (m:Int)/\m<=2/\SW b w0 (devOb dp rp s::l.set kk (tpOb tg A cap L (n+1))) wr) (fun s6 _=>(intOf s6).toNat)
 case atStart=>exact ⟨K,rfl,by omega,S1.out⟩
 obtain ⟨m,rfl,hm,hs⟩:=hrel;have S2:=hid hs;clear hs S1;cases m with
 | zero=>
  have HO:=hid (Open_K S2.out HB0.out HS.out HDN.out HOP.out HD.out);go_wp2_with (go_at_call 20;(with_reducible refine HO.out.mono ?_);refine halt_ ?_)
  rintro e w3 ⟨x,rfl,s3,hK,hp,hw⟩;have S3:=hid s3;have HK:=hid hK;have HP:=hid hp;have HW:=hid hw;clear s3 hK hp hw HO S2;go_wp2_with fail
  go_ret2;exact ⟨x,n+1,rfl,by omega,HK.out,HP.out,HW.out,S3.out⟩
 | succ m=>
  have HN:=hid (Next_x S2.out (kk+1) (List.getElem?_set_self HKL.out) 6 (by omega) (by omega));obtain ⟨hv2,hv3⟩:=tnext_in L (n+1) 6;have hv3:=hv3 (by omega);obtain ⟨v,HV⟩:∃ v,Hid (tnext L (n+1) 6=v):=⟨_,rfl⟩;rw [HV.out] at HN hv2 hv3;have HFU:=hid (fun (w2:World) (s2:SW b w0 (devOb dp rp s::l.set kk (tpOb tg A cap L (n+2))) w2)=>Fuse_S s2 (k:=0) rfl (1+v) (by omega));go_wp2_with (go_at_call 33;(with_reducible refine HN.out.mono ?_);refine halt_ ?_)
  rintro e w3 ⟨rfl,s3⟩
  have S3:Hid (SW b w0 (devOb dp rp s::l.set kk (tpOb tg A cap L (n+2))) w3):=by
   rw [Hid];have s4:SW b w0 (devOb dp rp s::(l.set kk (tpOb tg A cap L (n+1))).set kk (tpOb tg A cap L (n+2))) w3:=s3;rw [List.set_set] at s4;exact s4
  clear s3 HN S2;go_wp2_with (go_at_call 50;(with_reducible refine (HFU.out _ S3.out).mono ?_);refine halt_ ?_)
  rintro e w4 ⟨rfl,r',s4⟩;have S4:Hid (SW b w0 (devOb dp r' { s with f:=max (1+v) 0 }::l.set kk (tpOb tg A cap L (n+2))) w4):=s4;clear s4 HFU S3;have HO:=hid (Open_K S4.out HB0.out HS.out HDN.out HOP.out HD.out);go_wp2_with (go_at_call 20;(with_reducible refine HO.out.mono ?_);refine halt_ ?_)
  rintro e w3 ⟨x,rfl,s3,hK,hp,hw⟩;have S3:=hid s3;have HP:=hid hp;have HW:=hid hw;have HFU:=hid (Fuse_K s3 hK 0 (by omega));rw [hp] at HFU;clear s3 hK hp hw HO S4;go_wp2_with (go_at_call 50;(with_reducible refine HFU.out.mono ?_);refine halt_ ?_)
  rintro e w5 ⟨rfl,x',s5,hK',hps',hp',hw'⟩;have S5:=hid s5;have HK:=hid hK';have HPS:=hid hps';have HP2:Hid (x'.p=dp):=by first | exact hp' | exact hp'.trans HP.out
  have HW2:=hid (hw'.trans HW.out);clear s5 hK' hps' hp' hw' HFU S3 HP HW;rw [<- HPS.out];go_wp2_with fail
  go_ret2;exact ⟨x',n+2,rfl,by omega,HK.out,HP2.out,HW2.out,S5.out⟩
end
end
section
open Go.RowKit Go.MapKept Go.ChangeMaps Go.Shelf Go.Sort
attribute [local go_sem] wext_cell
end
section
open Go.RowKit Go.MapKept Go.ChangeMaps Go.Shelf Go.Sort
end
section
open Go.RowKit Go.MapKept Go.ChangeMaps Go.Shelf Go.Sort
attribute [local go_sem] wext_cell
end
section
open Go.RowKit Go.MapKept Go.ChangeMaps Go.Shelf Go.Sort
section
variable {b:Nat} {w0 w:World} {l:List Ob}
theorem SW.dup {o:Ob} (h:SW b w0 l w) (hm:o∈l) (hn:∀ i,¬ o.own i):SW b w0 (o::l) w:=
 h.again hm hn (h.1.holds o hm) hn (fun _ h=>h)
end
end
end Go.Proofs.YteabgcollokgjaaGreatDoor
