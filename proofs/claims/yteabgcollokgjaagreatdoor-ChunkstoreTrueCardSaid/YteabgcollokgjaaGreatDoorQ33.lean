/- VT UI VU OP in one text. -/
import Derived.Test.YteabgcollokgjaaGreatDoorQ32
import Derived.ChangeSlices
import Derived.ProofKit
set_option linter.unusedSimpArgs false
set_option linter.unusedVariables false
set_option maxRecDepth 100000
set_option maxHeartbeats 32000000
open Go.Lib (hid)
namespace Go.Proofs.YteabgcollokgjaaGreatDoor
section
open Go.RowKit Go.MapKept Go.ChangeMaps Go.Shelf Go.Sort
attribute [local go_sem] wext_cell
section
variable {b:Nat} {w0 w:World} {l:List Ob} {g:Nat} {A:Option Addr} {c:Nat} {L:List Int} {n:Nat}
theorem text34_x (h:SW b w0 l w) (kk:Nat) (hk:l[kk]? =some (tpOb g A c L n)) (hn:n<=999000):Calls Tryz.prog 34 #[vPtr g] w (TextP b w0 l kk g A c L n):=by
 have hkl:kk<l.length:=(List.getElem?_eq_some_iff.1 hk).1;have HN:=hid (Next_x h kk hk 4 (by omega) (by omega));have HT:=hid (textN_in L n);obtain ⟨q,hq⟩:∃ q:Nat,tnext L n 4=(q:Int):=⟨(tnext L n 4).toNat,by have:=(tnext_in L n 4).1;omega⟩;have e1:textN L n=1+q:=by unfold textN;rw [hq];simp
 have hq4:q<=3:=by have:=HT.out.2;omega
 rw [hq] at HN;clear h;go_enter Tryz.func34,Tryz.ntmps34;go_wp2_with (go_at_call 33;(with_reducible refine HN.out.mono ?_);refine halt_ ?_)
 rintro e w1 ⟨rfl,s1⟩;have HB:=hid (Bytes_x s1 kk (List.getElem?_set_self hkl) (1+q) 2 (by omega) (by omega) (by omega) (by omega));rw [<- e1,List.set_set] at HB;have e2:Hid ((1:Int)+(q:Int)=((textN L n:Nat):Int)):=by rw [Hid,e1];omega
 clear e1 hq;clear s1 HN;go_wp2_with (go_at_call 54;refine halt_ ?_)
 rw [e2.out];refine HB.out.mono ?_;rintro e w2 ⟨d,rfl,s2⟩;have S2:=hid s2;clear s2 HB;go_wp2_with fail
 go_ret;exact ⟨d,rfl,S2.out⟩
end
abbrev PutTS (ns:List ByteArray) (b:Nat) (w0:World) (x:SR) (P:List (List UInt8)) (bs:List UInt8) (l:List Ob) (e:Ending) (w':World):Prop:=
 e= .returned (.tuple #[.agg #[.int .u64 (fpOf bs).1,.int .i64 (fpOf bs).2],.int .i64 0])/\∃ x',SW b w0 (x'.obs l) w'/\Cl ns x'/\TX x' (P++[bs])/\x'.ps=x.ps/\x'.p=x.p/\x'.nm=x.nm/\x'.F=x.F/\x'.s=x.s
theorem PutTS_L {ns:List ByteArray} {b:Nat} {w0 w:World} {x:SR} {l:List Ob} (h:SW b w0 (x.obs l) w) (hc:Cl ns x) {P:List (List UInt8)} (hT:TX x P) (A:Option Addr) (c:Nat) (bs:List UInt8) (hs:RS w A bs) (ht:IsText bs):
 Calls Tryz.prog 23 #[vPtr x.ps,.slice A bs.length c] w (PutTS ns b w0 x P bs l):=by
 have h1:=ht.lo;have h2:=ht.hi;cases ha:asc x.C (fpOf bs) with
 | none=>
  have hf:=hT.few hc.keys;refine (PutN_L h hc A c bs hs (by omega) (by omega) ha (by omega)).mono ?_;rintro e w' ⟨rfl,d,s,hc'⟩;exact ⟨rfl,_,s,hc',hT.put ht ha d,rfl,rfl,rfl,rfl,rfl⟩
 | some pl=>
  have hm:fpOf bs∈P.map fpOf:=by
   have:=hT.has (fpOf bs);rw [ha] at this;exact of_decide_eq_true this.symm
  obtain ⟨t,ht',e⟩:=List.mem_map.1 hm;have e2:=text_inj (hT.text t ht') ht e;subst e2;refine (PutS_L h hc A c t hs (by omega) (by omega) (hT.val t ht')).mono ?_;rintro e w' ⟨rfl,s⟩;exact ⟨rfl,x,s,hc,hT.more ht',rfl,rfl,rfl,rfl,rfl⟩
structure TrI (ps dp:Nat) (P:List (List UInt8)) (x:SR) (r:R3):Prop where
 ps:x.ps=ps
 p:x.p=dp
 nm:x.nm=nmS
 ops:x.s.ops=[]
 cl:Cl [fileN nmS] x
 tx:TX x P
 rtx:RTX r P
 len:flen x.F<=192*P.length
abbrev trL (x:SR) (r:R3) (g9 tg:Nat) (A:Option Addr) (cap:Nat) (L:List Int) (n:Nat) (l:List Ob):List Ob:=x.obs (r3Ob r::cellOb g9 54 #[.slice r.A r.E.length r.c,.slice r.B r.E.length r.k]::tpOb tg A cap L n::l)
structure TruI (dp:Nat) (x:SR):Prop where
 p:x.p=dp
 nm:x.nm=nmS
 wf:WF x
 lat:LAt x.C
 ops:x.s.ops=[]
 f:x.s.f=0
 one:∀ m,(x.s.now m).isSome=true↔m=fileN nmS
 len:∀ bs,x.s.now (fileN nmS)=some bs->bs.length<=4096
theorem TruI.ofFlush {ps dp:Nat} {P:List (List UInt8)} {x x2:SR} {r:R3} (h:TrI ps dp P x r) (hf:Flushed x x2) (hc:Cl [fileN nmS] x2) (hP:P≠[]) (hl:flen x2.F<=4096):TruI dp x2:=by
 have hnm:x2.nm=nmS:=hf.nm.trans h.nm
 have hF:∃ f,x2.F=some f:=by
  cases hF:x2.F with
  | some f=>exact ⟨f,rfl⟩
  | none=>
   obtain ⟨bs,hb⟩:=List.exists_mem_of_ne_nil P hP;have h1:=(hf.has (fpOf bs)).trans (h.tx.has (fpOf bs));rw [decide_eq_true (List.mem_map.2 ⟨bs,hb,rfl⟩)] at h1;obtain ⟨pl,hpl⟩:=Option.isSome_iff_exists.1 h1;have hm:=mem_of_asc hpl;obtain ⟨o,e⟩:=hf.done _ hm;simp only at e;subst e;exact absurd hm ((hc.no hF).2 _ _)
 obtain ⟨f,hF⟩:=hF;obtain ⟨_,D,hD,hDl,_⟩:=hc.file f hF;rw [hnm] at hD;refine ⟨hf.p.trans h.p,hnm,hc.toWH.toWF,fun i pl hi=>?_,hf.ops h.ops,hc.f0,fun m=>⟨fun hm=>by simpa using hc.ns3 m hm,fun e=>by rw [e,hD];rfl⟩,fun bs hb=>?_⟩
 · have hm:=mem_of_asc hi;obtain ⟨o,e⟩:=hf.done _ hm;simp only at e;subst e;exact ⟨o,rfl,hc.offs _ _ hm⟩
 rw [hD] at hb;injection hb with hb;subst hb;rw [hF] at hl;rw [hDl];exact hl
theorem flipB_length (bs:List UInt8) (o k:Nat):(flipB bs o k).length=bs.length:=by simp [flipB]
theorem TruI.flip {dp:Nat} {x:SR} (h:TruI dp x) (off bit:Int) (r':Rp):TruI dp { x with r:=r',s:=flipS x.s (fileN nmS) off bit }:=by
 have hnow:x.s.now=x.s.K:=by
  unfold St.now;rw [h.ops];rfl
 unfold flipS;by_cases he:flipE x.s (fileN nmS) off bit=0
 · rw [if_pos he]
   have hn2:∀ (K:FF),(⟨K,x.s.ops,x.s.dn,x.s.f⟩:St).now=K:=fun K=>by
    unfold St.now;simp only;rw [h.ops];rfl
   refine ⟨h.p,h.nm,⟨h.wf.live,h.wf.up,h.wf.name,h.wf.few,h.wf.ids,h.wf.offs,h.wf.pends⟩,h.lat,h.ops,h.f,fun m=>?_,fun bs hb=>?_⟩
   · simp only [hn2];have:=h.one m;rw [hnow] at this;by_cases hm:m=fileN nmS
     · subst hm;simp [FF.set]
     rw [<- this];simp only [FF.set];rw [if_neg (fun e=>hm e.symm)]
   simp only [hn2] at hb;simp only [FF.set,if_true] at hb;injection hb with hb
   have hl:((x.s.now (fileN nmS)).getD ([]:List UInt8)).length<=4096:=by
    cases hv:x.s.now (fileN nmS) with
    | none=>simp
    | some v=>exact h.len v hv
   rw [<- hb,flipB_length];rw [hnow] at hl;first | exact hl | (rw [<- hnow] at hl;exact hl)
 rw [if_neg he];exact ⟨h.p,h.nm,⟨h.wf.live,h.wf.up,h.wf.name,h.wf.few,h.wf.ids,h.wf.offs,h.wf.pends⟩,h.lat,h.ops,h.f,h.one,h.len⟩
theorem TruI.read {dp:Nat} {x:SR} (h:TruI dp x):∃ D,x.s.now (fileN nmS)=some D/\D.length<=4096/\readE x.s (fileN nmS)=0/\readB x.s (fileN nmS)=D:=by
 obtain ⟨D,hD⟩:=Option.isSome_iff_exists.1 ((h.one (fileN nmS)).2 rfl);obtain ⟨e1,e2⟩:=readE_ok h.wf.up (nameB_file nmS_ok) hD;exact ⟨D,hD,h.len D hD,e1,e2⟩
theorem fold_q (v n:Int) (W:World) (hn:n<=4294967296):Calls Tryz.prog 24 #[.int .i64 v,.int .i64 n] W (fun e w'=>e= .returned (.int .i64 (foldI v n))/\Below W.heap.size W w'):=(Fold_x v n W hn).mono (by
 rintro e w' ⟨rfl,rfl⟩;exact ⟨rfl,Below.refl _ _⟩)
theorem names_one {s:St} {ns:List ByteArray} (hls:Listed s.now ns) {f:ByteArray} (h:∀ m,(s.now m).isSome=true↔m=f):ns=[f]:=by
 have h1:∀ m,m∈ns↔m=f:=fun m=>(hls.mem m).trans (h m);cases ns with
 | nil=>exact absurd ((h1 _).2 rfl) (by simp)
 | cons a t=>
  cases t with
  | nil=>rw [(h1 a).1 (by simp)]
  | cons c t=>
   have e1:=(h1 a).1 (by simp);have e2:=(h1 c).1 (by simp);have:=hls.nodup;rw [e1,e2] at this;simp at this
theorem flip_S {b:Nat} {w0 w:World} {l:List Ob} {x:SR} {dp:Nat} (h:SW b w0 (x.obs l) w) (ht:TruI dp x) (off bit:Int):Calls Tryz.prog 39 #[vPtr dp,.string (fileN nmS),.int .i64 off,.int .i64 bit] w (fun e w'=>∃ v r',e= .returned (.int .i64 v)/\SW b w0 (({ x with r:=r',s:=flipS x.s (fileN nmS) off bit }:SR).obs l) w'):=by
 have hf:=Flip_any x.p x.r x.s (fileN nmS) off bit w h.1.sdv (file_ok (by decide)) (by rw [ht.ops];simp);rw [ht.p] at hf;refine hf.mono ?_;rintro e w' ⟨rfl,r',hd,hs⟩;rw [<- ht.p] at hd hs;exact ⟨_,r',rfl,h.dev (k:=0) rfl hd hs⟩
theorem get_tru {b:Nat} {w0 w:World} {l:List Ob} {x:SR} {dp:Nat} (h:SW b w0 (x.obs l) w) (ht:TruI dp x) (i:ID) (hi:okID i):Calls Tryz.prog 30 #[vPtr x.ps,.agg #[.int .u64 i.1,.int .i64 i.2]] w (fun e w'=>∃ (d:BD) (bs:List UInt8) (E:Int),e= .returned (.tuple #[.slice d.A d.len d.cap,.int .i64 E])/\RB w' d bs/\bs.length<=4096/\SW b w0 (x.obs l) w'/\((E=0/\fpOf bs=i)∨E=333∨E=334)):=by
 cases ha:asc x.C i with
 | none=>
  refine (Get_no h.1 ht.wf i hi ha).mono ?_;rintro e w' ⟨d,rfl,hr,_,hb⟩;exact ⟨d,[],333,rfl,hr,by simp,h.on hb,.inr (.inl rfl)⟩
 | some pl=>
  obtain ⟨o,rfl,_⟩:=ht.lat i pl ha;obtain ⟨D,_,hDl,h1,h2⟩:=ht.read;refine (Get_at h.1 ht.wf i hi (.at o) ha).mono ?_;rintro e w' ⟨d,rfl,hr,_,hb⟩;rw [ht.nm] at hr |-
  have hrc:readC x.s nmS i (.at o)=if cutOk D i o=true then some (cutB D i o) else none:=by
   simp only [readC,h1,h2,true_and]
  by_cases hc:cutOk D i o=true
  · rw [hrc,if_pos hc] at hr |-; refine ⟨d,cutB D i o,0,rfl,hr,?_,h.on hb,.inl ⟨rfl,(cutOk_len hc).1⟩⟩;have:(cutB D i o).length<=D.length:=by unfold cutB;rw [List.length_take,List.length_drop];omega
    omega
  rw [hrc,if_neg hc] at hr |-; exact ⟨d,[],334,rfl,hr,by simp,h.on hb,.inr (.inr rfl)⟩
theorem reopen_S {b:Nat} {w0 w:World} {l:List Ob} {x:SR} {dp:Nat} (h:SW b w0 (x.obs l) w) (ht:TruI dp x):Calls Tryz.prog 20 #[vPtr dp,.string nmS] w (fun e w'=>∃ x':SR,e= .returned (.tuple #[vPtr x'.ps,.int .i64 0])/\TruI dp x'/\SW b w0 (x'.obs l) w'):=by
 obtain ⟨D,hD,hDl,h1,h2⟩:=ht.read;have h3:Sep b w (devOb x.p x.r x.s::l):=h.1.sub (List.Sublist.cons_cons _ ((((List.Sublist.refl l).cons _).cons _).cons _));have ho:=Open_one h3 nmS D nmS_ok ht.wf.up ht.one h1 h2;rw [ht.p] at ho;refine ho.mono ?_;rintro e w' ⟨H,fb,sb,hH,rfl,hs⟩;have hsi:=scan_inv D (by omega) D.length 0 [] [] true (by omega) ⟨LAt.nil,by simp,by simp⟩;have hnd:=(hs.get 2 (o:=chOb H (scanF D D.length 0 [] [] true).1) rfl).1.nodup;refine ⟨openedF dp x.r x.s nmS H fb sb D,rfl,?_,h.then hs⟩;unfold openedF;generalize scanF D D.length 0 [] [] true=F at hsi hnd;refine ⟨rfl,rfl,⟨rfl,ht.wf.up,(by decide:nmS.size<=1000),Nat.le_trans hsi.2.1 hDl,fun c hc=>(hsi.2.2 c.1 (List.mem_map.2 ⟨c,hc,rfl⟩)).2,fun i o hc=>?_,fun i d bs hc=>?_⟩,hsi.1,ht.ops,ht.f,ht.one,ht.len⟩
 · obtain ⟨q,e,hq⟩:=hsi.1 i _ (asc_mem hnd hc);injection e with e;omega
 obtain ⟨q,e,hq⟩:=hsi.1 i _ (asc_mem hnd hc);cases e
theorem SW.toTr {b:Nat} {w0 w:World} {l:List Ob} {x:SR} {o1 o2:Ob} (h:SW b w0 (o1::o2::x.obs l) w):SW b w0 (x.obs (o1::o2::l)) w:=
 SW.front (pre:=[o1,o2,devOb x.p x.r x.s,cellOb x.ps 131 x.cells,chOb x.cm x.C,flOb x.fm x.F]) (t:=l) h [2,3,4,5,0,1] (n:=6) rfl (by decide)
section
variable {w:World} {l:List Ob}
theorem law5_any (h:SW w.heap.size w l w) {A:Option Addr} {L:List Int} (hin:inOb A L∈l) (cap:Nat) {B:Option Addr} {M:List Int} (hin2:inOb B M∈l) (cap2:Nat):Calls Tryz.prog 5 #[.slice A L.length cap,.slice B M.length cap2] w (fun e w'=>e= .returned (.bool true)/\Below w.heap.size w w'):=by
 have S0:=hid h;have HSH:=hid (Short_any w);have HIN:=hid hin;have HIN2:=hid hin2;clear h hin hin2;go_enter Tryz.func5,Tryz.ntmps5;go_wp2_with (go_at_call 32;(with_reducible refine HSH.out.mono ?_);refine halt_ ?_)
 rintro e w1 ⟨v,rfl,hb1⟩;have S1:=hid (S0.out.on hb1);clear hb1 HSH S0;cases v with
 | false=>
  go_wp2_with fail
  go_ret;exact ⟨rfl,S1.out.2⟩
 | true=>
  have S2:=hid (S1.out.newTape HIN.out cap (H:=w1.heap.size) rfl);clear S1;go_upto_region 4 with fail
  obtain ⟨W2,HW2⟩:∃ W2,Hid (w1.alloc (.cells #[.slice A L.length cap,.int .i64 0] 50)=W2):=⟨_,rfl⟩;obtain ⟨tg,HTG⟩:∃ tg,Hid (w1.heap.size=tg):=⟨_,rfl⟩;rw [HW2.out,HTG.out] at S2;rw [HW2.out,HTG.out];have HNW:=hid (New_S S2.out);clear HW2 HTG;go_wp2_with (go_at_call 21;(with_reducible refine HNW.out.mono ?_);refine halt_ ?_)
  rintro e w3 ⟨rp,rfl,s3⟩;obtain ⟨dp,HDP⟩:∃ dp,Hid (W2.heap.size+2=dp):=⟨_,rfl⟩;rw [HDP.out] at s3;rw [HDP.out];have S3:=hid s3;have HO:=hid (Open_empty s3.1 nmS nmS_ok rfl (fun _=>rfl));clear s3 HNW HDP S2;go_wp2_with (go_at_call 20;(with_reducible refine HO.out.mono ?_);refine halt_ ?_)
  rintro e w4 ⟨H,hH,rfl,hs⟩;have S4:=hid (S3.out.then hs);have C4:Hid (Cl [fileN nmS] (openedS dp rp St.new nmS H)):=opened_cl nmS_ok rfl rfl (fun _=>rfl) (by decide) (by simp) (by simp);have HKN:=hid (known33_any w4);clear hs hH HO S3;obtain ⟨ps,HPS⟩:∃ ps,Hid (H+2=ps):=⟨_,rfl⟩;rw [HPS.out];go_wp2_with (go_at_call 22;(with_reducible refine HKN.out.mono ?_);refine halt_ ?_)
  rintro e w5 ⟨rfl,hb5⟩;have S5:=hid (S4.out.on hb5);clear hb5 HKN S4;go_upto_region 9 with fail
  have S6:Hid (SW w.heap.size w (trL (openedS dp rp St.new nmS H) r30 w5.heap.size tg A cap L 0 l) (w5.alloc (.cells #[.slice none 0 0,.slice none 0 0] 54))):=(S5.out.newCell 54 #[.slice none 0 0,.slice none 0 0]).newR3.toTr;obtain ⟨W6,HW6⟩:∃ W6,Hid (w5.alloc (.cells #[.slice none 0 0,.slice none 0 0] 54)=W6):=⟨_,rfl⟩;obtain ⟨g9,HG9⟩:∃ g9,Hid (w5.heap.size=g9):=⟨_,rfl⟩;rw [HW6.out,HG9.out] at S6;rw [HW6.out,HG9.out];clear HW6 HG9 S5;have HN:=hid (Next_x S6.out 6 rfl 6 (by omega) (by omega));simp only [List.set_cons_succ,List.set_cons_zero] at HN;obtain ⟨hk0,hk1⟩:=tnext_in L 0 6;have hk1:=hk1 (by omega);obtain ⟨K,HK⟩:∃ K:Nat,Hid (tnext L 0 6=(K:Int)):=⟨(tnext L 0 6).toNat,by rw [Hid];omega⟩;rw [HK.out] at hk0 hk1 HN;go_wp2_with (go_at_call 33;(with_reducible refine HN.out.mono ?_);refine halt_ ?_)
  rintro e w7 ⟨rfl,s7⟩;have S7:Hid (SW w.heap.size w (trL (openedS dp rp St.new nmS H) r30 g9 tg A cap L 1 l) w7):=s7;have TI:Hid (TrI ps dp [] (openedS dp rp St.new nmS H) r30):=⟨HPS.out,rfl,rfl,rfl,C4.out,TX.empty rfl,RTX.empty,by simp [openedS,flen]⟩;clear s7 HN S6 C4 HPS;go_wp2_with fail
  go_loopw [10] (fun s10 wr=>∃ (m n:Nat) (P:List (List UInt8)) (x:SR) (r:R3),s10= .int .i64 (m:Int)/\m<=6/\n+6*m<=40/\P.length+m=1+K/\TrI ps dp P x r/\SW w.heap.size w (trL x r g9 tg A cap L n l) wr) (fun s10 _=>(intOf s10).toNat)
  case atStart=>exact ⟨1+K,1,[],_,_,by go_num,by omega,by omega,by simp,TI.out,S7.out⟩
  obtain ⟨m,n,P,x,r,rfl,hm6,hn,hPm,hti,hs⟩:=hrel;have TI1:=hid hti;have S1:=hid hs;have HPS1:=hid hti.ps;have hrl:=hti.rtx.len;clear hs hti S7 TI;cases m with
  | succ m=>
   have HT:=hid (text34_x S1.out 6 rfl (by omega));go_wp2_with (go_at_call 34;(with_reducible refine HT.out.mono ?_);refine halt_ ?_)
   rintro e w1 ⟨d,rfl,s2⟩;have HX:=hid (textB_is L n);have HTN:=(textN_in L n).2;obtain ⟨bs,HBS⟩:∃ bs,Hid (textB L n=bs):=⟨_,rfl⟩;rw [HBS.out] at s2 HX;have S2:Hid (SW w.heap.size w (x.obs (bufOb d bs::r3Ob r::cellOb g9 54 #[.slice r.A r.E.length r.c,.slice r.B r.E.length r.k]::tpOb tg A cap L (n+1+textN L n)::l)) w1):=s2.behind;have hrb:RB w1 d bs:=S2.out.get 4 (o:=bufOb d bs) rfl;have hdl:d.len=bs.length:=hrb.1.symm;have HPU:=hid (PutTS_L S2.out TI1.out.cl TI1.out.tx d.A d.cap bs hrb.rs HX.out);rw [HPS1.out] at HPU;rw [hdl];have HDL:=hid hdl;clear s2 hrb hdl HT S1;go_wp2_with (go_at_call 23;(with_reducible refine HPU.out.mono ?_);refine halt_ ?_)
   rintro e w2 ⟨rfl,x',s3,hc',hT',hps',hp',hnm',hF',hs'⟩;obtain ⟨i,HI⟩:∃ i,Hid (fpOf bs=i):=⟨_,rfl⟩;rw [HI.out];have C2:=hid hc';have T2:=hid hT';have F2:=hid hF';have HP2:Hid (x'.p=dp):=hp'.trans TI1.out.p;have HPS2:Hid (x'.ps=ps):=hps'.trans HPS1.out;have HNM2:Hid (x'.nm=nmS):=hnm'.trans TI1.out.nm;have HOP2:Hid (x'.s.ops=[]):=by rw [Hid,hs'];exact TI1.out.ops
   have S3:=hid (s3.alloc (.cells #[.int .u64 i.1,.int .i64 i.2] 31));clear s3 hc' hT' hps' hp' hnm' hF' hs' HPU S2;go_upto_region 14 with fail
   obtain ⟨W3,HW3⟩:∃ W3,Hid (w2.alloc (.cells #[.int .u64 i.1,.int .i64 i.2] 31)=W3):=⟨_,rfl⟩;rw [HW3.out] at S3;rw [HW3.out];clear HW3;have HNX:=hid (Next_x S3.out 7 rfl 3 (by omega) (by omega));obtain ⟨v,HV⟩:∃ v,Hid (tnext L (n+1+textN L n) 3=v):=⟨_,rfl⟩;rw [HV.out] at HNX;by_cases hv:v=0
   · subst hv;go_wp2_with (go_at_call 33;(with_reducible refine HNX.out.mono ?_);refine halt_ ?_)
     rintro e w3 ⟨rfl,s4⟩;have S4:Hid (SW w.heap.size w (x'.obs (bufOb d bs::r3Ob r::cellOb g9 54 #[.slice r.A r.E.length r.c,.slice r.B r.E.length r.k]::tpOb tg A cap L (n+1+textN L n+1)::l)) w3):=s4;clear s4 HNX S3
     have hpl:(pends x'.C).length<=6:=by
      have h1:=T2.out.len C2.out.keys;have h2:=pends_le x'.C;rw [List.length_append,List.length_singleton] at h1;omega
     have hfs:frSum (pends x'.C)<=192:=by
      have:=T2.out.pends;omega
     have hfl0:flen x'.F<=192*P.length:=by
      rw [F2.out];exact TI1.out.len
     have HFL:=hid (Flush_L S4.out C2.out (by omega) (by omega));rw [HPS2.out] at HFL;go_wp2_with (go_at_call 35;(with_reducible refine HFL.out.mono ?_);refine halt_ ?_)
     rintro e w4 ⟨rfl,x2,s5,hc2,hfl⟩;have HT2:Hid (TX x2 (P++[bs])):=⟨fun i=>(hfl.has i).trans (T2.out.has i),fun bs hb=>(hfl.val _).trans (T2.out.val bs hb),T2.out.text⟩
     have HLEN:Hid (flen x2.F<=192*P.length+192):=by
      rw [Hid,hfl.len];omega
     have FL:=hid hfl;have C3:=hid hc2;have S5:=hid s5;clear s5 hc2 hfl HFL S4;have k0:=(S5.out.cell 6 rfl).cell 0;have k1:=(S5.out.cell 6 rfl).cell 1;have HPR:=hid (rPut_S (SW.front (pre:=[_,_,_,_,_,_]) S5.out [5,0,1,2,3,4] (n:=6) rfl (by decide)) TI1.out.rtx d bs (S5.out.get 4 (o:=bufOb d bs) rfl) HX.out (by omega));rw [HDL.out] at HPR;go_wp2_with (go_at_call 36;(with_reducible refine HPR.out.mono ?_);refine halt_ ?_)
     rintro e w5 ⟨r',rfl,s5,hR'⟩;have R2:=hid hR';have z0:=(s5.cell 6 rfl).cell 0;have z1:=(s5.cell 6 rfl).cell 1;have f0:=(s5.cell 6 rfl).frozen 0;have f1:=(s5.cell 6 rfl).frozen 1;have S6:=hid ((s5.setAt 6 rfl 0 (.slice r'.A r'.E.length r'.c)).setAt 6 rfl 1 (.slice r'.B r'.E.length r'.k));clear s5 hR' HPR S5 k0 k1;have S7:Hid (SW w.heap.size w (trL x2 r' g9 tg A cap L (n+1+textN L n+1) l) _):=SW.few (pre:=[_,_,_,_,_,_,_,_]) S6.out [1,2,3,4,0,6,7] (n:=8) rfl (by decide) (by decide);clear S6;go_wp2_with fail
     go_roundw
     case rel=>exact ⟨m,n+1+textN L n+1,P++[bs],x2,r',by go_num,by omega,by omega,by rw [List.length_append,List.length_singleton];omega,⟨FL.out.ps.trans HPS2.out,FL.out.p.trans HP2.out,FL.out.nm.trans HNM2.out,FL.out.ops HOP2.out,C3.out,HT2.out,R2.out,by rw [List.length_append,List.length_singleton];have:=HLEN.out;omega⟩,S7.out⟩
     simp [intOf]
   go_wp2_with (go_at_call 33;(with_reducible refine HNX.out.mono ?_);refine halt_ ?_)
   rintro e w3 ⟨rfl,s4⟩;have S4:Hid (SW w.heap.size w (x'.obs (bufOb d bs::r3Ob r::cellOb g9 54 #[.slice r.A r.E.length r.c,.slice r.B r.E.length r.k]::tpOb tg A cap L (n+1+textN L n+1)::l)) w3):=s4
   have HLEN:Hid (flen x'.F<=192*P.length):=by
    rw [Hid,F2.out];exact TI1.out.len
   have hv2:(v==0)=false:=by simpa using hv
   clear s4 HNX S3;have k0:=(S4.out.cell 6 rfl).cell 0;have k1:=(S4.out.cell 6 rfl).cell 1;have HPR:=hid (rPut_S (SW.front (pre:=[_,_,_,_,_,_]) S4.out [5,0,1,2,3,4] (n:=6) rfl (by decide)) TI1.out.rtx d bs (S4.out.get 4 (o:=bufOb d bs) rfl) HX.out (by omega));rw [HDL.out] at HPR;go_wp2_with (go_at_call 36;(with_reducible refine HPR.out.mono ?_);refine halt_ ?_)
   rintro e w5 ⟨r',rfl,s5,hR'⟩;have R2:=hid hR';have z0:=(s5.cell 6 rfl).cell 0;have z1:=(s5.cell 6 rfl).cell 1;have f0:=(s5.cell 6 rfl).frozen 0;have f1:=(s5.cell 6 rfl).frozen 1;have S6:=hid ((s5.setAt 6 rfl 0 (.slice r'.A r'.E.length r'.c)).setAt 6 rfl 1 (.slice r'.B r'.E.length r'.k));clear s5 hR' HPR S4 k0 k1;have S7:Hid (SW w.heap.size w (trL x' r' g9 tg A cap L (n+1+textN L n+1) l) _):=SW.few (pre:=[_,_,_,_,_,_,_,_]) S6.out [1,2,3,4,0,6,7] (n:=8) rfl (by decide) (by decide);clear S6;go_wp2_with fail
   go_roundw
   case rel=>exact ⟨m,n+1+textN L n+1,P++[bs],x',r',by go_num,by omega,by omega,by rw [List.length_append,List.length_singleton];omega,⟨HPS2.out,HP2.out,HNM2.out,HOP2.out,C2.out,T2.out,R2.out,by rw [List.length_append,List.length_singleton];have:=HLEN.out;omega⟩,S7.out⟩
   simp [intOf]
  | zero=>
   have hpl:(pends x.C).length<=6:=by
    have h1:=TI1.out.tx.len TI1.out.cl.keys;have h2:=pends_le x.C;omega
   have hfs:frSum (pends x.C)<=192:=by
    have:=TI1.out.tx.pends;omega
   have hfl0:=TI1.out.len;have HFL:=hid (Flush_L S1.out TI1.out.cl (by omega) (by omega));rw [HPS1.out] at HFL;go_wp2_with (go_at_call 35;(with_reducible refine HFL.out.mono ?_);refine halt_ ?_)
   rintro e w4 ⟨rfl,x2,s5,hc2,hfl⟩;have TR:Hid (TruI dp x2):=TruI.ofFlush TI1.out hfl hc2 (fun e=>by rw [e] at hPm;simp at hPm;omega) (by have:=hfl.len;omega);have HPS2:Hid (x2.ps=ps):=hfl.ps.trans HPS1.out;have R1:=hid TI1.out.rtx;have S5:Hid (SW w.heap.size w (trL x2 r g9 tg A cap L n l) w4):=s5;clear s5 hc2 hfl HFL S1 TI1 HPS1;go_upto_block 2 with fail
   go_cut [14] from 135 (fun _ w'=>∃ x:SR,x.ps=ps/\TruI dp x/\SW w.heap.size w (trL x r g9 tg A cap L n l) w')
   case first=>
    go_wp2_with fail
    go_loopw [14] (fun s14 wr=>∃ (j:Nat) (x:SR),s14= .int .i64 (j:Int)/\j<=8/\x.ps=ps/\TruI dp x/\SW w.heap.size w (trL x r g9 tg A cap L n l) wr) (fun s14 _=>8-(intOf s14).toNat)
    case atStart=>exact ⟨0,x2,rfl,by omega,HPS2.out,TR.out,S5.out⟩
    obtain ⟨j,x,rfl,hj8,hps,htr,hs⟩:=hrel;have HPS3:=hid hps;have TR1:=hid htr;have S6:=hid hs;clear hs htr hps S5 HPS2 TR;rename World=>wz;by_cases hj1:j+1<M.length
    · by_cases hj2:j<6
      · have hdv:=S6.out.1.sdv;have HN:=hid (Names_any x.p x.r x.s wz hdv);rw [TR1.out.p] at HN;clear hdv;go_wp2_with (go_at_call 37;(with_reducible refine HN.out.mono ?_);refine halt_ ?_)
        rintro e w5 ⟨A5,c5,ns5,rfl,hls,hrd,hb5⟩;obtain rfl:=names_one hls TR1.out.one;obtain ⟨b5,rfl,hb5lt,hrd5⟩:=hrd (by simp);have n0:w5.cell? ⟨b5,0,none⟩=some (.string (fileN nmS)):=hrd5 0 (by simp);have S7:=hid (S6.out.on hb5);have hin5:(inOb B M).holds w5:=S7.out.1.holds (inOb B M) (by simp [HIN2.out,SR.obs]);obtain ⟨bb,bo,rfl,_,hcM⟩:=hin5.1 (by omega);have hm0:=hcM j (by omega);obtain ⟨z,hz⟩:∃ z,M.getD j 0=z:=⟨_,rfl⟩;rw [hz] at hm0;have HFO:=hid (fun (v n:Int) (W:World) (hn:n<=4294967296)=>Fold_x v n W hn);have hf1:foldI z 1=0:=by unfold foldI;simp
        have HF1:=hid hf1;clear hls hrd hb5 HN S6 hrd5 hin5 hcM hz hf1;simp only [List.length_singleton];obtain ⟨D,hD,hDl,hrE,hrB⟩:=TR1.out.read;have HRD:=hid (fun (W:World) (hW:DV W x.p x.r x.s)=>Read_any x.p x.r x.s (fileN nmS) W hW (file_ok (by decide)));rw [TR1.out.p] at HRD;have HDL:=hid hDl;have HRE:=hid hrE;have HRB:=hid hrB;clear hD hDl hrE hrB;go_wp2_with (first | (go_at_call 24;(with_reducible refine (HFO.out _ _ _ (by omega)).mono ?_);rintro e w6 ⟨rfl,rfl⟩;rw [HF1.out]) | (go_at_call 38;refine halt_ ?_))
        refine hid ((HRD.out w5 (by have:=S7.out.1.sdv;rw [TR1.out.p] at this;exact this)).mono ?_);rintro e w6 ⟨⟨dA,dn,dc⟩,rfl,hrb,_,hb6⟩;rw [HRE.out];unfold vB;rw [HRB.out] at hrb;have hdn:D.length=dn:=hrb.1;subst hdn;have S8:=hid (S7.out.on hb6);clear hrb hb6 HRD HRE HRB S7 n0 hm0 HF1 HFO hb5lt;by_cases hD0:0<D.length
        · have hin6:(inOb (some ⟨bb,bo,none⟩) M).holds w6:=S8.out.1.holds (inOb (some ⟨bb,bo,none⟩) M) (by simp [HIN2.out,SR.obs]);obtain ⟨_,_,e5,hlb,hcM⟩:=hin6.1 (by omega);injection e5 with e5;injection e5 with e5 e6;subst e5 e6;have hm1:=hcM (j+1) (by omega);obtain ⟨z1,hz1⟩:∃ z,M.getD (j+1) 0=z:=⟨_,rfl⟩;rw [hz1] at hm1;have HFQ:=hid (fun (v n:Int) (W:World) (hn:n<=4294967296)=>fold_q v n W hn);clear hcM hz1 hin6;go_upto_region 30 with fail
          have hD4:=HDL.out;refine wp_region_ext_tail 16 (by kernel_rfl) (by kernel_rfl) ?_;simp only [List.take_succ_cons,List.take_zero,List.drop_succ_cons,List.drop_zero];repeat (go_big_quiet_step ((go_at_call 24;exact ext_call (HFQ.out _ _ _ (by omega)))))
          refine wpQuiet_nil ?_;intro w7 hb7;have S9:=hid (S8.out.on hb7);clear hb7 S8 hm1 HFQ hlb;have HFL:=hid (flip_S S9.out TR1.out (foldI z1 (D.length:Int)) (foldI z1 8));go_wp2_with (go_at_call 39;(with_reducible refine HFL.out.mono ?_);refine halt_ ?_)
          rintro e w8 ⟨v8,r8,rfl,s9⟩;have S10:=hid s9;clear s9 HFL S9;have TR2:=hid (TR1.out.flip (foldI z1 (D.length:Int)) (foldI z1 8) r8);go_wp2_with fail
          go_roundw
          case rel=>exact ⟨j+2,{ x with r:=r8,s:=flipS x.s (fileN nmS) (foldI z1 (D.length:Int)) (foldI z1 8) },by go_num,by omega,HPS3.out,TR2.out,S10.out⟩
          simp [intOf];omega
        have hD1:D.length=0:=by omega
        have hD2:¬ (0:Int)<(D.length:Int):=by omega
        go_wp2_with fail
        go_roundw
        case rel=>exact ⟨j+2,_,by go_num,by omega,HPS3.out,TR1.out,S8.out⟩
        simp [intOf];omega
      have hj3:¬ (j:Int)<6:=by omega
      have hj4:(j:Int)+1<(M.length:Int):=by omega
      go_wp2_with fail
      go_meet;exact ⟨x,HPS3.out,TR1.out,S6.out⟩
    have hj4:¬ (j:Int)+1<(M.length:Int):=by omega
    go_wp2_with fail
    go_meet;exact ⟨x,HPS3.out,TR1.out,S6.out⟩
   obtain ⟨x,hps,htr,hs⟩:=hcut;have S6:=hid hs;have TR1:=hid htr;have HPX:=hid hps;clear hs htr hps S5 HPS2 TR;rw [<- HPX.out];go_wp2_with fail
   go_loopw [7,19] (fun s7 s19 wr=>∃ (k:Nat) (x:SR),s19= .int .i64 (k:Int)/\k<=2/\s7=vPtr x.ps/\TruI dp x/\SW w.heap.size w (trL x r g9 tg A cap L n l) wr) (fun _ s19 _=>2-(intOf s19).toNat)
   case atStart=>exact ⟨0,x,rfl,by omega,rfl,TR1.out,S6.out⟩
   obtain ⟨k,x,rfl,hk2,rfl,htr,hs⟩:=hrel;have S7:=hid hs;have TR2:=hid htr;clear hs htr S6 TR1 HPX;by_cases hk:k<2
   · go_wp2_with fail
     rename World=>wz;have hkd:decide ((k:Int)<2)=true:=decide_eq_true (by omega);rw [hkd];clear hkd;go_loopw [20] (fun s20 wr=>∃ (i:Nat),s20= .int .i64 (i:Int)/\i<=r.E.length/\SW w.heap.size w (trL x r g9 tg A cap L n l) wr) (fun s20 _=>r.E.length-(intOf s20).toNat)
     case atStart=>exact ⟨0,rfl,Nat.zero_le _,S7.out⟩
     obtain ⟨i,rfl,hil,hs⟩:=hrel;have S8:=hid hs;clear hs S7;have c0:=(S8.out.cell 5 rfl).cell 0;by_cases hi:i<r.E.length
     · obtain ⟨e,he⟩:∃ e,r.E.getD i re0=e:=⟨_,rfl⟩
       have hem:e∈r.E:=by
        rw [<- he,List.getD_eq_getElem?_getD,List.getElem?_eq_getElem hi];exact List.getElem_mem hi
       have hok:okID e.id:=by
        obtain ⟨h1,h2⟩:=R1.out.val e hem;rw [<- h1];exact h2.ok
       have HCH:=hid (fun (W:World) (h:SW w.heap.size w (trL x r g9 tg A cap L n l) W)=>R3Ok.chunk (h.get 4 (o:=r3Ob r) rfl) hi he);obtain ⟨gE,hA,hgE,a0,a1,_⟩:=HCH.out _ S8.out;have HA:=hid hA;rw [hA] at c0;have HG:=hid (get_tru S8.out TR2.out e.id hok);clear he hem hok hA;go_wp2_with (go_at_call 30;(with_reducible refine HG.out.mono ?_);refine halt_ ?_)
       rintro e2 w9 ⟨⟨dA,dn,dc⟩,bs,E,rfl,hr,hbl,s9,hE⟩;have hdn:bs.length=dn:=hr.1;subst hdn;have S9:=hid s9;have c0:=(s9.cell 5 rfl).cell 0;have hg9:=(s9.cell 5 rfl).lt;obtain ⟨gF,hF,hgF,a0,a1,_⟩:=HCH.out _ s9;rw [HA.out] at hF c0;injection hF with hF;injection hF with hF;subst hF;have hne:=fun W=>neq31 e.id e.id W;have HOF:=hid (fun g:Ext w9=>Of_any dA dc bs (wext w9 g) (hr.rs.on (wext_below g)) (by omega));clear s9 hr HG S8 HCH hgE;have FIN:Hid (∀ w10,Below w9.heap.size w9 w10->SW w.heap.size w (trL x r g9 tg A cap L n l) w10):=fun w10 hb=>S9.out.on hb;rcases hE with ⟨rfl,hfp⟩ | rfl | rfl
       · rw [hfp] at HOF;go_upto_region 38 with fail
         refine wp_region_ext (by kernel_rfl) (by kernel_rfl) ?_;repeat (go_big_quiet_step ((go_at_call 31;exact ext_call (HOF.out _))))
         refine wpQuiet_nil ?_;intro w10 hb;have S10:=hid (FIN.out w10 hb);clear hb HOF FIN S9 hne c0 a0 a1 hg9 hgF;go_wp2_with fail
         go_roundw
         case rel=>exact ⟨i+1,by go_num,by omega,S10.out⟩
         simp [intOf];omega
       · go_upto_region 38 with fail
         refine wp_region_ext (by kernel_rfl) (by kernel_rfl) ?_;repeat (go_big_quiet_step (fail))
         refine wpQuiet_nil ?_;intro w10 hb;have S10:=hid (FIN.out w10 hb);clear hb HOF FIN S9 hne c0 a0 a1 hg9 hgF;go_wp2_with fail
         go_roundw
         case rel=>exact ⟨i+1,by go_num,by omega,S10.out⟩
         simp [intOf];omega
       go_upto_region 38 with fail
       refine wp_region_ext (by kernel_rfl) (by kernel_rfl) ?_;repeat (go_big_quiet_step (fail))
       refine wpQuiet_nil ?_;intro w10 hb;have S10:=hid (FIN.out w10 hb);clear hb HOF FIN S9 hne c0 a0 a1 hg9 hgF;go_wp2_with fail
       go_roundw
       case rel=>exact ⟨i+1,by go_num,by omega,S10.out⟩
       simp [intOf];omega
     obtain rfl:i=r.E.length:=by omega
     have HRO:=hid (reopen_S S8.out TR2.out);go_wp2_with (go_at_call 20;(with_reducible refine HRO.out.mono ?_);refine halt_ ?_)
     rintro e2 w9 ⟨x',rfl,htr',s9⟩;have S9:Hid (SW w.heap.size w (trL x' r g9 tg A cap L n l) w9):=s9;have TR3:=hid htr';clear s9 htr' HRO S8 TR2;go_wp2_with fail
     go_roundw
     case rel=>exact ⟨k+1,x',by go_num,by omega,rfl,TR3.out,S9.out⟩
     simp [intOf];omega
   obtain rfl:k=2:=by omega
   go_wp2_with fail
   go_ret;exact ⟨rfl,S7.out.2⟩
end
end
section
open Go.RowKit Go.MapKept Go.ChangeMaps Go.Shelf Go.Sort
theorem SW.startIn {w:World} {A:Option Addr} {L:List Int} (hr:RdT w w.heap.size A L) (hl:L.length<=9223372036854775807):SW w.heap.size w [inOb A L] w:=
 SW.start (o:=inOb A L) ⟨hr,hl⟩ (fun _ h=>h) (fun i hi=>by
  obtain ⟨hp,o,e⟩:=hi;obtain ⟨q,o',e',hlt,_⟩:=hr hp;rw [e] at e';injection e' with e';injection e' with e' _;rw [e'];exact hlt)
theorem inOb_lt {w:World} {A:Option Addr} {L:List Int} (h:(inOb A L).holds w) {i:Nat} (hi:(inOb A L).rd i):i<w.heap.size:=by
 obtain ⟨hp,o,e⟩:=hi;obtain ⟨g,o',e',hlt,_⟩:=h.1 hp;rw [e] at e';injection e' with e';injection e' with e1 e2;rw [e1];exact hlt
theorem law5 {A:Option Addr} {L:List Int} {n:Nat} (e:L.length=n) (cap:Nat) {B:Option Addr} {M:List Int} {m:Nat} (e2:M.length=m) (cap2:Nat) (w:World) (hr:RdT w w.heap.size A L) (hr2:RdT w w.heap.size B M) (hl:n<=9223372036854775807) (hl2:m<=9223372036854775807):Calls Tryz.prog 5 #[.slice A n cap,.slice B m cap2] w (fun e w'=>e= .returned (.bool true)/\Below w.heap.size w w'):=by
 subst e;subst e2;have h2:(inOb B M).holds w:=⟨hr2,hl2⟩
 have S:=(SW.startIn hr hl).also (o':=inOb B M) h2 (fun _ h=>h) (fun _ h'=>inOb_lt h2 h') (fun i _ y hy=>by
  rcases List.mem_cons.1 hy with rfl | hy
  · exact fun h=>h
  cases hy)
 exact law5_any S (by simp) cap (by simp) cap2
end
section
open Go.RowKit Go.ChangeShapes
theorem cell_lt {W:World} {b o:Nat} {v:Value} (h:W.cell? ⟨b,o,none⟩=some v):b<W.heap.size:=by
 rcases Nat.lt_or_ge b W.heap.size with h1 | h1
 · exact h1
 exfalso
 simp [World.cell?, Array.getElem?_eq_none h1] at h
theorem open_nums {H:Type} {enc:TypeId×Value->H} {W:World} {base:Nat} {spare:Nat->Bool} {held:Bool} {A:Option Addr} {len cap:Nat} {d:DataW H} {p:List MemPlace}
 (h:DataW.Trod enc Tryz.prog W base spare held 47 (.slice A len cap) d p):∃ xs:List Int,xs.length=len/\RdT W W.heap.size A xs/\len<=9223372036854775807:=by
 obtain ⟨fuel,hf⟩:=h;rcases Go.ChangeShapes.open_ints Tryz.underlying47 Tryz.underlying3 (by kernel_rfl) hf with ⟨hcs,_⟩ | ⟨a,l,c,zs,hcs,_,hl,hm,hz,_,hx,_⟩
 · simp [Value.cells] at hcs;obtain ⟨rfl,rfl,rfl⟩:=hcs;exact ⟨[],rfl,fun hp=>absurd hp (by simp),by omega⟩
 simp [Value.cells] at hcs;obtain ⟨rfl,rfl,rfl⟩:=hcs;have hlz:len<=zs.length:=by rw [hz];split<;>omega
 unfold maxLen at hm;refine ⟨zs.take len,by rw [List.length_take];omega,fun hp=>?_,by omega⟩;have hp':0<len:=by rw [List.length_take] at hp;omega
 obtain ⟨b,off,spot⟩:=a;have h0:=hx 0 (by omega);have hspot:spot=none:=by simpa [Addr.add] using World.cell?_spot h0
 subst hspot;have hadd:∀ j,(⟨b,off,none⟩:Addr).add j=⟨b,off+j,none⟩:=fun j=>by unfold Addr.add;split<;>simp_all
 rw [hadd] at h0;refine ⟨b,off,rfl,cell_lt h0,fun j hj=>?_⟩;rw [List.length_take] at hj;have:=hx j (by omega);rw [hadd] at this;rw [this,List.getD_eq_getElem?_getD,List.getD_eq_getElem?_getD,List.getElem?_take_of_lt (by omega)]
end
end Go.Proofs.YteabgcollokgjaaGreatDoor
