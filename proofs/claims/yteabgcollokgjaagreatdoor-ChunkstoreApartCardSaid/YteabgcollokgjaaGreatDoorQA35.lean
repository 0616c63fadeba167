/- Q -/
import Derived.Test.YteabgcollokgjaaGreatDoorQA34
import Derived.ChangeSlices
import Derived.ProofKit
set_option linter.unusedSimpArgs false
set_option linter.unusedVariables false
set_option maxRecDepth 100000
set_option maxHeartbeats 32000000
open Go.Lib (hid)
open List renaming mem_cons_of_mem → zA,getD_eq_getElem?_getD → zB,length_take → zC
namespace Go.Proofs.YteabgcollokgjaaGreatDoor
section
open Go.RowKit Go.MapKept Go.ChangeMaps Go.Shelf Go.Sort
attribute [local go_sem] wext_cell
theorem upd_upd (R:Nat->R3) (j:Nat) (r r':R3):upd (upd R j r) j r'=upd R j r':=by
 funext k
 unfold upd;split<;>rfl
theorem SW.apDrop {b:Nat} {w0 w:World} {x:SR} {t:List Ob} {dp:Nat} (h:SW b w0 (x.obs t) w) (hp:x.p=dp):SW b w0 (devOb dp x.r x.s::t) w:=by
 have:=SW.few (pre:=[_,_,_,_]) h [0] (n:=4) rfl (by decide) (by decide);rw [<- hp];exact this
section
variable {w:World} {l:List Ob}
theorem law6_any (h:SW w.heap.size w l w) {A:Option Addr} {L:List Int} (hin:inOb A L∈l) (cap:Nat) (h0:0<w.heap.size) (hS:Syn w):Calls Tryz.prog 6 #[.slice A L.length cap] w (fun e w'=>e= .returned (.bool true)/\Below w.heap.size w w'):=by
 have S0:=hid h;have HSH:=hid (Short_any w);have HIN:=hid hin;have HSY:=hid hS;have H0:=hid h0;clear h hin hS h0;go_enter Tryz.func6,Tryz.ntmps6;go_wp2_with (go_at_call 32;(with_reducible refine HSH.out.mono ?_);refine halt_ ?_)
 rintro e w1 ⟨v,rfl,hb1⟩;have S1:=hid (S0.out.on hb1);clear hb1 HSH S0;cases v with
 | false=>
  go_wp2_with fail
  go_ret;exact ⟨rfl,S1.out.2⟩
 | true=>
  have S2:=hid (S1.out.newTape HIN.out cap (H:=w1.heap.size) rfl);clear S1;go_upto_region 4 with fail
  obtain ⟨W2,HW2⟩:∃ W2,Hid (w1.alloc (.cells #[.slice A L.length cap,.int .i64 0] 50)=W2):=⟨_,rfl⟩;obtain ⟨tg,HTG⟩:∃ tg,Hid (w1.heap.size=tg):=⟨_,rfl⟩;rw [HW2.out,HTG.out] at S2;rw [HW2.out,HTG.out];have HNW:=hid (New_S S2.out);clear HW2 HTG;go_wp2_with (go_at_call 21;(with_reducible refine HNW.out.mono ?_);refine halt_ ?_)
  rintro e w3 ⟨rp,rfl,s3⟩;obtain ⟨dp,HDP⟩:∃ dp,Hid (W2.heap.size+2=dp):=⟨_,rfl⟩;rw [HDP.out] at s3;rw [HDP.out];have S3:=hid (s3.newCellAt 9 #[.string (nmA 0),.string (nmA 1),.string (nmA 2)] (H:=w3.heap.size) rfl);have hmk:=mk_three;clear s3 HNW HDP S2;go_upto_region 6 with fail
  obtain ⟨W4,HW4⟩:∃ W4,Hid (w3.alloc (.cells #[.string (nmA 0),.string (nmA 1),.string (nmA 2)] 9)=W4):=⟨_,rfl⟩;obtain ⟨gn,HGN⟩:∃ gn,Hid (w3.heap.size=gn):=⟨_,rfl⟩;have e4:w3.alloc (.cells #[.string ⟨#[97]⟩,.string ⟨#[97,45,97]⟩,.string ⟨#[97,97]⟩] 9)=W4:=HW4.out;rw [HW4.out,HGN.out] at S3;rw [e4,HGN.out];clear HW4 HGN e4;have S4:=hid (S3.out.newCellAt 54 (wcA (fun _=>r30)) (H:=W4.heap.size) rfl);go_upto_region 7 with fail
  obtain ⟨W5,HW5⟩:∃ W5,Hid (W4.alloc (.cells (wcA (fun _=>r30)) 54)=W5):=⟨_,rfl⟩;obtain ⟨gw,HGW⟩:∃ gw,Hid (W4.heap.size=gw):=⟨_,rfl⟩;have e5:W4.alloc (.cells #[.slice none 0 0,.slice none 0 0,.slice none 0 0,.slice none 0 0,.slice none 0 0,.slice none 0 0] 54)=W5:=HW5.out;rw [HW5.out,HGW.out] at S4;rw [e5,HGW.out];clear HW5 HGW e5 S3 hmk;have S5:Hid (SW w.heap.size w (devOb dp rp St.new::apR (fun _=>r30) gw gn (tpOb tg A cap L 0::l)) W5):=SW.front (pre:=[_,_,_,_,_,_]) (t:=tpOb tg A cap L 0::l) S4.out.newR3.newR3.newR3 [5,0,1,2,3,4] (n:=6) rfl (by decide);clear S4;have HN:=hid (Next_x S5.out 6 rfl 12 (by omega) (by omega));obtain ⟨hk0,hk1⟩:=tnext_in L 0 12;have hk1:=hk1 (by omega);obtain ⟨K,HK⟩:∃ K:Nat,Hid (tnext L 0 12=(K:Int)):=⟨(tnext L 0 12).toNat,by rw [Hid];omega⟩;rw [HK.out] at hk0 hk1 HN;go_wp2_with (go_at_call 33;(with_reducible refine HN.out.mono ?_);refine halt_ ?_)
  rintro e w7 ⟨rfl,s7⟩;have S7:Hid (SW w.heap.size w (devOb dp rp St.new::apR (fun _=>r30) gw gn (tpOb tg A cap L 1::l)) w7):=s7;have AP0:=hid ApI.start;clear s7 HN S5;go_wp2_with fail
  go_loopw [7] (fun s7 wr=>∃ (m n:Nat) (rp:Rp) (s:St) (R:Nat->R3),s7= .int .i64 (m:Int)/\m<=K/\n+40*m<=1+40*K/\ApI s R/\SW w.heap.size w (devOb dp rp s::apR R gw gn (tpOb tg A cap L n::l)) wr) (fun s7 _=>(intOf s7).toNat)
  case atStart=>exact ⟨K,1,_,_,_,rfl,Nat.le_refl _,Nat.le_refl _,AP0.out,S7.out⟩
  obtain ⟨m,n,rp1,s,R,rfl,hmK,hn,hap,hs⟩:=hrel;have AP:=hid hap;have S0:=hid hs;clear hap hs S7 AP0;cases m with
  | zero=>
   have HKN:=hid (known33_any wr);go_wp2_with (go_at_call 22;(with_reducible refine HKN.out.mono ?_);refine halt_ ?_)
   rintro e w9 ⟨rfl,hb9⟩;have S9:=hid (S0.out.on hb9);clear hb9 HKN;go_wp2_with fail
   go_ret;exact ⟨rfl,S9.out.2⟩
  | succ m=>
   have HNJ:=hid (Next_x S0.out 6 rfl 3 (by omega) (by omega));obtain ⟨hj0,hj1⟩:=tnext_in L n 3;have hj1:=hj1 (by omega);obtain ⟨j,HJ⟩:∃ j:Nat,Hid (tnext L n 3=(j:Int)):=⟨(tnext L n 3).toNat,by rw [Hid];omega⟩;rw [HJ.out] at hj0 hj1 HNJ;have hj:j<3:=by omega
   go_wp2_with (go_at_call 33;(with_reducible refine HNJ.out.mono ?_);refine halt_ ?_)
   rintro e w2 ⟨rfl,s2⟩;have S2:Hid (SW w.heap.size w (devOb dp rp1 s::apR R gw gn (tpOb tg A cap L (n+1)::l)) w2):=s2;have n0:=nmA_at (S2.out.cell 5 rfl) hj;have HOP:=hid (open_N S2.out H0.out HSY.out AP.out.di (AP.out.sh j hj) (nmA_ok hj) (nmA_in hj) (nmA_al hj));obtain ⟨nj,HNN⟩:∃ nj,Hid (nmA j=nj):=⟨_,rfl⟩;rw [HNN.out] at n0 HOP;clear s2 HNJ S0 hj0 hj1 HJ;go_wp2_with (go_at_call 20;(with_reducible refine HOP.out.mono ?_);refine halt_ ?_)
   rintro e w3 ⟨x,rfl,s3,hpl,hxs⟩;have PJ:Hid (ApJ dp j x R):=AP.out.open (by rw [HNN.out];exact hpl) hxs;have S3:=hid s3;obtain ⟨ps,HPS⟩:∃ ps,Hid (x.ps=ps):=⟨_,rfl⟩;rw [HPS.out];clear s3 hpl hxs HOP S2 n0 HNN AP;have HIS:=hid (is_N S3.out PJ.out.pl HPS.out (apR_mem R gw gn _ hj));obtain ⟨k0,k1⟩:=wcA_at (S3.out.cell 7 rfl) hj;go_wp2_with (go_at_call 40;(with_reducible refine HIS.out.mono ?_);refine halt_ ?_)
   rintro e w4 ⟨rfl,s4⟩;have S4:Hid (SW w.heap.size w (x.obs (apR R gw gn (tpOb tg A cap L (n+1)::l))) w4):=s4;have HNX:=hid (Next_x S4.out 9 rfl 3 (by omega) (by omega));obtain ⟨hj0,hj1⟩:=tnext_in L (n+1) 3;have hj1:=hj1 (by omega);obtain ⟨K2,HK2⟩:∃ K2:Nat,Hid (tnext L (n+1) 3=(K2:Int)):=⟨(tnext L (n+1) 3).toNat,by rw [Hid];omega⟩;rw [HK2.out] at hj0 hj1 HNX;clear s4 HIS S3 k0 k1;go_wp2_with (go_at_call 33;(with_reducible refine HNX.out.mono ?_);refine halt_ ?_)
   rintro e w5 ⟨rfl,s5⟩;have S5:Hid (SW w.heap.size w (x.obs (apR R gw gn (tpOb tg A cap L (n+1+1)::l))) w5):=s5;clear s5 HNX S4;go_wp2_with fail
   rename World=>wy;go_loopw [11] (fun s11 wr=>∃ (m2 q:Nat) (x:SR) (R:Nat->R3),s11= .int .i64 (m2:Int)/\m2<=K2/\q+6*m2<=n+2+6*K2/\x.ps=ps/\ApJ dp j x R/\SW w.heap.size w (x.obs (apR R gw gn (tpOb tg A cap L q::l))) wr) (fun s11 _=>(intOf s11).toNat)
   case atStart=>exact ⟨K2,n+1+1,x,R,rfl,Nat.le_refl _,by omega,HPS.out,PJ.out,S5.out⟩
   clear S5 PJ HPS;obtain ⟨m2,q,x,R,rfl,hm2,hq,hps,hpj,hs⟩:=hrel;have HPS:=hid hps;have PJ:=hid hpj;have S1:=hid hs;clear hps hpj hs;cases m2 with
   | succ m2=>
    have HT:=hid (text34_a S1.out 9 rfl (by omega));go_wp2_with (go_at_call 34;(with_reducible refine HT.out.mono ?_);refine halt_ ?_)
    rintro e w1 ⟨d,rfl,s2⟩;have HX:=hid (textB_is L q);have HTN:=(textN_in L q).2;obtain ⟨n2,HN2⟩:∃ n2,Hid (q+1+textN L q=n2):=⟨_,rfl⟩;have hn2:n2<=q+5:=by have:=HN2.out;omega
    obtain ⟨bs,HBS⟩:∃ bs,Hid (textB L q=bs):=⟨_,rfl⟩;rw [HBS.out,HN2.out] at s2;rw [HBS.out] at HX;have S2:Hid (SW w.heap.size w (x.obs (bufOb d bs::apR R gw gn (tpOb tg A cap L n2::l))) w1):=s2.behind;have hrb:RB w1 d bs:=S2.out.get 4 (o:=bufOb d bs) rfl;have hdl:d.len=bs.length:=hrb.1.symm;rw [hdl];have HDL:=hid hdl;have HPN:=hid (Put_N S2.out PJ.out.pl d.A d.cap bs hrb.rs HX.out);rw [HPS.out] at HPN;clear s2 hrb hdl HT S1 HTN HN2 HBS;go_wp2_with (go_at_call 23;(with_reducible refine HPN.out.mono ?_);refine halt_ ?_)
    rintro e w4 ⟨rfl,x2,s5,hpx,hps2⟩;have PX:=hid hpx;have HPS2:Hid (x2.ps=ps):=hps2;obtain ⟨i,HI⟩:∃ i,Hid (fpOf bs=i):=⟨_,rfl⟩;rw [HI.out];have S5:=hid (s5.newCellAt 31 #[.int .u64 i.1,.int .i64 i.2] (H:=w4.heap.size) rfl);clear s5 HPN hpx hps2 S2;go_upto_region 19 with fail
    generalize w4.alloc _=W4 at S5 |-; generalize w4.heap.size=g20 at S5 |-; go_upto_region 21 with fail
    obtain ⟨k0,k1⟩:=wcA_at (S5.out.cell 9 rfl) hj;have hrb:RB W4 d bs:=S5.out.get 5 (o:=bufOb d bs) rfl;have HRP:=hid (rPut_N S5.out (r:=R j) (by have:=apR_mem R gw gn (tpOb tg A cap L n2::l) hj;simp only [SR.obs,List.mem_cons];simp only [List.mem_cons] at this;simp only [this,or_true]) PJ.out.pl d bs hrb HX.out);rw [HDL.out,HI.out] at HRP;clear hrb;go_wp2_with (go_at_call 36;(with_reducible refine HRP.out.mono ?_);refine halt_ ?_)
    rintro e w5 ⟨r2,rfl,s6,hrx⟩;have PI2:=hid (PJ.out.put HX.out PX.out hrx);have S6:Hid (SW w.heap.size w (r3Ob r2::x2.obs (apR R gw gn (tpOb tg A cap L n2::l))) w5):=SW.few (pre:=[_,_,_,_,_,_,_]) s6 [0,2,3,4,5] (n:=7) rfl (by decide) (by decide);have f0:=(S6.out.cell 8 rfl).frozen (j*2);have f1:=(S6.out.cell 8 rfl).frozen (j*2+1);obtain ⟨z0,z1⟩:=wcA_at (S6.out.cell 8 rfl) hj;have S7:=hid (S6.out.tail.apSet hj S6.out);clear hrx s6 HRP S5 k0 k1 S6;go_wp2_with fail
    go_roundw
    case rel=>exact ⟨m2,n2,x2,_,by go_num,by omega,by omega,HPS2.out,PI2.out,S7.out⟩
    simp [intOf]
   | zero=>
    obtain ⟨k0,k1⟩:=wcA_at (S1.out.cell 7 rfl) hj;obtain ⟨P,hP⟩:=PJ.out.pl.isi;have HSO:=hid (some41 S1.out 9 rfl (r:=R j) (fun n'=>zA _ (zA _ (zA _ (zA _ (apR_mem R gw gn _ hj))))) hP.rtx (by omega));go_wp2_with (go_at_call 41;(with_reducible refine HSO.out.mono ?_);refine halt_ ?_)
    rintro e w4 ⟨A1,c1,ids,n4,rfl,hl3,hok,hn4,s5⟩;have S5:Hid (SW w.heap.size w (x.obs (riOb A1 ids::apR R gw gn (tpOb tg A cap L n4::l))) w4):=SW.behind s5;have HRM:=hid (rem_N S5.out PJ.out.pl HPS.out A1 c1 ids (List.mem_cons_self ..) hok hl3);clear s5 HSO S1 k0 k1 hok;go_wp2_with (go_at_call 25;(with_reducible refine HRM.out.mono ?_);refine halt_ ?_)
    rintro e w5 ⟨rfl,x2,s6,hc2,hg⟩;have GO:=hid hg;have C2:=hid hc2;have S6:=hid s6;have HFL:=hid (Flush_T s6 hc2 (hg.lay PJ.out.pl.lay) (hP.tx.gone hg));rw [hg.ps.trans HPS.out] at HFL;obtain ⟨cn,HCN⟩:∃ cn:Int,Hid (((cntE (R j).E ids:Nat):Int)=cn):=⟨_,rfl⟩;rw [HCN.out];clear s6 hc2 hg HRM S5 hP HCN;go_wp2_with (go_at_call 35;(with_reducible refine HFL.out.mono ?_);refine halt_ ?_)
    rintro e w6 ⟨rfl,x3,s7,hc3,hfl⟩;have FL:=hid hfl;have C3:=hid hc3;have S7:=hid s7;clear s7 hc3 hfl HFL S6;obtain ⟨k0,k1⟩:=wcA_at (S7.out.cell 8 rfl) hj;have HRR:=hid (rRemove_S S7.out (r:=R j) (by have:=apR_mem R gw gn (tpOb tg A cap L n4::l) hj;simp only [SR.obs,List.mem_cons];simp only [List.mem_cons] at this;simp only [this,or_true]) (IA:=A1) (ids:=ids) (by simp [SR.obs]) c1 (by omega));obtain ⟨cn,HCN⟩:∃ cn:Int,Hid (((cntE (R j).E ids:Nat):Int)=cn):=⟨_,rfl⟩;rw [HCN.out] at HRR;go_wp2_with (go_at_call 42;(with_reducible refine HRR.out.mono ?_);refine halt_ ?_)
    rintro e w7 ⟨r2,hE,rfl,s8⟩;have HE:=hid hE;have S8:Hid (SW w.heap.size w (r3Ob r2::x3.obs (apR R gw gn (tpOb tg A cap L n4::l))) w7):=SW.few (pre:=[_,_,_,_,_,_]) s8 [0,1,2,3,4] (n:=6) rfl (by decide) (by decide);have f0:=(S8.out.cell 8 rfl).frozen (j*2);have f1:=(S8.out.cell 8 rfl).frozen (j*2+1);obtain ⟨z0,z1⟩:=wcA_at (S8.out.cell 8 rfl) hj;have S9:=hid (S8.out.tail.apSet hj S8.out);clear hE s8 HRR S7 k0 k1 S8 HCN;go_upto_region 27 with fail
    generalize World.setCell (World.setCell _ _ _) _ _=W9 at S9 |-; obtain ⟨k0,k1⟩:=wcA_at (S9.out.cell 7 rfl) hj;rw [upd_at] at k0 k1;have HRF:=hid (rFlush_X S9.out (r:=r2) (by have:=apR_mem (upd R j r2) gw gn (tpOb tg A cap L n4::l) hj;rw [upd_at] at this;exact zA _ (zA _ (zA _ (zA _ this)))));clear f0 f1 z0 z1;go_wp2_with (go_at_call 43;(with_reducible refine HRF.out.mono ?_);refine halt_ ?_)
    rintro e w10 ⟨r3,rfl,s10,hE3,hR3⟩;have S10:Hid (SW w.heap.size w (r3Ob r3::x3.obs (apR (upd R j r2) gw gn (tpOb tg A cap L n4::l))) w10):=s10;have f0:=(S10.out.cell 8 rfl).frozen (j*2);have f1:=(S10.out.cell 8 rfl).frozen (j*2+1);obtain ⟨z0,z1⟩:=wcA_at (S10.out.cell 8 rfl) hj;have AP2:=hid (PJ.out.close hj C2.out GO.out C3.out FL.out HE.out hE3 hR3);have S11:=S10.out.tail.apSet hj S10.out;rw [upd_upd] at S11;have S12:=hid (SW.apDrop S11 (FL.out.p.trans (GO.out.p.trans PJ.out.pl.p)));clear S11 s10 hE3 hR3 HRF S9 k0 k1 S10;go_wp2_with fail
    rename World=>wz;go_roundw
    case rel=>exact ⟨m,n4,_,_,_,by go_num,by omega,by omega,AP2.out,S12.out⟩
    simp [intOf]
end
end
section
open Go.RowKit Go.MapKept Go.ChangeMaps Go.Shelf Go.Sort
theorem Syn.pos {w:World} (h:Syn w):0<w.heap.size:=by
 obtain ⟨ev,h1,_⟩:=h;exact Lib.lt_of_cell h1
theorem law6 {A:Option Addr} {L:List Int} {n:Nat} (e:L.length=n) (cap:Nat) (w:World) (hr:RdT w w.heap.size A L) (hl:n<=9223372036854775807) (hS:Syn w):Calls Tryz.prog 6 #[.slice A n cap] w (fun e w'=>e= .returned (.bool true)/\Below w.heap.size w w'):=by
 subst e;exact law6_any (SW.startIn hr hl) (by simp) cap hS.pos hS
end
section
open Go.RowKit Go.ChangeShapes
theorem cell_lt {W:World} {b o:Nat} {v:Value} (h:W.cell? ⟨b,o,none⟩=some v):b<W.heap.size:=by
 rcases Nat.lt_or_ge b W.heap.size with h1 | h1
 · exact h1
 exfalso
 simp [World.cell?, Array.getElem?_eq_none h1] at h
theorem open_nums {H:Type} {enc:TypeId×Value->H} {W:World} {base:Nat} {spare:Nat->Bool} {held:Bool} {A:Option Addr} {len cap:Nat} {d:DataW H} {p:List MemPlace}
 (h:DataW.Trod enc Tryz.prog W base spare held 47 (.slice A len cap) d p):∃ xs:List Int,xs.length=len/\RdT W W.heap.size A xs/\len<=9223372036854775807:=by
 obtain ⟨fuel,hf⟩:=h;rcases Go.ChangeShapes.open_ints Tryz.underlying47 Tryz.underlying3 (by kernel_rfl) hf with ⟨hcs,_⟩ | ⟨a,l,c,zs,hcs,_,hl,hm,hz,_,hx,_⟩
 · simp [Value.cells] at hcs;obtain ⟨rfl,rfl,rfl⟩:=hcs;exact ⟨[],rfl,fun hp=>absurd hp (by simp),by omega⟩
 simp [Value.cells] at hcs;obtain ⟨rfl,rfl,rfl⟩:=hcs;have hlz:len<=zs.length:=by rw [hz];split<;>omega
 unfold maxLen at hm;refine ⟨zs.take len,by rw [zC];omega,fun hp=>?_,by omega⟩;have hp':0<len:=by rw [zC] at hp;omega
 obtain ⟨b,off,spot⟩:=a;have h0:=hx 0 (by omega);have hspot:spot=none:=by simpa [Addr.add] using World.cell?_spot h0
 subst hspot;have hadd:∀ j,(⟨b,off,none⟩:Addr).add j=⟨b,off+j,none⟩:=fun j=>by unfold Addr.add;split<;>simp_all
 rw [hadd] at h0;refine ⟨b,off,rfl,cell_lt h0,fun j hj=>?_⟩;rw [zC] at hj;have:=hx j (by omega);rw [hadd] at this;rw [this,zB,zB,List.getElem?_take_of_lt (by omega)]
end
end Go.Proofs.YteabgcollokgjaaGreatDoor
