/- Q -/
import Derived.Test.YteabgcollokgjaaGreatDoorQH36
import Derived.ChangeSlices
import Derived.ProofKit
set_option linter.unusedSimpArgs false
set_option linter.unusedVariables false
set_option maxRecDepth 100000
set_option maxHeartbeats 32000000
open Go.Lib (hid)
open List renaming getD_eq_getElem?_getD → zA,length_append → zB,length_take → zC,getElem?_eq_getElem → zD,length_singleton → zE,getElem_mem → zF
namespace Go.Proofs.YteabgcollokgjaaGreatDoor
section
open Go.RowKit Go.MapKept Go.ChangeMaps Go.Shelf Go.Sort
attribute [local go_sem] wext_cell
abbrev trN (x:SR) (gn:Nat) (r:R3) (g9 tg:Nat) (A:Option Addr) (cap:Nat) (L:List Int) (n:Nat) (l:List Ob):List Ob:=x.obs (rcOb gn (.string (fileN nmS))::r3Ob r::cellOb g9 54 #[.slice r.A r.E.length r.c,.slice r.B r.E.length r.k]::tpOb tg A cap L n::l)
section
variable {w:World} {l:List Ob}
theorem law8_any (h:SW w.heap.size w l w) {A:Option Addr} {L:List Int} (hin:inOb A L∈l) (cap:Nat) {B:Option Addr} {M:List Int} (hin2:inOb B M∈l) (cap2:Nat):Calls Tryz.prog 8 #[.slice A L.length cap,.slice B M.length cap2] w (fun e w'=>e= .returned (.bool true)/\Below w.heap.size w w'):=by
 have S0:=hid h;have HSH:=hid (Short_any w);have HIN:=hid hin;have HIN2:=hid hin2;clear h hin hin2;go_enter Tryz.func8,Tryz.ntmps8;go_wp2_with (go_at_call 32;(with_reducible refine HSH.out.mono ?_);refine halt_ ?_)
 rintro e w1 ⟨v,rfl,hb1⟩;have S1:=hid (S0.out.on hb1);clear hb1 HSH S0;cases v with
 | false=>
  go_wp2_with fail
  go_ret;exact ⟨rfl,S1.out.2⟩
 | true=>
  have S2:=hid (S1.out.newTape HIN.out cap (H:=w1.heap.size) rfl);clear S1;go_upto_region 4 with fail
  obtain ⟨W2,HW2⟩:∃ W2,Hid (w1.alloc (.cells #[.slice A L.length cap,.int .i64 0] 50)=W2):=⟨_,rfl⟩;obtain ⟨tg,HTG⟩:∃ tg,Hid (w1.heap.size=tg):=⟨_,rfl⟩;rw [HW2.out,HTG.out] at S2;rw [HW2.out,HTG.out];have HNW:=hid (New_S S2.out);clear HW2 HTG;go_wp2_with (go_at_call 21;(with_reducible refine HNW.out.mono ?_);refine halt_ ?_)
  rintro e w3 ⟨rp,rfl,s3⟩;obtain ⟨dp,HDP⟩:∃ dp,Hid (W2.heap.size+2=dp):=⟨_,rfl⟩;rw [HDP.out] at s3;rw [HDP.out];have S3:=hid s3;have HO:=hid (Open_empty s3.1 nmS nmS_ok rfl (fun _=>rfl));clear s3 HNW HDP S2;go_wp2_with (go_at_call 20;(with_reducible refine HO.out.mono ?_);refine halt_ ?_)
  rintro e w4 ⟨H,hH,rfl,hs⟩;have S4:=hid (S3.out.then hs);have C4:Hid (Cl [fileN nmS] (openedS dp rp St.new nmS H)):=opened_cl nmS_ok rfl rfl (fun _=>rfl) (by decide) (by simp) (by simp);have HKN:=hid (known33_any w4);clear hs hH HO S3;obtain ⟨ps,HPS⟩:∃ ps,Hid (H+2=ps):=⟨_,rfl⟩;rw [HPS.out];go_wp2_with (go_at_call 22;(with_reducible refine HKN.out.mono ?_);refine halt_ ?_)
  rintro e w5 ⟨rfl,hb5⟩;have S5:=hid (S4.out.on hb5);clear hb5 HKN S4;go_upto_region 9 with fail
  have S6:Hid (SW w.heap.size w (trL (openedS dp rp St.new nmS H) r30 w5.heap.size tg A cap L 0 l) (w5.alloc (.cells #[.slice none 0 0,.slice none 0 0] 54))):=(S5.out.newCell 54 #[.slice none 0 0,.slice none 0 0]).newR3.toTr;obtain ⟨W6,HW6⟩:∃ W6,Hid (w5.alloc (.cells #[.slice none 0 0,.slice none 0 0] 54)=W6):=⟨_,rfl⟩;obtain ⟨g9,HG9⟩:∃ g9,Hid (w5.heap.size=g9):=⟨_,rfl⟩;rw [HW6.out,HG9.out] at S6;rw [HW6.out,HG9.out];clear HW6 HG9 S5;have HN:=hid (Next_x S6.out 6 rfl 5 (by omega) (by omega));simp only [List.set_cons_succ,List.set_cons_zero] at HN;obtain ⟨hk0,hk1⟩:=tnext_in L 0 5;have hk1:=hk1 (by omega);obtain ⟨K,HK⟩:∃ K:Nat,Hid (tnext L 0 5=(K:Int)):=⟨(tnext L 0 5).toNat,by rw [Hid];omega⟩;rw [HK.out] at hk0 hk1 HN;go_wp2_with (go_at_call 33;(with_reducible refine HN.out.mono ?_);refine halt_ ?_)
  rintro e w7 ⟨rfl,s7⟩;have S7:Hid (SW w.heap.size w (trL (openedS dp rp St.new nmS H) r30 g9 tg A cap L 1 l) w7):=s7;have TI:Hid (TrI ps dp [] (openedS dp rp St.new nmS H) r30):=⟨HPS.out,rfl,rfl,rfl,C4.out,TX.empty rfl,RTX.empty,by simp [openedS,flen]⟩;clear s7 HN S6 C4 HPS;go_wp2_with fail
  go_loopw [10] (fun s10 wr=>∃ (m n:Nat) (P:List (List UInt8)) (x:SR) (r:R3),s10= .int .i64 (m:Int)/\m<=5/\n+6*m<=40/\P.length+m=1+K/\TrI ps dp P x r/\SW w.heap.size w (trL x r g9 tg A cap L n l) wr) (fun s10 _=>(intOf s10).toNat)
  case atStart=>exact ⟨1+K,1,[],_,_,by go_num,by omega,by omega,by simp,TI.out,S7.out⟩
  obtain ⟨m,n,P,x,r,rfl,hm5,hn,hPm,hti,hs⟩:=hrel;have TI1:=hid hti;have S1:=hid hs;have HPS1:=hid hti.ps;have hrl:=hti.rtx.len;clear hs hti S7 TI;cases m with
  | succ m=>
   have HT:=hid (text34_x S1.out 6 rfl (by omega));go_wp2_with (go_at_call 34;(with_reducible refine HT.out.mono ?_);refine halt_ ?_)
   rintro e w1 ⟨d,rfl,s2⟩;have HX:=hid (textB_is L n);have HTN:=(textN_in L n).2;obtain ⟨bs,HBS⟩:∃ bs,Hid (textB L n=bs):=⟨_,rfl⟩;rw [HBS.out] at s2 HX;have S2:Hid (SW w.heap.size w (x.obs (bufOb d bs::r3Ob r::cellOb g9 54 #[.slice r.A r.E.length r.c,.slice r.B r.E.length r.k]::tpOb tg A cap L (n+1+textN L n)::l)) w1):=s2.behind;have hrb:RB w1 d bs:=S2.out.get 4 (o:=bufOb d bs) rfl;have hdl:d.len=bs.length:=hrb.1.symm;have HPU:=hid (PutTS_L S2.out TI1.out.cl TI1.out.tx d.A d.cap bs hrb.rs HX.out);rw [HPS1.out] at HPU;rw [hdl];have HDL:=hid hdl;clear s2 hrb hdl HT S1;go_wp2_with (go_at_call 23;(with_reducible refine HPU.out.mono ?_);refine halt_ ?_)
   rintro e w2 ⟨rfl,x',s3,hc',hT',hps',hp',hnm',hF',hs'⟩;obtain ⟨i,HI⟩:∃ i,Hid (fpOf bs=i):=⟨_,rfl⟩;rw [HI.out];have C2:=hid hc';have T2:=hid hT';have F2:=hid hF';have HP2:Hid (x'.p=dp):=hp'.trans TI1.out.p;have HPS2:Hid (x'.ps=ps):=hps'.trans HPS1.out;have HNM2:Hid (x'.nm=nmS):=hnm'.trans TI1.out.nm;have HOP2:Hid (x'.s.ops=[]):=by rw [Hid,hs'];exact TI1.out.ops
   have S3:=hid (s3.alloc (.cells #[.int .u64 i.1,.int .i64 i.2] 31));clear s3 hc' hT' hps' hp' hnm' hF' hs' HPU S2;go_upto_region 14 with fail
   obtain ⟨W3,HW3⟩:∃ W3,Hid (w2.alloc (.cells #[.int .u64 i.1,.int .i64 i.2] 31)=W3):=⟨_,rfl⟩;rw [HW3.out] at S3;rw [HW3.out];clear HW3;have HNX:=hid (Next_x S3.out 7 rfl 3 (by omega) (by omega));obtain ⟨v,HV⟩:∃ v,Hid (tnext L (n+1+textN L n) 3=v):=⟨_,rfl⟩;rw [HV.out] at HNX;by_cases hv:v=0
   · subst hv;go_wp2_with (go_at_call 33;(with_reducible refine HNX.out.mono ?_);refine halt_ ?_)
     rintro e w3 ⟨rfl,s4⟩;have S4:Hid (SW w.heap.size w (x'.obs (bufOb d bs::r3Ob r::cellOb g9 54 #[.slice r.A r.E.length r.c,.slice r.B r.E.length r.k]::tpOb tg A cap L (n+1+textN L n+1)::l)) w3):=s4;clear s4 HNX S3
     have hpl:(pends x'.C).length<=6:=by
      have h1:=T2.out.len C2.out.keys;have h2:=pends_le x'.C;rw [zB,zE] at h1;omega
     have hfs:frSum (pends x'.C)<=192:=by
      have:=T2.out.pends;omega
     have hfl0:flen x'.F<=192*P.length:=by
      rw [F2.out];exact TI1.out.len
     have HFL:=hid (Flush_L S4.out C2.out (by omega) (by omega));rw [HPS2.out] at HFL;go_wp2_with (go_at_call 35;(with_reducible refine HFL.out.mono ?_);refine halt_ ?_)
     rintro e w4 ⟨rfl,x2,s5,hc2,hfl⟩;have HT2:Hid (TX x2 (P++[bs])):=⟨fun i=>(hfl.has i).trans (T2.out.has i),fun bs hb=>(hfl.val _).trans (T2.out.val bs hb),T2.out.text⟩
     have HLEN:Hid (flen x2.F<=192*P.length+192):=by
      rw [Hid,hfl.len];omega
     have FL:=hid hfl;have C3:=hid hc2;have S5:=hid s5;clear s5 hc2 hfl HFL S4;have k0:=(S5.out.cell 6 rfl).cell 0;have k1:=(S5.out.cell 6 rfl).cell 1;have HPR:=hid (rPut_S (SW.front (pre:=[_,_,_,_,_,_]) S5.out [5,0,1,2,3,4] (n:=6) rfl (by decide)) TI1.out.rtx d bs (S5.out.get 4 (o:=bufOb d bs) rfl) HX.out (by omega));rw [HDL.out] at HPR;go_wp2_with (go_at_call 36;(with_reducible refine HPR.out.mono ?_);refine halt_ ?_)
     rintro e w5 ⟨r',rfl,s5,hR'⟩;have R2:=hid hR';have z0:=(s5.cell 6 rfl).cell 0;have z1:=(s5.cell 6 rfl).cell 1;have f0:=(s5.cell 6 rfl).frozen 0;have f1:=(s5.cell 6 rfl).frozen 1;have S6:=hid ((s5.setAt 6 rfl 0 (.slice r'.A r'.E.length r'.c)).setAt 6 rfl 1 (.slice r'.B r'.E.length r'.k));clear s5 hR' HPR S5 k0 k1;have S7:Hid (SW w.heap.size w (trL x2 r' g9 tg A cap L (n+1+textN L n+1) l) _):=SW.few (pre:=[_,_,_,_,_,_,_,_]) S6.out [1,2,3,4,0,6,7] (n:=8) rfl (by decide) (by decide);clear S6;go_wp2_with fail
     go_roundw
     case rel=>exact ⟨m,n+1+textN L n+1,P++[bs],x2,r',by go_num,by omega,by omega,by rw [zB,zE];omega,⟨FL.out.ps.trans HPS2.out,FL.out.p.trans HP2.out,FL.out.nm.trans HNM2.out,FL.out.ops HOP2.out,C3.out,HT2.out,R2.out,by rw [zB,zE];have:=HLEN.out;omega⟩,S7.out⟩
     simp [intOf]
   go_wp2_with (go_at_call 33;(with_reducible refine HNX.out.mono ?_);refine halt_ ?_)
   rintro e w3 ⟨rfl,s4⟩;have S4:Hid (SW w.heap.size w (x'.obs (bufOb d bs::r3Ob r::cellOb g9 54 #[.slice r.A r.E.length r.c,.slice r.B r.E.length r.k]::tpOb tg A cap L (n+1+textN L n+1)::l)) w3):=s4
   have HLEN:Hid (flen x'.F<=192*P.length):=by
    rw [Hid,F2.out];exact TI1.out.len
   have hv2:(v==0)=false:=by simpa using hv
   clear s4 HNX S3;have k0:=(S4.out.cell 6 rfl).cell 0;have k1:=(S4.out.cell 6 rfl).cell 1;have HPR:=hid (rPut_S (SW.front (pre:=[_,_,_,_,_,_]) S4.out [5,0,1,2,3,4] (n:=6) rfl (by decide)) TI1.out.rtx d bs (S4.out.get 4 (o:=bufOb d bs) rfl) HX.out (by omega));rw [HDL.out] at HPR;go_wp2_with (go_at_call 36;(with_reducible refine HPR.out.mono ?_);refine halt_ ?_)
   rintro e w5 ⟨r',rfl,s5,hR'⟩;have R2:=hid hR';have z0:=(s5.cell 6 rfl).cell 0;have z1:=(s5.cell 6 rfl).cell 1;have f0:=(s5.cell 6 rfl).frozen 0;have f1:=(s5.cell 6 rfl).frozen 1;have S6:=hid ((s5.setAt 6 rfl 0 (.slice r'.A r'.E.length r'.c)).setAt 6 rfl 1 (.slice r'.B r'.E.length r'.k));clear s5 hR' HPR S4 k0 k1;have S7:Hid (SW w.heap.size w (trL x' r' g9 tg A cap L (n+1+textN L n+1) l) _):=SW.few (pre:=[_,_,_,_,_,_,_,_]) S6.out [1,2,3,4,0,6,7] (n:=8) rfl (by decide) (by decide);clear S6;go_wp2_with fail
   go_roundw
   case rel=>exact ⟨m,n+1+textN L n+1,P++[bs],x',r',by go_num,by omega,by omega,by rw [zB,zE];omega,⟨HPS2.out,HP2.out,HNM2.out,HOP2.out,C2.out,T2.out,R2.out,by rw [zB,zE];have:=HLEN.out;omega⟩,S7.out⟩
   simp [intOf]
  | zero=>
   have hpl:(pends x.C).length<=6:=by
    have h1:=TI1.out.tx.len TI1.out.cl.keys;have h2:=pends_le x.C;omega
   have hfs:frSum (pends x.C)<=192:=by
    have:=TI1.out.tx.pends;omega
   have hfl0:=TI1.out.len;have HFL:=hid (Flush_L S1.out TI1.out.cl (by omega) (by omega));rw [HPS1.out] at HFL;go_wp2_with (go_at_call 35;(with_reducible refine HFL.out.mono ?_);refine halt_ ?_)
   rintro e w4 ⟨rfl,x2,s5,hc2,hfl⟩;have HPL:Hid (P.length<=5):=by rw [Hid];omega
   have HPD:Hid (x2.p=dp):=hfl.p.trans TI1.out.p;have HPS2:Hid (x2.ps=ps):=hfl.ps.trans HPS1.out;have R1:=hid TI1.out.rtx;obtain ⟨D,f,hh⟩:=HlI.ofFlush TI1.out hfl hc2 (fun e=>by rw [e] at hPm;simp at hPm;omega) (by have:=HPL.out;omega) (by have:=hfl.len;have:=HPL.out;omega);have HH:=hid hh;have S5:Hid (SW w.heap.size w (trL x2 r g9 tg A cap L n l) w4):=s5;clear s5 hc2 hfl HFL S1 TI1 HPS1 hh;have HN:=hid (names_H S5.out HH.out);rw [HPD.out] at HN;go_wp2_with (go_at_call 37;(with_reducible refine HN.out.mono ?_);refine halt_ ?_)
   rintro e w5 ⟨gn,cn,rfl,s6⟩;have S6:Hid (SW w.heap.size w (trN x2 gn r g9 tg A cap L n l) w5):=s6;clear s6 HN S5;go_upto_block 2 with fail
   go_cut [15] from 143 (fun _ w'=>∃ (x:SR) (D:List UInt8) (f:FR),x.ps=ps/\x.p=dp/\HlI x D f 0/\SW w.heap.size w (trN x gn r g9 tg A cap L n l) w')
   case first=>
    go_wp2_with fail
    go_loopw [15] (fun s15 wr=>∃ (j:Nat) (x:SR) (D:List UInt8) (f:FR),s15= .int .i64 (j:Int)/\j<=8/\x.ps=ps/\x.p=dp/\HlI x D f 0/\SW w.heap.size w (trN x gn r g9 tg A cap L n l) wr) (fun s15 _=>8-(intOf s15).toNat)
    case atStart=>exact ⟨0,x2,D,f,rfl,by omega,HPS2.out,HPD.out,HH.out,S6.out⟩
    obtain ⟨j,x,D,f,rfl,hj8,hps,hp,hh,hs⟩:=hrel;have HPS3:=hid hps;have HPD3:=hid hp;have H1:=hid hh;have S7:=hid hs;clear hs hh hps hp S6 HPS2 HPD HH;rename World=>wz;by_cases hj1:j+1<M.length
    · by_cases hj2:j<4
      · have n0:wz.cell? ⟨gn,0,none⟩=some (.string (fileN nmS)):=S7.out.get 4 (o:=rcOb gn (.string (fileN nmS))) rfl;have hin5:(inOb B M).holds wz:=S7.out.1.holds (inOb B M) (by simp [HIN2.out,SR.obs]);obtain ⟨bb,bo,rfl,_,hcM⟩:=hin5.1 (by omega);have hm0:=hcM j (by omega);obtain ⟨z,hz⟩:∃ z,M.getD j 0=z:=⟨_,rfl⟩;rw [hz] at hm0;have HFO:=hid (fun (v n:Int) (W:World) (hn:n<=4294967296)=>Fold_x v n W hn);have hf1:foldI z 1=0:=by unfold foldI;simp
        have HF1:=hid hf1;clear hin5 hcM hz hf1;obtain ⟨hrE,hrB⟩:=H1.out.read;rw [H1.out.nm] at hrE hrB;have HRD:=hid (fun (W:World) (hW:DV W x.p x.r x.s)=>Read_any x.p x.r x.s (fileN nmS) W hW (file_ok (by decide)));rw [HPD3.out] at HRD;have HDL:=hid H1.out.dl;have HRE:=hid hrE;have HRB:=hid hrB;clear hrE hrB;go_wp2_with (first | (go_at_call 24;(with_reducible refine (HFO.out _ _ _ (by omega)).mono ?_);rintro e w6 ⟨rfl,rfl⟩;rw [HF1.out]) | (go_at_call 38;refine halt_ ?_))
        refine hid ((HRD.out wz (by have:=S7.out.1.sdv;rw [HPD3.out] at this;exact this)).mono ?_);rintro e w6 ⟨⟨dA,dn,dc⟩,rfl,hrb,_,hb6⟩;rw [HRE.out];unfold vB;rw [HRB.out] at hrb;have hdn:D.length=dn:=hrb.1;subst hdn;have S8:=hid (S7.out.on hb6);clear hrb hb6 HRD HRE HRB S7 n0 hm0 HF1 HFO;by_cases hD0:0<D.length
        · have hin6:(inOb (some ⟨bb,bo,none⟩) M).holds w6:=S8.out.1.holds (inOb (some ⟨bb,bo,none⟩) M) (by simp [HIN2.out,SR.obs]);obtain ⟨_,_,e5,hlb,hcM⟩:=hin6.1 (by omega);injection e5 with e5;injection e5 with e5 e6;subst e5 e6;have hm1:=hcM (j+1) (by omega);obtain ⟨z1,hz1⟩:∃ z,M.getD (j+1) 0=z:=⟨_,rfl⟩;rw [hz1] at hm1;have HFQ:=hid (fun (v n:Int) (W:World) (hn:n<=4294967296)=>fold_q v n W hn);clear hcM hz1 hin6;go_upto_region 26 with fail
          have hD4:=HDL.out;refine wp_region_ext_tail 16 (by kernel_rfl) (by kernel_rfl) ?_;simp only [List.take_succ_cons,List.take_zero,List.drop_succ_cons,List.drop_zero];repeat (go_big_quiet_step ((go_at_call 24;exact ext_call (HFQ.out _ _ _ (by omega)))))
          refine wpQuiet_nil ?_;intro w7 hb7;have S9:=hid (S8.out.on hb7);clear hb7 S8 hm1 HFQ hlb;have HFL:=hid (flip_H HPD3.out S9.out H1.out (foldI z1 (D.length:Int)) (foldI z1 8));go_wp2_with (go_at_call 39;(with_reducible refine HFL.out.mono ?_);refine halt_ ?_)
          rintro e w8 ⟨v8,r8,rfl,s9⟩;have S10:=hid s9;clear s9 HFL S9;obtain ⟨D',hh'⟩:=H1.out.flip (foldI z1 (D.length:Int)) (foldI z1 8) r8;have H2:=hid hh';clear hh' hD4;go_wp2_with fail
          go_roundw
          case rel=>exact ⟨j+2,{ x with r:=r8,s:=flipS x.s (fileN nmS) (foldI z1 (D.length:Int)) (foldI z1 8) },D',f,by go_num,by omega,HPS3.out,HPD3.out,H2.out,S10.out⟩
          simp [intOf];omega
        have hD1:D.length=0:=by omega
        have hD2:¬ (0:Int)<(D.length:Int):=by omega
        go_wp2_with fail
        go_roundw
        case rel=>exact ⟨j+2,_,_,_,by go_num,by omega,HPS3.out,HPD3.out,H1.out,S8.out⟩
        simp [intOf];omega
      have hj3:¬ (j:Int)<4:=by omega
      have hj4:(j:Int)+1<(M.length:Int):=by omega
      go_wp2_with fail
      go_meet;exact ⟨x,D,f,HPS3.out,HPD3.out,H1.out,S7.out⟩
    have hj4:¬ (j:Int)+1<(M.length:Int):=by omega
    go_wp2_with fail
    go_meet;exact ⟨x,D,f,HPS3.out,HPD3.out,H1.out,S7.out⟩
   obtain ⟨x,D1,f1,hps,hp,hh,hs⟩:=hcut;have S7:=hid hs;have H1:=hid hh;have HPS3:=hid hps;have HPD3:=hid hp;clear hs hh hps hp S6 HPS2 HPD HH;have HNX:=hid (Next_x S7.out 7 rfl 2 (by omega) (by omega));obtain ⟨v,HV⟩:∃ v,Hid (tnext L n 2=v):=⟨_,rfl⟩;rw [HV.out] at HNX;go_upto_if 145 with (go_at_call 33;(with_reducible refine HNX.out.mono ?_);rintro e w6 ⟨rfl,s8⟩;have S8:Hid (SW w.heap.size w (trN x gn r g9 tg A cap L (n+1) l) w6):=s8;clear s8 HNX S7)
   go_cut [7,8] from 157 (fun s7 _ w'=>∃ (x:SR) (D:List UInt8) (f:FR),s7=vPtr x.ps/\HlI x D f 0/\SW w.heap.size w (trN x gn r g9 tg A cap L (n+1) l) w')
   case first=>
    by_cases hv:v=0
    · subst hv;have HRO:=hid (reopen_H S8.out H1.out);rw [HPD3.out] at HRO;go_wp2_with (go_at_call 20;(with_reducible refine HRO.out.mono ?_);refine halt_ ?_)
      rintro e2 w9 ⟨x',f',rfl,hH',hp',s9⟩;have S9:=hid s9;have H2:=hid hH';clear s9 hH' hp' HRO S8 H1;go_wp2_with fail
      go_meet;exact ⟨x',D1,f',rfl,H2.out,S9.out⟩
    have hv2:(v==0)=false:=by simpa using hv
    go_wp2_with fail
    go_meet;exact ⟨x,D1,f1,by rw [HPS3.out],H1.out,S8.out⟩
   obtain ⟨x3,D3,f3,rfl,hh,hs⟩:=hcut;have S9:=hid hs;have H3:=hid hh;clear hs hh S8 H1 HPS3 HPD3 HV;go_wp2_with fail
   go_loopw [19] (fun s19 wr=>∃ (k:Nat) (x:SR) (f:FR),s19= .int .i64 (k:Int)/\k<=r.E.length/\x.ps=x3.ps/\HlI x D3 f k/\Good x ((r.E.take k).map (·.bs))/\SW w.heap.size w (trN x gn r g9 tg A cap L (n+1) l) wr) (fun s19 _=>r.E.length-(intOf s19).toNat)
   case atStart=>exact ⟨0,x3,f3,rfl,Nat.zero_le _,rfl,H3.out,(by intro t ht;simp at ht),S9.out⟩
   obtain ⟨k,x,f,rfl,hk,hps,hh,hg,hs⟩:=hrel;have HPS:=hid hps;have H4:=hid hh;have G4:=hid hg;have S10:=hid hs;clear hs hh hg hps S9 H3;rename World=>wz;have c0:=(S10.out.cell 6 rfl).cell 0;by_cases hi:k<r.E.length
   · obtain ⟨e,he⟩:∃ e,r.E.getD k re0=e:=⟨_,rfl⟩
     have hem:e∈r.E:=by
      rw [<- he,zA,zD hi];exact zF hi
     have HTS:Hid (r.E.take (k+1)=r.E.take k++[e]):=by
      rw [Hid,List.take_succ_eq_append_getElem hi, <- he,zA,zD hi];rfl
     have HCH:=hid (fun (W:World) (h:R3Ok W r)=>R3Ok.chunk h hi he);obtain ⟨gE,hA,hgE,a0,a1,a2⟩:=HCH.out wz (S10.out.get 5 (o:=r3Ob r) rfl);have HA:=hid hA;rw [hA] at c0;have hrb:RB wz e.d e.bs:=R3Ok.bytes (S10.out.get 5 (o:=r3Ob r) rfl) e hem;have hdl:e.d.len=e.bs.length:=hrb.1.symm;obtain ⟨hfp,htx⟩:=R1.out.val e hem;have HFP:=hid hfp;have HPU:=hid (Put_H S10.out H4.out (by have:=HPL.out;omega) e.d.A e.d.cap e.bs hrb.rs htx G4.out);rw [HPS.out] at HPU;rw [hdl] at a2;clear hrb hdl htx hfp hem hA he;go_wp2_with (go_at_call 23;(with_reducible refine HPU.out.mono ?_);refine halt_ ?_)
     rintro e2 w9 ⟨rfl,x',f',s9,hH',hps',hp',hg'⟩;rw [HFP.out];have S11:=hid (s9.newCell 31 #[.int .u64 e.id.1,.int .i64 e.id.2]);have H5:=hid hH';have HPS5:Hid (x'.ps=x3.ps):=hps'.trans HPS.out
     have G5:Hid (Good x' ((r.E.take (k+1)).map (·.bs))):=by
      rw [Hid,HTS.out];intro t ht;refine hg' t ?_;rw [List.map_append,List.mem_append] at ht;rcases ht with ht | ht
      · exact List.mem_cons_of_mem _ ht
      have ht:t=e.bs:=by simpa using ht
      rw [ht];exact List.mem_cons_self ..
     clear s9 hH' hps' hp' hg' HPU S10 H4 G4 HPS HFP HTS hgE a0 a1 a2 c0;go_upto_region 35 with fail
     obtain ⟨W11,HW11⟩:∃ W11,Hid (w9.alloc (.cells #[.int .u64 e.id.1,.int .i64 e.id.2] 31)=W11):=⟨_,rfl⟩;obtain ⟨g20,HG20⟩:∃ g20,Hid (w9.heap.size=g20):=⟨_,rfl⟩;rw [HW11.out,HG20.out] at S11;rw [HW11.out,HG20.out];clear HW11 HG20;have c0:=(S11.out.cell 7 rfl).cell 0;have hg9:=(S11.out.cell 7 rfl).lt;have d0:=(S11.out.cell 0 rfl).cell 0;have d1:=(S11.out.cell 0 rfl).cell 1;have hg20:=(S11.out.cell 0 rfl).lt;obtain ⟨gF,hF,hgF,a0,a1,_⟩:=HCH.out W11 (S11.out.get 6 (o:=r3Ob r) rfl);rw [HA.out] at hF c0;injection hF with hF;injection hF with hF;subst hF;have hne:=fun W=>neq31 e.id e.id W;refine wp_region_ext (by kernel_rfl) (by kernel_rfl) ?_;repeat (go_big_quiet_step (fail))
     refine wpQuiet_nil ?_;intro w10 hb;have S12:Hid (SW w.heap.size w (trN x' gn r g9 tg A cap L (n+1) l) w10):=(S11.out.on hb).tail;clear hb S11 hne c0 d0 d1 a0 a1 hg9 hg20 hgF HCH HA;go_wp2_with fail
     go_roundw
     case rel=>exact ⟨k+1,x',f',by go_num,by omega,HPS5.out,H5.out,G5.out,S12.out⟩
     simp [intOf];omega
   obtain rfl:k=r.E.length:=by omega
   rw [List.take_length] at G4;have HFL:=hid (Flush_H S10.out H4.out G4.out);rw [HPS.out] at HFL;go_wp2_with (go_at_call 35;(with_reducible refine HFL.out.mono ?_);refine halt_ ?_)
   rintro e2 w9 ⟨rfl,x',D',s9,hF,hps',hp',hg'⟩;have S11:Hid (SW w.heap.size w (trN x' gn r g9 tg A cap L (n+1) l) w9):=s9;have F5:=hid hF;have G5:=hid hg';have HPS5:Hid (x'.ps=x3.ps):=hps';clear s9 hF hps' hp' hg' HFL S10 H4 G4 HPS c0;go_wp2_with fail
   go_loopw [22] (fun s22 wr=>∃ (k:Nat),s22= .int .i64 (k:Int)/\k<=r.E.length/\SW w.heap.size w (trN x' gn r g9 tg A cap L (n+1) l) wr) (fun s22 _=>r.E.length-(intOf s22).toNat)
   case atStart=>exact ⟨0,rfl,Nat.zero_le _,S11.out⟩
   obtain ⟨k,rfl,hk2,hs⟩:=hrel;have S12:=hid hs;clear hs S11;rename World=>wy;have c0:=(S12.out.cell 6 rfl).cell 0;by_cases hi:k<r.E.length
   · obtain ⟨e,he⟩:∃ e,r.E.getD k re0=e:=⟨_,rfl⟩
     have hem:e∈r.E:=by
      rw [<- he,zA,zD hi];exact zF hi
     have HCH:=hid (fun (W:World) (h:R3Ok W r)=>R3Ok.chunk h hi he);have HBY:=hid (fun (W:World) (h:R3Ok W r)=>R3Ok.bytes h e hem);obtain ⟨gE,hA,hgE,a0,a1,a2⟩:=HCH.out wy (S12.out.get 5 (o:=r3Ob r) rfl);have HA:=hid hA;rw [hA] at c0;obtain ⟨hfp,htx⟩:=R1.out.val e hem
     have hv:valC x' e.id=some e.bs:=by
      rw [<- hfp];exact (G5.out e.bs (List.mem_map.2 ⟨e,hem,rfl⟩)).2
     have HGE:=hid (Get_H S12.out F5.out e.id (by rw [<- hfp];exact htx.ok) e.bs hv);rw [HPS5.out] at HGE;clear hfp htx hem hA he hv;go_wp2_with (go_at_call 30;(with_reducible refine HGE.out.mono ?_);refine halt_ ?_)
     rintro e2 w10 ⟨d,rfl,s10⟩;have S13:=hid s10;clear s10 HGE S12 hgE a0 a1 a2 c0;have c0:=(S13.out.cell 7 rfl).cell 0;have hg9:=(S13.out.cell 7 rfl).lt;obtain ⟨gF,hF,hgF,_,_,a2⟩:=HCH.out w10 (S13.out.get 6 (o:=r3Ob r) rfl);rw [HA.out] at hF c0;injection hF with hF;injection hF with hF;subst hF;have hrb1:RB w10 e.d e.bs:=HBY.out w10 (S13.out.get 6 (o:=r3Ob r) rfl);have hrb2:RB w10 d e.bs:=S13.out.get 4 (o:=bufOb d e.bs) rfl;have v1:=fun q:Ext w10=>conv_rb (hrb1.on (wext_below q));have v2:=fun q:Ext w10=>conv_rb (hrb2.on (wext_below q));clear hrb1 hrb2 HCH HBY HA;go_upto_region 43 with fail
     refine wp_region_ext (by kernel_rfl) (by kernel_rfl) ?_;repeat (go_big_quiet_step (fail))
     refine wpQuiet_nil ?_;intro w11 hb;have S14:Hid (SW w.heap.size w (trN x' gn r g9 tg A cap L (n+1) l) w11):=SW.few (pre:=[_,_,_,_,_]) (S13.out.on hb) [0,1,2,3] (n:=5) rfl (by decide) (by decide);clear hb S13 v1 v2 c0 a2 hg9 hgF;go_wp2_with fail
     go_roundw
     case rel=>exact ⟨k+1,by go_num,by omega,S14.out⟩
     simp [intOf];omega
   obtain rfl:k=r.E.length:=by omega
   have HDA:=hid (Damaged_H S12.out F5.out G5.out);rw [HPS5.out] at HDA;go_wp2_with (go_at_call 48;(with_reducible refine HDA.out.mono ?_);refine halt_ ?_)
   rintro e2 w10 ⟨A',c',ds,rfl,hds,hdn,s10⟩;have S13:=hid s10;have HDS:=hid hds;clear s10 hds HDA S12 c0;go_wp2_with fail
   go_loopw [26] (fun s26 wr=>∃ (k:Nat),s26= .int .i64 (k:Int)/\k<=r.E.length/\SW w.heap.size w (riOb A' ds::trN x' gn r g9 tg A cap L (n+1) l) wr) (fun s26 _=>r.E.length-(intOf s26).toNat)
   case atStart=>exact ⟨0,rfl,Nat.zero_le _,S13.out⟩
   obtain ⟨k,rfl,hk3,hs⟩:=hrel;have S14:=hid hs;clear hs S13;rename World=>wx;have c0:=(S14.out.cell 7 rfl).cell 0;by_cases hi:k<r.E.length
   · obtain ⟨e,he⟩:∃ e,r.E.getD k re0=e:=⟨_,rfl⟩
     have hem:e∈r.E:=by
      rw [<- he,zA,zD hi];exact zF hi
     obtain ⟨gE,hA,hgE,a0,a1,_⟩:=R3Ok.chunk (S14.out.get 6 (o:=r3Ob r) rfl) hi he;rw [hA] at c0;obtain ⟨hfp,htx⟩:=R1.out.val e hem
     have hni:decide (e.id∈ds)=false:=decide_eq_false (by
      rw [<- hfp];exact HDS.out e.bs (List.mem_map.2 ⟨e,hem,rfl⟩))
     have HHS:=hid (rHas_any wx.heap.size ds A' c' e.id.1 e.id.2 wx (rdID_of (S14.out.get 0 (o:=riOb A' ds) rfl)) (by omega));have hie:decide ((e.id.1,e.id.2)∈ds)=decide (e.id∈ds):=rfl;rw [hie,hni] at HHS;clear hfp htx hem hA he hni hie;go_wp2_with (go_at_call 49;(with_reducible refine HHS.out.mono ?_);refine halt_ ?_)
     rintro e2 w11 ⟨rfl,hb⟩;have S15:=hid (S14.out.on hb);clear hb HHS S14 c0 a0 a1 hgE;go_wp2_with fail
     go_roundw
     case rel=>exact ⟨k+1,by go_num,by omega,S15.out⟩
     simp [intOf];omega
   obtain rfl:k=r.E.length:=by omega
   go_wp2_with fail
   go_ret;exact ⟨rfl,S14.out.2⟩
end
end
section
open Go.RowKit Go.MapKept Go.ChangeMaps Go.Shelf Go.Sort
theorem SW.startIn {w:World} {A:Option Addr} {L:List Int} (hr:RdT w w.heap.size A L) (hl:L.length<=9223372036854775807):SW w.heap.size w [inOb A L] w:=
 SW.start (o:=inOb A L) ⟨hr,hl⟩ (fun _ h=>h) (fun i hi=>by
  obtain ⟨hp,o,e⟩:=hi;obtain ⟨q,o',e',hlt,_⟩:=hr hp;rw [e] at e';injection e' with e';injection e' with e' _;rw [e'];exact hlt)
theorem inOb_lt {w:World} {A:Option Addr} {L:List Int} (h:(inOb A L).holds w) {i:Nat} (hi:(inOb A L).rd i):i<w.heap.size:=by
 obtain ⟨hp,o,e⟩:=hi;obtain ⟨g,o',e',hlt,_⟩:=h.1 hp;rw [e] at e';injection e' with e';injection e' with e1 e2;rw [e1];exact hlt
theorem law8 {A:Option Addr} {L:List Int} {n:Nat} (e:L.length=n) (cap:Nat) {B:Option Addr} {M:List Int} {m:Nat} (e2:M.length=m) (cap2:Nat) (w:World) (hr:RdT w w.heap.size A L) (hr2:RdT w w.heap.size B M) (hl:n<=9223372036854775807) (hl2:m<=9223372036854775807):Calls Tryz.prog 8 #[.slice A n cap,.slice B m cap2] w (fun e w'=>e= .returned (.bool true)/\Below w.heap.size w w'):=by
 subst e;subst e2;have h2:(inOb B M).holds w:=⟨hr2,hl2⟩
 have S:=(SW.startIn hr hl).also (o':=inOb B M) h2 (fun _ h=>h) (fun _ h'=>inOb_lt h2 h') (fun i _ y hy=>by
  rcases List.mem_cons.1 hy with rfl | hy
  · exact fun h=>h
  cases hy)
 exact law8_any S (by simp) cap (by simp) cap2
end
section
open Go.RowKit Go.ChangeShapes
theorem cell_lt {W:World} {b o:Nat} {v:Value} (h:W.cell? ⟨b,o,none⟩=some v):b<W.heap.size:=by
 rcases Nat.lt_or_ge b W.heap.size with h1 | h1
 · exact h1
 exfalso
 simp [World.cell?, Array.getElem?_eq_none h1] at h
theorem open_nums {H:Type} {enc:TypeId×Value->H} {W:World} {base:Nat} {spare:Nat->Bool} {held:Bool} {A:Option Addr} {len cap:Nat} {d:DataW H} {p:List MemPlace}
 (h:DataW.Trod enc Tryz.prog W base spare held 47 (.slice A len cap) d p):∃ xs:List Int,xs.length=len/\RdT W W.heap.size A xs/\len<=9223372036854775807:=by
 obtain ⟨fuel,hf⟩:=h;rcases Go.ChangeShapes.open_ints Tryz.underlying47 Tryz.underlying3 (by kernel_rfl) hf with ⟨hcs,_⟩ | ⟨a,l,c,zs,hcs,_,hl,hm,hz,_,hx,_⟩
 · simp [Value.cells] at hcs;obtain ⟨rfl,rfl,rfl⟩:=hcs;exact ⟨[],rfl,fun hp=>absurd hp (by simp),by omega⟩
 simp [Value.cells] at hcs;obtain ⟨rfl,rfl,rfl⟩:=hcs;have hlz:len<=zs.length:=by rw [hz];split<;>omega
 unfold maxLen at hm;refine ⟨zs.take len,by rw [zC];omega,fun hp=>?_,by omega⟩;have hp':0<len:=by rw [zC] at hp;omega
 obtain ⟨b,off,spot⟩:=a;have h0:=hx 0 (by omega);have hspot:spot=none:=by simpa [Addr.add] using World.cell?_spot h0
 subst hspot;have hadd:∀ j,(⟨b,off,none⟩:Addr).add j=⟨b,off+j,none⟩:=fun j=>by unfold Addr.add;split<;>simp_all
 rw [hadd] at h0;refine ⟨b,off,rfl,cell_lt h0,fun j hj=>?_⟩;rw [zC] at hj;have:=hx j (by omega);rw [hadd] at this;rw [this,zA,zA,List.getElem?_take_of_lt (by omega)]
end
end Go.Proofs.YteabgcollokgjaaGreatDoor
