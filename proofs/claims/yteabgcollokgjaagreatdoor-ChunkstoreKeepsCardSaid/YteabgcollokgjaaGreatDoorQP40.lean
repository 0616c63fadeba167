/- Q -/
import Derived.Test.YteabgcollokgjaaGreatDoorQP39
import Derived.ChangeSlices
import Derived.ProofKit
set_option linter.unusedSimpArgs false
set_option linter.unusedVariables false
set_option maxRecDepth 100000
set_option maxHeartbeats 32000000
open Go.Lib renaming hid → kh
open List renaming getD_eq_getElem?_getD → zA,length_take → zB,getElem?_eq_getElem → zC
namespace Go.Proofs.YteabgcollokgjaaGreatDoor
section
open Go.RowKit Go.MapKept Go.ChangeMaps Go.Shelf Go.Sort
attribute [local go_sem] wext_cell
abbrev kpL (x:SR) (rs rm:R3) (g7 g8 tg:Nat) (A:Option Addr) (cap:Nat) (L:List Int) (n:Nat) (l:List Ob):List Ob:=x.obs (r3Ob rs::r3Ob rm::cellOb g7 54 #[.slice rs.A rs.E.length rs.c,.slice rs.B rs.E.length rs.k]::cellOb g8 54 #[.slice rm.A rm.E.length rm.c,.slice rm.B rm.E.length rm.k]::tpOb tg A cap L n::l)
theorem RTX.few {r:R3} {P:List (List UInt8)} (h:RTX r P):r.E.length<=30:=by
 have h1:=len_le_sub r.ids (allTexts.map fpOf) (ids_nodup h) (fun i hi=>by
  obtain ⟨e,he,rfl⟩:=List.mem_map.1 hi;obtain ⟨e1,e2⟩:=h.val e he;exact List.mem_map.2 ⟨e.bs,e2.mem,e1⟩)
 have e:(allTexts.map fpOf).length=30:=by decide+kernel
 have e2:r.ids.length=r.E.length:=List.length_map _;omega
theorem RTX.get {r:R3} {P:List (List UInt8)} (h:RTX r P) {t:List UInt8} (ht:t∈P) (htx:IsText t):∃ d:BD,rGetV r (fpOf t)= .tuple #[.slice d.A d.len d.cap,.int .i64 0]/\∀ W,R3Ok W r->RB W d t:=by
 have hat:hasAt r.E (fpOf t)=true:=(hasAt_iff h.sort _).2 ((h.has _).2 (List.mem_map.2 ⟨t,ht,rfl⟩))
 have hv:rGetV r (fpOf t)= .tuple #[.slice (r.E.getD (atI r.E (fpOf t)) re0).d.A (r.E.getD (atI r.E (fpOf t)) re0).d.len (r.E.getD (atI r.E (fpOf t)) re0).d.cap,.int .i64 0]:=by
  unfold rGetV;rw [if_pos hat]
 obtain ⟨f,hf,hid⟩:∃ f:RE,r.E[atI r.E (fpOf t)]? =some f/\f.id=fpOf t:=by
  unfold hasAt at hat;split at hat
  · rename_i f hf
    exact ⟨f,hf,of_decide_eq_true hat⟩
  cases hat
 have hg:r.E.getD (atI r.E (fpOf t)) re0=f:=by rw [zA,hf];rfl
 rw [hg] at hv;have hm:=List.mem_of_getElem? hf;obtain ⟨e1,e2⟩:=h.val f hm;have e3:f.bs=t:=text_inj e2 htx (e1.trans hid);exact ⟨f.d,hv,fun W hW=>by rw [<- e3];exact hW.bytes f hm⟩
def EndI (f:Int) (x:SR) (S P:List (List UInt8)):Prop:=(f=0/\∃ cs,KpI x cs P/\∀ c∈S,c∈cs)∨(f=303/\x.dead=true/\x.s.ops.length<=2/\LostD x.s S P)
theorem EndI.lost {f:Int} {x:SR} {S P:List (List UInt8)} (h:EndI f x S P):LostD x.s S P/\x.s.ops.length<=2:=by
 rcases h with ⟨_,cs,h1,h2⟩ | ⟨_,_,h1,h2⟩
 · exact ⟨h1.lost.mono h2 (fun _ h=>h),by rw [h1.ops];simp⟩
 exact ⟨h2,h1⟩
theorem EndI.fuse {f:Int} {x:SR} {S P:List (List UInt8)} (h:EndI f x S P) (r':Rp) (n:Int):EndI f { x with r:=r',s:={ x.s with f:=n } } S P:=by
 rcases h with ⟨e,cs,h1,h2⟩ | ⟨e,e2,h1,h2⟩
 · exact .inl ⟨e,cs,h1.fuse r' n,h2⟩
 exact .inr ⟨e,e2,h1,fun k t=>h2 k t⟩
section
variable {w:World} {l:List Ob}
theorem law9_any (h:SW w.heap.size w l w) {A:Option Addr} {L:List Int} (hin:inOb A L∈l) (cap:Nat) (h0:0<w.heap.size) (hSyn:Syn w):Calls Tryz.prog 9 #[.slice A L.length cap] w (fun e w'=>e= .returned (.bool true)/\Below w.heap.size w w'):=by
 have S0:=kh h;have HSH:=kh (Short_any w);have HIN:=kh hin;have HB0:=kh h0;have HSY:=kh hSyn;clear h hin h0 hSyn;go_enter Tryz.func9,Tryz.ntmps9;go_wp2_with (go_at_call 32;(with_reducible refine HSH.out.mono ?_);refine halt_ ?_)
 rintro e w1 ⟨v,rfl,hb1⟩;have S1:=kh (S0.out.on hb1);clear hb1 HSH S0;cases v with
 | false=>
  go_wp2_with fail
  go_ret;exact ⟨rfl,S1.out.2⟩
 | true=>
  have S2:=kh (S1.out.newTape HIN.out cap (H:=w1.heap.size) rfl);clear S1;go_upto_region 4 with fail
  obtain ⟨W2,HW2⟩:∃ W2,Hid (w1.alloc (.cells #[.slice A L.length cap,.int .i64 0] 50)=W2):=⟨_,rfl⟩;obtain ⟨tg,HTG⟩:∃ tg,Hid (w1.heap.size=tg):=⟨_,rfl⟩;rw [HW2.out,HTG.out] at S2;rw [HW2.out,HTG.out];have HNW:=kh (New_S S2.out);clear HW2 HTG;go_wp2_with (go_at_call 21;(with_reducible refine HNW.out.mono ?_);refine halt_ ?_)
  rintro e w3 ⟨rp,rfl,s3⟩;obtain ⟨dp,HDP⟩:∃ dp,Hid (W2.heap.size+2=dp):=⟨_,rfl⟩;rw [HDP.out] at s3;rw [HDP.out];have S3:=kh s3;have HO:=kh (Open_K (cs:=[]) s3 HB0.out HSY.out rfl rfl ⟨(fun m hm=>by cases hm),List.nodup_nil,(fun c hc=>by cases hc),.inr ⟨rfl,rfl⟩⟩);clear s3 HNW HDP S2;go_wp2_with (go_at_call 20;(with_reducible refine HO.out.mono ?_);refine halt_ ?_)
  rintro e w4 ⟨x0,rfl,hs,hk0,hp0,_⟩;have S4:=kh hs;have K0:=kh hk0;have P0:=kh hp0;have HKN:=kh (known33_any w4);clear hs hk0 hp0 HO S3;go_wp2_with (go_at_call 22;(with_reducible refine HKN.out.mono ?_);refine halt_ ?_)
  rintro e w5 ⟨rfl,hb5⟩;have S5:=kh (S4.out.on hb5);clear hb5 HKN S4;go_upto_region 9 with fail
  have S6:=kh ((((S5.out.newCell 54 #[.slice none 0 0,.slice none 0 0]).newCellAt 54 #[.slice none 0 0,.slice none 0 0] (H:=w5.heap.size+1) (by simp)).newR3).newR3);obtain ⟨W6,HW6⟩:∃ W6,Hid ((w5.alloc (.cells #[.slice none 0 0,.slice none 0 0] 54)).alloc (.cells #[.slice none 0 0,.slice none 0 0] 54)=W6):=⟨_,rfl⟩;obtain ⟨g7,HG7⟩:∃ g7,Hid (w5.heap.size=g7):=⟨_,rfl⟩;obtain ⟨g8,HG8⟩:∃ g8,Hid (g7+1=g8):=⟨_,rfl⟩;rw [HW6.out,HG7.out,HG8.out] at S6;rw [HW6.out,HG7.out];try rw [HG8.out]
  have S7:Hid (SW w.heap.size w (kpL x0 r30 r30 g7 g8 tg A cap L 0 l) W6):=SW.front (pre:=[_,_,_,_,_,_,_,_]) S6.out [4,5,6,7,0,1,3,2] (n:=8) rfl (by decide);clear HW6 HG7 HG8 S5 S6;have HN:=kh (Next_x S7.out 8 rfl 12 (by omega) (by omega));obtain ⟨hk0,hk1⟩:=tnext_in L 0 12;have hk1:=hk1 (by omega);obtain ⟨K,HK⟩:∃ K:Nat,Hid (tnext L 0 12=(K:Int)):=⟨(tnext L 0 12).toNat,by rw [Hid];omega⟩;rw [HK.out] at hk0 hk1 HN;go_wp2_with (go_at_call 33;(with_reducible refine HN.out.mono ?_);refine halt_ ?_)
  rintro e w7 ⟨rfl,s8⟩;have S8:Hid (SW w.heap.size w (kpL x0 r30 r30 g7 g8 tg A cap L 1 l) w7):=s8;clear s8 HN S7 HK;go_wp2_with fail
  go_loopw [5,9] (fun s5 s9 wr=>∃ (m n:Nat) (x:SR) (cs P S:List (List UInt8)) (rs rm:R3),s5=vPtr x.ps/\s9= .int .i64 (m:Int)/\m<=11/\n+70*m<=900/\x.p=dp/\KpI x cs P/\RTX rm P/\RTX rs S/\(∀ c∈S,c∈cs)/\SW w.heap.size w (kpL x rs rm g7 g8 tg A cap L n l) wr) (fun _ s9 _=>(intOf s9).toNat)
  case atStart=>exact ⟨K,1,x0,[],[],[],r30,r30,rfl,rfl,by omega,by omega,P0.out,K0.out,RTX.empty,RTX.empty,(fun c hc=>by cases hc),S8.out⟩
  obtain ⟨m,n,x,cs,P,S,rs,rm,rfl,rfl,hm11,hn,hp,hk,hrm,hrs,hsc,hs⟩:=hrel;have K1:=kh hk;have P1:=kh hp;have M1:=kh hrm;have R1:=kh hrs;have C1:=kh hsc;have S1:=kh hs;clear hk hp hrm hrs hsc hs S8 K0 P0;rename World=>wz;cases m with
  | zero=>
   go_wp2_with fail
   go_ret;exact ⟨rfl,S1.out.2⟩
  | succ m=>
   have HN:=kh (Next_x S1.out 8 rfl 4 (by omega) (by omega));obtain ⟨hk2,hk3⟩:=tnext_in L n 4;have hk3:=hk3 (by omega);obtain ⟨K4,HK4⟩:∃ K:Nat,Hid (tnext L n 4=(K:Int)):=⟨(tnext L n 4).toNat,by rw [Hid];omega⟩;rw [HK4.out] at hk2 hk3 HN;go_wp2_with (go_at_call 33;(with_reducible refine HN.out.mono ?_);refine halt_ ?_)
   rintro e w2 ⟨rfl,s2⟩;have S2:Hid (SW w.heap.size w (kpL x rs rm g7 g8 tg A cap L (n+1) l) w2):=s2;clear s2 HN S1 HK4;obtain ⟨ps,HPS⟩:∃ ps,Hid (x.ps=ps):=⟨_,rfl⟩;rw [HPS.out];go_wp2_with fail
   go_loopw [10] (fun s10 wr=>∃ (i n2:Nat) (x2:SR) (P2:List (List UInt8)) (rm2:R3),s10= .int .i64 (i:Int)/\i<=3/\n2+6*i<=n+20/\x2.ps=ps/\x2.p=dp/\KpI x2 cs P2/\RTX rm2 P2/\SW w.heap.size w (kpL x2 rs rm2 g7 g8 tg A cap L n2 l) wr) (fun s10 _=>(intOf s10).toNat)
   case atStart=>exact ⟨K4,n+1,x,P,rm,rfl,by omega,by omega,HPS.out,P1.out,K1.out,M1.out,S2.out⟩
   obtain ⟨i,n2,x2,P2,rm2,rfl,hi3,hn2,hps2,hp2,hk2,hrm2,hs⟩:=hrel;have K2:=kh hk2;have P2':=kh hp2;have PS2:=kh hps2;have M2:=kh hrm2;have S3:=kh hs;clear hk2 hp2 hps2 hrm2 hs S2 K1 P1 M1 HPS;rename World=>wy;cases i with
   | succ i=>
    have HT:=kh (text34_x S3.out 8 rfl (by omega));go_wp2_with (go_at_call 34;(with_reducible refine HT.out.mono ?_);refine halt_ ?_)
    rintro e w1 ⟨d,rfl,s2⟩;have HX:=kh (textB_is L n2);have HTN:=(textN_in L n2).2;obtain ⟨bs,HBS⟩:∃ bs,Hid (textB L n2=bs):=⟨_,rfl⟩;rw [HBS.out] at s2 HX
    have S4:Hid (SW w.heap.size w (x2.obs (bufOb d bs::r3Ob rs::r3Ob rm2::cellOb g7 54 #[.slice rs.A rs.E.length rs.c,.slice rs.B rs.E.length rs.k]::cellOb g8 54 #[.slice rm2.A rm2.E.length rm2.c,.slice rm2.B rm2.E.length rm2.k]::tpOb tg A cap L (n2+textN L n2+1)::l)) w1):=by
     have e:n2+textN L n2+1=n2+1+textN L n2:=by omega
     rw [Hid,e];exact s2.behind
    have hrb:RB w1 d bs:=S4.out.get 4 (o:=bufOb d bs) rfl;have hdl:d.len=bs.length:=hrb.1.symm;have HPU:=kh (Put_K S4.out K2.out d.A d.cap bs hrb.rs HX.out);rw [PS2.out] at HPU;rw [hdl];have HDL:=kh hdl;clear s2 hrb hdl HT S3;go_wp2_with (go_at_call 23;(with_reducible refine HPU.out.mono ?_);refine halt_ ?_)
    rintro e w3 ⟨rfl,x3,s3,hk3,hps3,hp3⟩;obtain ⟨j,HJ⟩:∃ j,Hid (fpOf bs=j):=⟨_,rfl⟩;rw [HJ.out];have K3:=kh hk3;have P3:Hid (x3.p=dp):=hp3.trans P2'.out;have PS3:Hid (x3.ps=ps):=hps3.trans PS2.out;have S5:=kh (s3.alloc (.cells #[.int .u64 j.1,.int .i64 j.2] 31));clear s3 hk3 hps3 hp3 HPU S4;go_upto_region 17 with fail
    obtain ⟨W3,HW3⟩:∃ W3,Hid (w3.alloc (.cells #[.int .u64 j.1,.int .i64 j.2] 31)=W3):=⟨_,rfl⟩;rw [HW3.out] at S5;rw [HW3.out];clear HW3;have k0:=(S5.out.cell 8 rfl).cell 0;have k1:=(S5.out.cell 8 rfl).cell 1;have HPR:=kh (rPutT_S S5.out (r:=rm2) (by simp [SR.obs]) M2.out d bs (S5.out.get 4 (o:=bufOb d bs) rfl) HX.out (by have:=M2.out.few;omega));rw [HDL.out] at HPR;go_wp2_with (go_at_call 36;(with_reducible refine HPR.out.mono ?_);refine halt_ ?_)
    rintro e w5 ⟨r',rfl,s5,hR'⟩;have M3:=kh hR';have z0:=(s5.cell 9 rfl).cell 0;have z1:=(s5.cell 9 rfl).cell 1;have f0:=(s5.cell 9 rfl).frozen 0;have f1:=(s5.cell 9 rfl).frozen 1;have S6:=kh ((s5.setAt 9 rfl 0 (.slice r'.A r'.E.length r'.c)).setAt 9 rfl 1 (.slice r'.B r'.E.length r'.k));clear s5 hR' HPR S5 k0 k1;have S7:Hid (SW w.heap.size w (kpL x3 rs r' g7 g8 tg A cap L (n2+textN L n2+1) l) _):=SW.few (pre:=[_,_,_,_,_,_,_,_,_,_,_]) S6.out [1,2,3,4,6,0,8,9,10] (n:=11) rfl (by decide) (by decide);clear S6;go_wp2_with fail
    go_roundw
    case rel=>exact ⟨i,n2+textN L n2+1,x3,P2++[bs],r',by go_num,by omega,by omega,PS3.out,P3.out,K3.out,M3.out,S7.out⟩
    simp [intOf]
   | zero=>
    have hn2:n2<=n+20:=by omega
    have HN:=kh (Next_x S3.out 8 rfl 2 (by omega) (by omega));obtain ⟨v,HV⟩:∃ v,Hid (tnext L n2 2=v):=⟨_,rfl⟩;rw [HV.out] at HN;go_upto_if 77 with (go_at_call 33;(with_reducible refine HN.out.mono ?_);rintro e w6 ⟨rfl,s8⟩;have S8:Hid (SW w.heap.size w (kpL x2 rs rm2 g7 g8 tg A cap L (n2+1) l) w6):=s8;clear s8 HN S3)
    go_cut [] from 75 to 82 (fun w'=>∃ (n3:Nat) (x3:SR),n3<=n+22/\x3.ps=ps/\x3.p=dp/\KpI x3 cs P2/\SW w.heap.size w (kpL x3 rs rm2 g7 g8 tg A cap L n3 l) w')
    case first=>
     by_cases hv:v=0
     · subst hv;have HN:=kh (Next_x S8.out 8 rfl 7 (by omega) (by omega));obtain ⟨hv0,hv1⟩:=tnext_in L (n2+1) 7;have hv1:=hv1 (by omega);obtain ⟨u,HU⟩:∃ u,Hid (tnext L (n2+1) 7=u):=⟨_,rfl⟩;rw [HU.out] at HN hv0 hv1;go_wp2_with (go_at_call 33;(with_reducible refine HN.out.mono ?_);refine halt_ ?_)
       rintro e w3 ⟨rfl,s9⟩;have S9:Hid (SW w.heap.size w (kpL x2 rs rm2 g7 g8 tg A cap L (n2+2) l) w3):=s9;have HFU:=kh (Fuse_K S9.out K2.out (1+u) (by omega));rw [P2'.out] at HFU;clear s9 HN S8;go_wp2_with (go_at_call 50;(with_reducible refine HFU.out.mono ?_);refine halt_ ?_)
       rintro e w4 ⟨rfl,x3,s9,hk3,hps3,hp3,_⟩;have S8:=kh s9;have K3:=kh hk3;have P3:Hid (x3.p=dp):=by first | exact hp3 | exact hp3.trans P2'.out
       have PS3:Hid (x3.ps=ps):=hps3.trans PS2.out;clear s9 hk3 hps3 hp3 HFU S9;go_wp2_with fail
       go_meet;exact ⟨n2+2,x3,by omega,PS3.out,P3.out,K3.out,S8.out⟩
     have hv2:(v==0)=false:=by simpa using hv
     go_wp2_with fail
     go_meet;exact ⟨n2+1,x2,by omega,PS2.out,P2'.out,K2.out,S8.out⟩
    obtain ⟨n3,x3,hn3,hps3,hp3,hk3,hs⟩:=hcut;have K3:=kh hk3;have P3:=kh hp3;have PS3:=kh hps3;have S4:=kh hs;clear hk3 hp3 hps3 hs S8 K2 P2' PS2 HV;have HN:=kh (Next_x S4.out 8 rfl 3 (by omega) (by omega));obtain ⟨v,HV⟩:∃ v,Hid (tnext L n3 3=v):=⟨_,rfl⟩;rw [HV.out] at HN;go_upto_if 85 with (go_at_call 33;(with_reducible refine HN.out.mono ?_);rintro e w6 ⟨rfl,s8⟩;have S8:Hid (SW w.heap.size w (kpL x3 rs rm2 g7 g8 tg A cap L (n3+1) l) w6):=s8;clear s8 HN S4)
    go_cut [14] from 83 to 113 (fun s14 w'=>∃ (f:Int) (n4:Nat) (x4:SR) (S4 P4:List (List UInt8)) (rs4 rm4:R3),s14= .int .i64 f/\n4<=n+50/\x4.ps=ps/\x4.p=dp/\RTX rm4 P4/\RTX rs4 S4/\EndI f x4 S4 P4/\SW w.heap.size w (kpL x4 rs4 rm4 g7 g8 tg A cap L n4 l) w')
    case first=>
     by_cases hv:v=0
     · subst hv;have k0:=(S8.out.cell 7 rfl).cell 0;have k1:=(S8.out.cell 7 rfl).cell 1;have HSO:=kh (some41 S8.out 8 rfl (r:=rm2) (fun n'=>by simp [SR.obs]) M2.out (by omega));go_wp2_with (go_at_call 41;(with_reducible refine HSO.out.mono ?_);refine halt_ ?_)
       rintro e w4 ⟨A1,c1,ids,n4,rfl,hl3,hok,hn4,s5⟩;have S5:Hid (SW w.heap.size w (x3.obs (riOb A1 ids::r3Ob rs::r3Ob rm2::cellOb g7 54 #[.slice rs.A rs.E.length rs.c,.slice rs.B rs.E.length rs.k]::cellOb g8 54 #[.slice rm2.A rm2.E.length rm2.c,.slice rm2.B rm2.E.length rm2.k]::tpOb tg A cap L n4::l)) w4):=SW.behind s5;have HRM:=kh (Rem_K S5.out K3.out A1 c1 (ids:=ids) (List.mem_cons_self ..) hok (by omega));rw [PS3.out] at HRM;clear s5 HSO S8 k0 k1 hok;go_wp2_with (go_at_call 25;(with_reducible refine HRM.out.mono ?_);refine halt_ ?_)
       rintro e w5 (⟨nr,rfl,x4,cs4,s6,hk4,hc4,hps4,hp4⟩ | ⟨rfl,x4,s6,hd4,hps4,hp4,ho4,hl4⟩)
       · have S6:=kh s6;have P4:Hid (x4.p=dp):=hp4.trans P3.out;have PS4:Hid (x4.ps=ps):=hps4.trans PS3.out
         have E4:Hid (EndI 0 x4 (S.filter fun t=> !decide (fpOf t∈ids)) (P2.filter fun t=> !decide (fpOf t∈ids))):=.inl ⟨rfl,cs4,hk4,fun c hc=>by
          obtain ⟨h1,h2⟩:=List.mem_filter.1 hc;exact hc4 c (C1.out c h1) (by simpa using h2)⟩
         clear s6 hk4 hc4 hps4 hp4 HRM S5 K3 P3 PS3;have k0:=(S6.out.cell 7 rfl).cell 0;have k1:=(S6.out.cell 7 rfl).cell 1;have HRR:=kh (rRemove_S S6.out (r:=rs) (by simp [SR.obs]) (IA:=A1) (ids:=ids) (by simp [SR.obs]) c1 (by omega));obtain ⟨cn,HCN⟩:∃ cn:Int,Hid (((cntE rs.E ids:Nat):Int)=cn):=⟨_,rfl⟩;rw [HCN.out] at HRR;go_wp2_with (go_at_call 42;(with_reducible refine HRR.out.mono ?_);refine halt_ ?_)
         rintro e w6 ⟨r2,hE,rfl,s7⟩;have R2:=kh (R1.out.remL hE);have z0:=(s7.cell 8 rfl).cell 0;have z1:=(s7.cell 8 rfl).cell 1;have f0:=(s7.cell 8 rfl).frozen 0;have f1:=(s7.cell 8 rfl).frozen 1;have S7:=kh ((s7.setAt 8 rfl 0 (.slice r2.A r2.E.length r2.c)).setAt 8 rfl 1 (.slice r2.B r2.E.length r2.k));clear s7 HRR HCN S6 k0 k1 hE;have S9:Hid (SW w.heap.size w (x4.obs (riOb A1 ids::r3Ob r2::r3Ob rm2::cellOb g7 54 #[.slice r2.A r2.E.length r2.c,.slice r2.B r2.E.length r2.k]::cellOb g8 54 #[.slice rm2.A rm2.E.length rm2.c,.slice rm2.B rm2.E.length rm2.k]::tpOb tg A cap L n4::l)) _):=SW.few (pre:=[_,_,_,_,_,_,_,_,_,_,_]) S7.out [1,2,3,4,5,0,7,8,9,10] (n:=11) rfl (by decide) (by decide);clear S7;go_upto_if 102 with fail
         generalize World.setCell (World.setCell _ _ _) _ _=W7 at S9 |-; clear z0 z1 f0 f1;have k0:=(S9.out.cell 8 rfl).cell 0;have k1:=(S9.out.cell 8 rfl).cell 1;have HRR:=kh (rRemove_S S9.out (r:=rm2) (by simp [SR.obs]) (IA:=A1) (ids:=ids) (by simp [SR.obs]) c1 (by omega));obtain ⟨cn,HCN⟩:∃ cn:Int,Hid (((cntE rm2.E ids:Nat):Int)=cn):=⟨_,rfl⟩;rw [HCN.out] at HRR;go_wp2_with (go_at_call 42;(with_reducible refine HRR.out.mono ?_);refine halt_ ?_)
         rintro e w8 ⟨r3,hE,rfl,s7⟩;have M3:=kh (M2.out.remL hE);have z0:=(s7.cell 9 rfl).cell 0;have z1:=(s7.cell 9 rfl).cell 1;have f0:=(s7.cell 9 rfl).frozen 0;have f1:=(s7.cell 9 rfl).frozen 1;have S7:=kh ((s7.setAt 9 rfl 0 (.slice r3.A r3.E.length r3.c)).setAt 9 rfl 1 (.slice r3.B r3.E.length r3.k));clear s7 HRR HCN S9 k0 k1 hE;have S9:Hid (SW w.heap.size w (kpL x4 r2 r3 g7 g8 tg A cap L n4 l) _):=SW.few (pre:=[_,_,_,_,_,_,_,_,_,_,_]) S7.out [1,2,3,4,6,0,8,9,10] (n:=11) rfl (by decide) (by decide);clear S7;go_wp2_with fail
         go_meet;exact ⟨0,n4,x4,_,_,r2,r3,rfl,by omega,PS4.out,P4.out,M3.out,R2.out,E4.out,S9.out⟩
       have S6:=kh s6;have P4:Hid (x4.p=dp):=hp4.trans P3.out;have PS4:Hid (x4.ps=ps):=hps4.trans PS3.out
       have E4:Hid (EndI 303 x4 (S.filter fun t=> !decide (fpOf t∈ids)) P2):=.inr ⟨rfl,hd4,ho4,hl4.mono (fun c hc=>by
        obtain ⟨h1,h2⟩:=List.mem_filter.1 hc;exact List.mem_filter.2 ⟨C1.out c h1,h2⟩) (fun _ h=>h)⟩
       clear s6 hd4 ho4 hl4 hps4 hp4 HRM S5 K3 P3 PS3;have k0:=(S6.out.cell 7 rfl).cell 0;have k1:=(S6.out.cell 7 rfl).cell 1;have HRR:=kh (rRemove_S S6.out (r:=rs) (by simp [SR.obs]) (IA:=A1) (ids:=ids) (by simp [SR.obs]) c1 (by omega));obtain ⟨cn,HCN⟩:∃ cn:Int,Hid (((cntE rs.E ids:Nat):Int)=cn):=⟨_,rfl⟩;rw [HCN.out] at HRR;go_wp2_with (go_at_call 42;(with_reducible refine HRR.out.mono ?_);refine halt_ ?_)
       rintro e w6 ⟨r2,hE,rfl,s7⟩;have R2:=kh (R1.out.remL hE);have z0:=(s7.cell 8 rfl).cell 0;have z1:=(s7.cell 8 rfl).cell 1;have f0:=(s7.cell 8 rfl).frozen 0;have f1:=(s7.cell 8 rfl).frozen 1;have S7:=kh ((s7.setAt 8 rfl 0 (.slice r2.A r2.E.length r2.c)).setAt 8 rfl 1 (.slice r2.B r2.E.length r2.k));clear s7 HRR HCN S6 k0 k1 hE;have S9:Hid (SW w.heap.size w (kpL x4 r2 rm2 g7 g8 tg A cap L n4 l) _):=SW.few (pre:=[_,_,_,_,_,_,_,_,_,_,_]) S7.out [1,2,3,4,0,7,8,9,10] (n:=11) rfl (by decide) (by decide);clear S7;go_wp2_with fail
       go_meet;exact ⟨303,n4,x4,_,_,r2,rm2,rfl,by omega,PS4.out,P4.out,M2.out,R2.out,E4.out,S9.out⟩
     have hv2:(v==0)=false:=by simpa using hv
     have HFL:=kh (Flush_K S8.out K3.out);rw [PS3.out] at HFL;go_wp2_with (go_at_call 35;(with_reducible refine HFL.out.mono ?_);refine halt_ ?_)
     rintro e w5 (⟨rfl,x4,cs4,s6,hk4,hc4,hps4,hp4⟩ | ⟨rfl,x4,s6,hd4,hps4,hp4,ho4,hl4⟩)
     · have S6:Hid (SW w.heap.size w (kpL x4 rs rm2 g7 g8 tg A cap L (n3+1) l) w5):=s6;have P4:Hid (x4.p=dp):=hp4.trans P3.out;have PS4:Hid (x4.ps=ps):=hps4.trans PS3.out;have E4:Hid (EndI 0 x4 P2 P2):=.inl ⟨rfl,cs4,hk4,hc4⟩;clear s6 hk4 hc4 hps4 hp4 HFL S8 K3 P3 PS3;have k0:=(S6.out.cell 7 rfl).cell 0;have k1:=(S6.out.cell 7 rfl).cell 1;have z0:=(S6.out.cell 6 rfl).cell 0;have z1:=(S6.out.cell 6 rfl).cell 1;have f0:=(S6.out.cell 6 rfl).frozen 0;have f1:=(S6.out.cell 6 rfl).frozen 1;have S7:=kh (((SW.dup S6.out (o:=r3Ob rm2) (by simp [SR.obs]) (fun i h=>h)).setAt 7 rfl 0 (.slice rm2.A rm2.E.length rm2.c)).setAt 7 rfl 1 (.slice rm2.B rm2.E.length rm2.k));clear S6;have S9:Hid (SW w.heap.size w (kpL x4 rm2 rm2 g7 g8 tg A cap L (n3+1) l) _):=SW.few (pre:=[_,_,_,_,_,_,_,_,_,_]) S7.out [1,2,3,4,0,6,7,8,9] (n:=10) rfl (by decide) (by decide);clear S7;go_wp2_with fail
       go_meet;exact ⟨0,n3+1,x4,P2,P2,rm2,rm2,rfl,by omega,PS4.out,P4.out,M2.out,M2.out,E4.out,S9.out⟩
     have S6:Hid (SW w.heap.size w (kpL x4 rs rm2 g7 g8 tg A cap L (n3+1) l) w5):=s6;have P4:Hid (x4.p=dp):=hp4.trans P3.out;have PS4:Hid (x4.ps=ps):=hps4.trans PS3.out;have E4:Hid (EndI 303 x4 S P2):=.inr ⟨rfl,hd4,ho4,hl4.mono C1.out (fun _ h=>h)⟩;clear s6 hd4 ho4 hl4 hps4 hp4 HFL S8 K3 P3 PS3;go_wp2_with fail
     go_meet;exact ⟨303,n3+1,x4,S,P2,rs,rm2,rfl,by omega,PS4.out,P4.out,M2.out,R1.out,E4.out,S6.out⟩
    obtain ⟨f,n4,x4,S4,P4,rs4,rm4,rfl,hn4,hps4,hp4,hrm4,hrs4,he4,hs⟩:=hcut;have E4:=kh he4;have PX4:=kh hp4;have PS4:=kh hps4;have M4:=kh hrm4;have R4:=kh hrs4;have S5:=kh hs;clear he4 hp4 hps4 hrm4 hrs4 hs S8 K3 P3 PS3 HV M2 R1 C1;go_upto_region 32 with fail
    go_cut [126] from 114 to 126 (fun s126 w'=>s126= .bool false/\SW w.heap.size w (kpL x4 rs4 rm4 g7 g8 tg A cap L n4 l) w')
    case first=>
     have HDE:=kh (Dead_any S5.out.1);rw [PS4.out] at HDE;rcases E4.out with ⟨rfl,cs4,hk4,_⟩ | ⟨rfl,hd4,_,_⟩
     · have hd4:x4.dead=false:=hk4.live;rw [hd4] at HDE;clear hk4 hd4;go_wp2_with (go_at_call 47;(with_reducible refine HDE.out.mono ?_);refine halt_ ?_)
       rintro e w9 ⟨rfl,rfl⟩;go_wp2_with fail
       go_meet;exact ⟨rfl,S5.out⟩
     rw [hd4] at HDE;clear hd4;go_wp2_with (go_at_call 47;(with_reducible refine HDE.out.mono ?_);refine halt_ ?_)
     rintro e w9 ⟨rfl,rfl⟩;go_wp2_with fail
     go_meet;exact ⟨rfl,S5.out⟩
    obtain ⟨rfl,hs⟩:=hcut;have S6:=kh hs;clear hs S5;have HFU:=kh (Fuse_S S6.out (k:=0) rfl 0 (by omega));rw [PX4.out] at HFU;go_wp2_with (go_at_call 50;(with_reducible refine HFU.out.mono ?_);refine halt_ ?_)
    rintro e w10 ⟨rfl,r',s7⟩;obtain ⟨x5,HX5⟩:∃ x5:SR,Hid (({ x4 with r:=r',s:={ x4.s with f:=max 0 0 } }:SR)=x5):=⟨_,rfl⟩;have PX5:Hid (x5.p=dp):=by rw [Hid, <- HX5.out];exact PX4.out
    have S7:Hid (SW w.heap.size w (kpL x5 rs4 rm4 g7 g8 tg A cap L n4 l) w10):=by
     rw [Hid, <- HX5.out];rw [<- PX4.out] at s7;exact s7
    have E5:Hid (EndI f x5 S4 P4):=by rw [Hid, <- HX5.out];exact E4.out.fuse r' _
    have PS5:Hid (x5.ps=ps):=by rw [Hid, <- HX5.out];exact PS4.out
    clear s7 HFU S6 E4 PX4 PS4 HX5;go_upto_region 35 with fail
    go_cut [135] from 129 to 135 (fun s135 w'=>∃ (vb:Bool) (n5:Nat),s135= .bool vb/\n5<=n+51/\(vb=true->f=0)/\SW w.heap.size w (kpL x5 rs4 rm4 g7 g8 tg A cap L n5 l) w')
    case first=>
     have HN:=kh (Next_x S7.out 8 rfl 2 (by omega) (by omega));obtain ⟨v,HV⟩:∃ v,Hid (tnext L n4 2=v):=⟨_,rfl⟩;rw [HV.out] at HN;rcases E5.out with ⟨rfl,_⟩ | ⟨rfl,_⟩
     · go_wp2_with (go_at_call 33;(with_reducible refine HN.out.mono ?_);refine halt_ ?_)
       rintro e w11 rfl s8;have S8:Hid (SW w.heap.size w (kpL x5 rs4 rm4 g7 g8 tg A cap L (n4+1) l) w11):=s8;clear s8 HN;go_wp2_with fail
       go_meet;exact ⟨_,n4+1,rfl,by omega,(fun _=>by first | trivial | rfl),S8.out⟩
     go_wp2_with fail
     go_meet;exact ⟨false,n4,rfl,by omega,(fun h=>by cases h),S7.out⟩
    obtain ⟨vb,n5,rfl,hn5,hvb,hs⟩:=hcut;have S8:=kh hs;have HVB:=kh hvb;clear hs S7 hvb;cases vb with
    | true=>
     have hf0:=HVB.out rfl;subst hf0;rcases E5.out with ⟨_,cs5,hk5,hc5⟩ | ⟨h,_⟩
     · have K5:=kh hk5;have C5:=kh hc5;clear hk5 hc5;go_wp2_with fail
       go_roundw
       case rel=>exact ⟨m,n5,x5,cs5,P4,S4,rs4,rm4,by rw [PS5.out],by go_num,by omega,by omega,PX5.out,K5.out,M4.out,R4.out,C5.out,S8.out⟩
       simp [intOf]
     exact absurd h (by decide)
    | false=>
     obtain ⟨hl5,ho5⟩:=E5.out.lost;have L5:=kh hl5;have O5:=kh ho5;clear hl5 ho5 HVB E5 PS5;have HN1:=kh (Next_x S8.out 8 rfl 6 (by omega) (by omega));obtain ⟨hv0,hv1⟩:=tnext_in L n5 6;have hv1:=hv1 (by omega);obtain ⟨a,HA6⟩:∃ a,Hid (tnext L n5 6=a):=⟨_,rfl⟩;rw [HA6.out] at HN1 hv0 hv1;go_wp2_with (go_at_call 33;(with_reducible refine HN1.out.mono ?_);refine halt_ ?_)
     rintro e w11 ⟨rfl,s9⟩;have S9:Hid (SW w.heap.size w (kpL x5 rs4 rm4 g7 g8 tg A cap L (n5+1) l) w11):=s9;clear s9 HN1 S8;have HN2:=kh (Next_x S9.out 8 rfl 40 (by omega) (by omega));obtain ⟨hu0,hu1⟩:=tnext_in L (n5+1) 40;have hu1:=hu1 (by omega);obtain ⟨c,HC6⟩:∃ c,Hid (tnext L (n5+1) 40=c):=⟨_,rfl⟩;rw [HC6.out] at HN2 hu0 hu1;go_wp2_with (go_at_call 33;(with_reducible refine HN2.out.mono ?_);refine halt_ ?_)
     rintro e w12 ⟨rfl,s10⟩;have S10:Hid (SW w.heap.size w (kpL x5 rs4 rm4 g7 g8 tg A cap L (n5+2) l) w12):=s10;clear s10 HN2 S9;have HLO:=kh (Lose_S S10.out (k:=0) rfl (a-1) (c-1) (by have:=O5.out;omega) (by omega));rw [PX5.out] at HLO;go_wp2_with (go_at_call 51;(with_reducible refine HLO.out.mono ?_);refine halt_ ?_)
     rintro e w13 ⟨rfl,r1,s11⟩;have S11:=kh s11;clear s11 HLO S10;have HRE:=kh (Restart_S S11.out (k:=0) rfl (by simp [loseS,decideS]));go_wp2_with (go_at_call 52;(with_reducible refine HRE.out.mono ?_);refine halt_ ?_)
     rintro e w14 ⟨rfl,r2,s12⟩;rw [lost_s] at s12;obtain ⟨cs6,hd6,hs6,hp6⟩:=L5.out (a-1) (c-1);have S12:Hid (SW w.heap.size w (devOb dp r2 ⟨lossF x5.s (a-1) (c-1),[],false,0⟩::r3Ob rs4::r3Ob rm4::cellOb g7 54 #[.slice rs4.A rs4.E.length rs4.c,.slice rs4.B rs4.E.length rs4.k]::cellOb g8 54 #[.slice rm4.A rm4.E.length rm4.c,.slice rm4.B rm4.E.length rm4.k]::tpOb tg A cap L (n5+2)::l) w14):=SW.few (pre:=[_,_,_,_]) s12 [0] (n:=4) rfl (by decide) (by decide);have D6:=kh hd6;have SU6:=kh hs6;have MA6:=kh hp6;clear s12 hd6 hs6 hp6 HRE S11;have HOP:=kh (opened53 S12.out 4 rfl (by omega) HB0.out HSY.out rfl rfl D6.out);go_wp2_with (go_at_call 53;(with_reducible refine HOP.out.mono ?_);refine halt_ ?_)
     rintro e w15 ⟨x6,n6,rfl,hn6,hk6,hpx6,hw6,s13⟩;have S13:Hid (SW w.heap.size w (kpL x6 rs4 rm4 g7 g8 tg A cap L n6 l) w15):=s13;have K6:=kh hk6;have PX6:=kh hpx6;have HPE:=kh (Pending_L S13.out 0 hw6);clear s13 hk6 hpx6 hw6 HOP S12 D6 L5 O5 PX5;go_wp2_with (go_at_call 29;(with_reducible refine HPE.out.mono ?_);refine halt_ ?_)
     rintro e w16 ⟨rfl,rfl⟩;have HID:=kh (IDs_K S13.out K6.out);clear HPE;go_wp2_with (go_at_call 28;(with_reducible refine HID.out.mono ?_);refine halt_ ?_)
     rintro e w17 ⟨Ai,ci,ys,rfl,hy1,hy2,hy3,s14⟩;have Y1:=kh hy1;have Y2:=kh hy2;have S14:=kh ((s14.newCell 54 #[.slice none 0 0,.slice none 0 0]).newR3);clear s14 hy1 hy2 HID S13;go_upto_region 44 with fail
     generalize w17.alloc _=W17 at S14 |-; generalize w17.heap.size=g18 at S14 |-; have S15:Hid (SW w.heap.size w (x6.obs (r3Ob r30::cellOb g18 54 #[.slice r30.A r30.E.length r30.c,.slice r30.B r30.E.length r30.k]::riOb Ai ys::r3Ob rs4::r3Ob rm4::cellOb g7 54 #[.slice rs4.A rs4.E.length rs4.c,.slice rs4.B rs4.E.length rs4.k]::cellOb g8 54 #[.slice rm4.A rm4.E.length rm4.c,.slice rm4.B rm4.E.length rm4.k]::tpOb tg A cap L n6::l)) W17):=SW.front (pre:=[_,_,_,_,_,_,_]) S14.out [3,4,5,6,0,1,2] (n:=7) rfl (by decide);clear S14;go_wp2_with fail
     go_loopw [19] (fun s19 wr=>∃ (k:Nat) (N:List (List UInt8)) (rn:R3),s19= .int .i64 (k:Int)/\k<=ys.length/\RTX rn N/\(∀ t,t∈N↔t∈cs6/\fpOf t∈ys.take k)/\SW w.heap.size w (x6.obs (r3Ob rn::cellOb g18 54 #[.slice rn.A rn.E.length rn.c,.slice rn.B rn.E.length rn.k]::riOb Ai ys::r3Ob rs4::r3Ob rm4::cellOb g7 54 #[.slice rs4.A rs4.E.length rs4.c,.slice rs4.B rs4.E.length rs4.k]::cellOb g8 54 #[.slice rm4.A rm4.E.length rm4.c,.slice rm4.B rm4.E.length rm4.k]::tpOb tg A cap L n6::l)) wr) (fun s19 _=>ys.length-(intOf s19).toNat)
     case atStart=>exact ⟨0,[],r30,rfl,Nat.zero_le _,RTX.empty,fun t=>by simp,S15.out⟩
     obtain ⟨k,N,rn,rfl,hk,hrn,hN,hs⟩:=hrel;have RN:=kh hrn;have HNN:=kh hN;have S16:=kh hs;clear hrn hN hs S15;rename World=>wq;by_cases hlt:k<ys.length
     · obtain ⟨i,hik⟩:∃ i,ys.getD k id0=i:=⟨_,rfl⟩
       have him:i∈ys:=by
        rw [<- hik,zA,zC hlt];exact List.getElem_mem hlt
       have HTS:Hid (ys.take (k+1)=ys.take k++[i]):=by
        rw [Hid,List.take_succ_eq_append_getElem hlt, <- hik,zA,zC hlt];rfl
       have HIK:=kh hik;obtain ⟨t,ht6,hfp⟩:=Y1.out i him;have HT6:=kh ht6;have HFP:=kh hfp;have HTX:=kh (K6.out.tx.text t ht6);have HGE:=kh (Get_K S16.out K6.out ht6);rw [HFP.out] at HGE;obtain ⟨gI,rfl,a0,a1⟩:=S16.out.rowCell (A:=Ai) (ids:=ys) (by simp [SR.obs]) hlt hik;clear hik him ht6 hfp;go_wp2_with (go_at_call 30;(with_reducible refine HGE.out.mono ?_);refine halt_ ?_)
       rintro e2 w18 ⟨d,rfl,s17⟩;have S17:=kh s17;clear s17 HGE S16 a0 a1;obtain ⟨gI',e3,a0,a1⟩:=S17.out.rowCell (A:=some ⟨gI,0,none⟩) (ids:=ys) (by simp [SR.obs]) hlt HIK.out;injection e3 with e3;injection e3 with e3;subst e3;have hgI:=World.block_lt_of_cell? _ _ a0;have c0:=(S17.out.cell 11 rfl).cell 0;have c1:=(S17.out.cell 11 rfl).cell 1;have hg8:=(S17.out.cell 11 rfl).lt;obtain ⟨d2,hgv,hrb⟩:=M4.out.get (MA6.out t HT6.out) HTX.out;rw [HFP.out] at hgv;have hok8:R3Ok w18 rm4:=S17.out.get 9 (o:=r3Ob rm4) rfl;have HRG:=kh (fun q:Ext w18=>rGet_any (hok8.on (wext_below q)) i);rw [hgv] at HRG;have HRB:=kh hrb;clear hgv hrb hok8;go_upto_region 48 with fail
       refine wp_region_ext (by kernel_rfl) (by kernel_rfl) ?_;repeat (go_big_quiet_step ((go_at_call 45;exact ext_call (HRG.out _))))
       refine wpQuiet_nil ?_;intro w19 hb;have S18:=kh (S17.out.on hb);clear hb HRG S17 a0 a1 c0 c1 hgI hg8;have v1:=conv_rb (S18.out.get 4 (o:=bufOb d t) rfl);have v2:=conv_rb (HRB.out _ (S18.out.get 9 (o:=r3Ob rm4) rfl));go_upto_if 198 with fail
       clear v1 v2;have c0:=(S18.out.cell 6 rfl).cell 0;have c1:=(S18.out.cell 6 rfl).cell 1;have HPR:=kh (rPutT_S S18.out (r:=rn) (by simp [SR.obs]) RN.out d t (S18.out.get 4 (o:=bufOb d t) rfl) HTX.out (by have:=RN.out.few;omega));go_wp2_with (go_at_call 36;(with_reducible refine HPR.out.mono ?_);refine halt_ ?_)
       rintro e w20 ⟨rn',rfl,s19,hR'⟩;have RN2:=kh hR';have z0:=(s19.cell 7 rfl).cell 0;have z1:=(s19.cell 7 rfl).cell 1;have f0:=(s19.cell 7 rfl).frozen 0;have f1:=(s19.cell 7 rfl).frozen 1;have S19:=kh ((s19.setAt 7 rfl 0 (.slice rn'.A rn'.E.length rn'.c)).setAt 7 rfl 1 (.slice rn'.B rn'.E.length rn'.k));clear s19 hR' HPR S18 c0 c1;have S20:Hid (SW w.heap.size w (x6.obs (r3Ob rn'::cellOb g18 54 #[.slice rn'.A rn'.E.length rn'.c,.slice rn'.B rn'.E.length rn'.k]::riOb (some ⟨gI,0,none⟩) ys::r3Ob rs4::r3Ob rm4::cellOb g7 54 #[.slice rs4.A rs4.E.length rs4.c,.slice rs4.B rs4.E.length rs4.k]::cellOb g8 54 #[.slice rm4.A rm4.E.length rm4.c,.slice rm4.B rm4.E.length rm4.k]::tpOb tg A cap L n6::l)) _):=SW.few (pre:=[_,_,_,_,_,_,_,_,_]) S19.out [1,2,3,4,0,7,8] (n:=9) rfl (by decide) (by decide);clear S19;go_wp2_with fail
       go_roundw
       case rel=>
        refine ⟨k+1,N++[t],rn',by go_num,by omega,RN2.out,fun u=>?_,S20.out⟩;rw [HTS.out,List.mem_append,List.mem_append,HNN.out u];constructor
        · rintro (⟨h1,h2⟩ | h)
          · exact ⟨h1,.inl h2⟩
          have h:u=t:=by simpa using h
          rw [h];exact ⟨HT6.out,.inr (by rw [HFP.out];simp)⟩
        rintro ⟨h1,h2 | h2⟩
        · exact .inl ⟨h1,h2⟩
        have h2:fpOf u=i:=by simpa using h2
        right
        rw [text_inj (K6.out.tx.text u h1) HTX.out (h2.trans HFP.out.symm)];simp
       simp [intOf];omega
     obtain rfl:k=ys.length:=by omega
     have NN:Hid (∀ t,t∈N↔t∈cs6):=fun t=>by
      rw [HNN.out t,List.take_length];exact ⟨fun h=>h.1,fun h=>⟨h,Y2.out t h⟩⟩
     have hl4:=R4.out.few;clear HNN;go_wp2_with fail
     go_loopw [24] (fun s24 wr=>∃ (k:Nat),s24= .int .i64 (k:Int)/\k<=rs4.E.length/\SW w.heap.size w (x6.obs (r3Ob rn::cellOb g18 54 #[.slice rn.A rn.E.length rn.c,.slice rn.B rn.E.length rn.k]::riOb Ai ys::r3Ob rs4::r3Ob rm4::cellOb g7 54 #[.slice rs4.A rs4.E.length rs4.c,.slice rs4.B rs4.E.length rs4.k]::cellOb g8 54 #[.slice rm4.A rm4.E.length rm4.c,.slice rm4.B rm4.E.length rm4.k]::tpOb tg A cap L n6::l)) wr) (fun s24 _=>rs4.E.length-(intOf s24).toNat)
     case atStart=>exact ⟨0,rfl,Nat.zero_le _,S16.out⟩
     obtain ⟨k,rfl,hk2,hs⟩:=hrel;have S17:=kh hs;clear hs S16;rename World=>wp;by_cases hi:k<rs4.E.length
     · have c0:=(S17.out.cell 9 rfl).cell 0;obtain ⟨e,he⟩:∃ e,rs4.E.getD k re0=e:=⟨_,rfl⟩
       have hem:e∈rs4.E:=by
        rw [<- he,zA,zC hi];exact List.getElem_mem hi
       obtain ⟨gE,hA,hgE,a0,a1,_⟩:=R3Ok.chunk (S17.out.get 7 (o:=r3Ob rs4) rfl) hi he;rw [hA] at c0;obtain ⟨t,ht,e3⟩:=List.mem_map.1 ((R4.out.has e.id).1 (List.mem_map.2 ⟨e,hem,rfl⟩));have HHS:=kh (Has_K S17.out K6.out (SU6.out t ht));rw [e3] at HHS;clear ht e3 hem he hA;go_wp2_with (go_at_call 46;(with_reducible refine HHS.out.mono ?_);refine halt_ ?_)
       rintro e2 w18 ⟨rfl,hb⟩;have S18:=kh (S17.out.on hb);clear hb HHS S17 c0 a0 a1 hgE;go_wp2_with fail
       go_roundw
       case rel=>exact ⟨k+1,by go_num,by omega,S18.out⟩
       simp [intOf];omega
     obtain rfl:k=rs4.E.length:=by omega
     have c0:=(S17.out.cell 5 rfl).cell 0;have c1:=(S17.out.cell 5 rfl).cell 1;have z0:=(S17.out.cell 9 rfl).cell 0;have z1:=(S17.out.cell 9 rfl).cell 1;have y0:=(S17.out.cell 10 rfl).cell 0;have y1:=(S17.out.cell 10 rfl).cell 1;have f0:=(S17.out.cell 9 rfl).frozen 0;have f1:=(S17.out.cell 9 rfl).frozen 1;have f2:=(S17.out.cell 10 rfl).frozen 0;have f3:=(S17.out.cell 10 rfl).frozen 1;have hne:=S17.out.ne (i:=9) (j:=10) rfl rfl (by decide);have hn2:=S17.out.ne (i:=5) (j:=9) rfl rfl (by decide);have hn3:=S17.out.ne (i:=5) (j:=10) rfl rfl (by decide);have S18:=kh (((((SW.dup S17.out (o:=r3Ob rn) (by simp [SR.obs]) (fun i h=>h)).setAt 10 rfl 0 (.slice rn.A rn.E.length rn.c)).setAt 10 rfl 1 (.slice rn.B rn.E.length rn.k)).setAt 11 rfl 0 (.slice rn.A rn.E.length rn.c)).setAt 11 rfl 1 (.slice rn.B rn.E.length rn.k));have S19:Hid (SW w.heap.size w (kpL x6 rn rn g7 g8 tg A cap L n6 l) _):=SW.few (pre:=[_,_,_,_,_,_,_,_,_,_,_,_,_]) S18.out [1,2,3,4,0,5,10,11,12] (n:=13) rfl (by decide) (by decide);have S20:=kh S19.out.drew;clear S17 S18 S19;go_wp2_with fail
     go_region
     go_wp2_with fail
     go_roundw
     case rel=>exact ⟨m,n6,x6,cs6,N,N,rn,rn,rfl,by go_num,by omega,by omega,PX6.out,K6.out.as NN.out,RN.out,RN.out,fun c hc=>(NN.out c).1 hc,S20.out⟩
     simp [intOf]
end
end
section
open Go.RowKit Go.MapKept Go.ChangeMaps Go.Shelf Go.Sort
theorem Syn.pos {w:World} (h:Syn w):0<w.heap.size:=by
 obtain ⟨ev,h1,_⟩:=h;exact Lib.lt_of_cell h1
theorem law9 {A:Option Addr} {L:List Int} {n:Nat} (e:L.length=n) (cap:Nat) (w:World) (hr:RdT w w.heap.size A L) (hl:n<=9223372036854775807) (hS:Syn w):Calls Tryz.prog 9 #[.slice A n cap] w (fun e w'=>e= .returned (.bool true)/\Below w.heap.size w w'):=by
 subst e;exact law9_any (SW.startIn hr hl) (by simp) cap hS.pos hS
end
section
open Go.RowKit Go.ChangeShapes
theorem cell_lt {W:World} {b o:Nat} {v:Value} (h:W.cell? ⟨b,o,none⟩=some v):b<W.heap.size:=by
 rcases Nat.lt_or_ge b W.heap.size with h1 | h1
 · exact h1
 exfalso
 simp [World.cell?, Array.getElem?_eq_none h1] at h
theorem open_nums {H:Type} {enc:TypeId×Value->H} {W:World} {base:Nat} {spare:Nat->Bool} {held:Bool} {A:Option Addr} {len cap:Nat} {d:DataW H} {p:List MemPlace}
 (h:DataW.Trod enc Tryz.prog W base spare held 47 (.slice A len cap) d p):∃ xs:List Int,xs.length=len/\RdT W W.heap.size A xs/\len<=9223372036854775807:=by
 obtain ⟨fuel,hf⟩:=h;rcases Go.ChangeShapes.open_ints Tryz.underlying47 Tryz.underlying3 (by kernel_rfl) hf with ⟨hcs,_⟩ | ⟨a,l,c,zs,hcs,_,hl,hm,hz,_,hx,_⟩
 · simp [Value.cells] at hcs;obtain ⟨rfl,rfl,rfl⟩:=hcs;exact ⟨[],rfl,fun hp=>absurd hp (by simp),by omega⟩
 simp [Value.cells] at hcs;obtain ⟨rfl,rfl,rfl⟩:=hcs;have hlz:len<=zs.length:=by rw [hz];split<;>omega
 unfold maxLen at hm;refine ⟨zs.take len,by rw [zB];omega,fun hp=>?_,by omega⟩;have hp':0<len:=by rw [zB] at hp;omega
 obtain ⟨b,off,spot⟩:=a;have h0:=hx 0 (by omega);have hspot:spot=none:=by simpa [Addr.add] using World.cell?_spot h0
 subst hspot;have hadd:∀ j,(⟨b,off,none⟩:Addr).add j=⟨b,off+j,none⟩:=fun j=>by unfold Addr.add;split<;>simp_all
 rw [hadd] at h0;refine ⟨b,off,rfl,cell_lt h0,fun j hj=>?_⟩;rw [zB] at hj;have:=hx j (by omega);rw [hadd] at this;rw [this,zA,zA,List.getElem?_take_of_lt (by omega)]
end
end Go.Proofs.YteabgcollokgjaaGreatDoor
