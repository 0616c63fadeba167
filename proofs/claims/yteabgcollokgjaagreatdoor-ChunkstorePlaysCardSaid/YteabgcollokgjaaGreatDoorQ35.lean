/- Q -/
import Derived.Test.YteabgcollokgjaaGreatDoorQ34
import Derived.ChangeSlices
import Derived.ProofKit
set_option linter.unusedSimpArgs false
set_option linter.unusedVariables false
set_option maxRecDepth 100000
set_option maxHeartbeats 32000000
open Go.Lib (hid)
open List renaming mem_cons_self → zA,length_take → zB
namespace Go.Proofs.YteabgcollokgjaaGreatDoor
section
open Go.RowKit Go.MapKept Go.ChangeMaps Go.Shelf Go.Sort
attribute [local go_sem] wext_cell
section
variable {w:World} {l:List Ob}
theorem law7_any (h:SW w.heap.size w l w) {A:Option Addr} {L:List Int} (hin:inOb A L∈l) (cap:Nat):Calls Tryz.prog 7 #[.slice A L.length cap] w (fun e w'=>e= .returned (.bool true)/\Below w.heap.size w w'):=by
 have S2:=hid (h.newTape hin cap (H:=w.heap.size) rfl);clear h hin;go_enter Tryz.func7,Tryz.ntmps7;go_upto_region 2 with fail
 obtain ⟨W2,HW2⟩:∃ W2,Hid (w.alloc (.cells #[.slice A L.length cap,.int .i64 0] 50)=W2):=⟨_,rfl⟩;obtain ⟨tg,HTG⟩:∃ tg,Hid (w.heap.size=tg):=⟨_,rfl⟩;have S2:Hid (SW w.heap.size w (tpOb tg A cap L 0::l) W2):=by rw [Hid, <- HW2.out, <- HTG.out];exact S2.out
 rw [HW2.out,HTG.out];have HNW:=hid (New_S S2.out);go_wp2_with (go_at_call 21;(with_reducible refine HNW.out.mono ?_);refine halt_ ?_)
 rintro e w3 ⟨rp,rfl,s3⟩;obtain ⟨dp,HDP⟩:∃ dp,Hid (W2.heap.size+2=dp):=⟨_,rfl⟩;rw [HDP.out] at s3;rw [HDP.out];have S3:=hid s3;have HO:=hid (Open_empty s3.1 nmS nmS_ok rfl (fun _=>rfl));clear s3 HNW HDP S2 HW2;go_wp2_with (go_at_call 20;(with_reducible refine HO.out.mono ?_);refine halt_ ?_)
 rintro e w4 ⟨H,hH,rfl,hs⟩;have S4:=hid (S3.out.then hs);have PI0:=hid (PlI.start (p:=dp) (H:=H) (rp:=rp));have HKN:=hid (known33_any w4);clear hs hH HO S3;obtain ⟨ps,HPS⟩:∃ ps,Hid (H+2=ps):=⟨_,rfl⟩;rw [HPS.out];go_wp2_with (go_at_call 22;(with_reducible refine HKN.out.mono ?_);refine halt_ ?_)
 rintro e w5 ⟨rfl,hb5⟩;have S5:=hid (S4.out.on hb5);clear hb5 HKN S4;go_upto_region 7 with fail
 have S6:Hid (SW w.heap.size w (trL (openedS dp rp St.new nmS H) r30 w5.heap.size tg A cap L 0 l) (w5.alloc (.cells #[.slice none 0 0,.slice none 0 0] 54))):=(S5.out.newCell 54 #[.slice none 0 0,.slice none 0 0]).newR3.toTr;obtain ⟨W6,HW6⟩:∃ W6,Hid (w5.alloc (.cells #[.slice none 0 0,.slice none 0 0] 54)=W6):=⟨_,rfl⟩;obtain ⟨g7,HG7⟩:∃ g7,Hid (w5.heap.size=g7):=⟨_,rfl⟩;rw [HW6.out,HG7.out] at S6;rw [HW6.out,HG7.out];clear HW6 HG7 S5;have HN:=hid (Next_x S6.out 6 rfl 24 (by omega) (by omega));simp only [List.set_cons_succ,List.set_cons_zero] at HN;obtain ⟨hk0,hk1⟩:=tnext_in L 0 24;have hk1:=hk1 (by omega);obtain ⟨K,HK⟩:∃ K:Nat,Hid (tnext L 0 24=(K:Int)):=⟨(tnext L 0 24).toNat,by rw [Hid];omega⟩;rw [HK.out] at hk0 hk1 HN;go_wp2_with (go_at_call 33;(with_reducible refine HN.out.mono ?_);refine halt_ ?_)
 rintro e w7 ⟨rfl,s7⟩;have S7:Hid (SW w.heap.size w (trL (openedS dp rp St.new nmS H) r30 g7 tg A cap L 1 l) w7):=s7;have HPS0:Hid ((openedS dp rp St.new nmS H).ps=ps):=HPS.out;clear s7 HN S6 HPS;go_wp2_with fail
 rename World=>wz;go_loopw [5,6,8] (fun s5 s6 s8 wr=>∃ (m n p:Nat) (x:SR) (r:R3),s5=vPtr p/\s6= .int .i64 0/\x.ps=p/\s8= .int .i64 (m:Int)/\m<=K/\n+32*m<=1+32*K/\PlI dp (K-m) x r/\SW w.heap.size w (trL x r g7 tg A cap L n l) wr) (fun _ _ s8 _=>(intOf s8).toNat)
 case atStart=>exact ⟨K,1,ps,_,_,rfl,rfl,HPS0.out,rfl,Nat.le_refl _,Nat.le_refl _,PI0.out.more (Nat.zero_le _),S7.out⟩
 obtain ⟨m,n,ps,x,r,rfl,rfl,hps,rfl,hmK,hn,hpi,hs⟩:=hrel;have HPS:=hid hps;have PI:=hid hpi;have S0:=hid hs;clear hps hpi hs S7 HPS0 PI0;cases m with
 | zero=>
  go_wp2_with fail
  go_ret;exact ⟨rfl,S0.out.2⟩
 | succ m=>
  have HNX:=hid (Next_x S0.out 6 rfl 8 (by omega) (by omega));obtain ⟨hv0,hv1⟩:=tnext_in L n 8;have hv1:=hv1 (by omega);obtain ⟨v,HV⟩:∃ v,Hid (tnext L n 8=v):=⟨_,rfl⟩;rw [HV.out] at HNX hv0 hv1;go_wp2_with (go_at_call 33;(with_reducible refine HNX.out.mono ?_);refine halt_ ?_)
  rintro e w2 ⟨rfl,s1⟩;have S1:Hid (SW w.heap.size w (trL x r g7 tg A cap L (n+1) l) w2):=s1;clear s1 HNX S0 HV;have hv8:v=0∨v=1∨v=2∨v=3∨v=4∨v=5∨v=6∨v=7:=by omega
  clear hv0 hv1;rcases hv8 with rfl | rfl | rfl | rfl | rfl | rfl | rfl | rfl
  · have HFL:=hid (Flush_X S1.out PI.out (by omega));rw [HPS.out] at HFL;go_wp2_with (go_at_call 35;(with_reducible refine HFL.out.mono ?_);refine halt_ ?_)
    rintro e w4 ⟨rfl,x2,s5,hc2,hfl⟩;have FL:=hid hfl;have C3:=hid hc2;have S5:Hid (SW w.heap.size w (trL x2 r g7 tg A cap L (n+1) l) w4):=s5;have HPS2:Hid (x2.ps=ps):=hfl.ps.trans HPS.out;clear s5 hc2 hfl HFL S1;have k0:=(S5.out.cell 5 rfl).cell 0;have k1:=(S5.out.cell 5 rfl).cell 1;have HPR:=hid (rFlush_X S5.out (r:=r) (by simp [SR.obs]));go_wp2_with (go_at_call 43;(with_reducible refine HPR.out.mono ?_);refine halt_ ?_)
    rintro e w5 ⟨r2,rfl,s5,hE,hR⟩;have PI2:=hid (PI.out.flush C3.out FL.out hE hR);have z0:=(s5.cell 6 rfl).cell 0;have z1:=(s5.cell 6 rfl).cell 1;have f0:=(s5.cell 6 rfl).frozen 0;have f1:=(s5.cell 6 rfl).frozen 1;have S6:=hid ((s5.setAt 6 rfl 0 (.slice r2.A r2.E.length r2.c)).setAt 6 rfl 1 (.slice r2.B r2.E.length r2.k));clear s5 hE hR HPR S5 k0 k1;have S7:Hid (SW w.heap.size w (trL x2 r2 g7 tg A cap L (n+1) l) _):=SW.few (pre:=[_,_,_,_,_,_,_,_]) S6.out [1,2,3,4,0,6,7] (n:=8) rfl (by decide) (by decide);clear S6;have k0:=(S7.out.cell 5 rfl).cell 0;have k1:=(S7.out.cell 5 rfl).cell 1;have HIS:=hid (is_X S7.out PI2.out HPS2.out (zA ..));go_wp2_with (go_at_call 40;(with_reducible refine HIS.out.mono ?_);refine halt_ ?_)
    rintro e w9 ⟨rfl,s9⟩;have S8:Hid (SW w.heap.size w (trL x2 r2 g7 tg A cap L (n+1) l) w9):=s9;have HDE:=hid (dead_X S8.out PI2.out HPS2.out);clear s9 HIS S7 k0 k1;go_wp2_with (go_at_call 47;(with_reducible refine HDE.out.mono ?_);refine halt_ ?_)
    rintro e w10 ⟨rfl,rfl⟩;clear HDE;go_wp2_with fail
    go_roundw
    case rel=>exact ⟨m,(n+1),_,x2,r2,rfl,rfl,HPS2.out,by go_num,by omega,by omega,PI2.out.more (by omega),S8.out⟩
    simp [intOf]
  · have HFL:=hid (Flush_X S1.out PI.out (by omega));rw [HPS.out] at HFL;go_wp2_with (go_at_call 35;(with_reducible refine HFL.out.mono ?_);refine halt_ ?_)
    rintro e w4 ⟨rfl,x2,s5,hc2,hfl⟩;have FL:=hid hfl;have C3:=hid hc2;have S5:Hid (SW w.heap.size w (trL x2 r g7 tg A cap L (n+1) l) w4):=s5;have HPS2:Hid (x2.ps=ps):=hfl.ps.trans HPS.out;clear s5 hc2 hfl HFL S1;have k0:=(S5.out.cell 5 rfl).cell 0;have k1:=(S5.out.cell 5 rfl).cell 1;have HPR:=hid (rFlush_X S5.out (r:=r) (by simp [SR.obs]));go_wp2_with (go_at_call 43;(with_reducible refine HPR.out.mono ?_);refine halt_ ?_)
    rintro e w5 ⟨r2,rfl,s5,hE,hR⟩;have PI2:=hid (PI.out.flush C3.out FL.out hE hR);have z0:=(s5.cell 6 rfl).cell 0;have z1:=(s5.cell 6 rfl).cell 1;have f0:=(s5.cell 6 rfl).frozen 0;have f1:=(s5.cell 6 rfl).frozen 1;have S6:=hid ((s5.setAt 6 rfl 0 (.slice r2.A r2.E.length r2.c)).setAt 6 rfl 1 (.slice r2.B r2.E.length r2.k));clear s5 hE hR HPR S5 k0 k1;have S7:Hid (SW w.heap.size w (trL x2 r2 g7 tg A cap L (n+1) l) _):=SW.few (pre:=[_,_,_,_,_,_,_,_]) S6.out [1,2,3,4,0,6,7] (n:=8) rfl (by decide) (by decide);clear S6;have k0:=(S7.out.cell 5 rfl).cell 0;have k1:=(S7.out.cell 5 rfl).cell 1;have HIS:=hid (is_X S7.out PI2.out HPS2.out (zA ..));go_wp2_with (go_at_call 40;(with_reducible refine HIS.out.mono ?_);refine halt_ ?_)
    rintro e w9 ⟨rfl,s9⟩;have S8:Hid (SW w.heap.size w (trL x2 r2 g7 tg A cap L (n+1) l) w9):=s9;have HDE:=hid (dead_X S8.out PI2.out HPS2.out);clear s9 HIS S7 k0 k1;go_wp2_with (go_at_call 47;(with_reducible refine HDE.out.mono ?_);refine halt_ ?_)
    rintro e w10 ⟨rfl,rfl⟩;clear HDE;go_wp2_with fail
    go_roundw
    case rel=>exact ⟨m,(n+1),_,x2,r2,rfl,rfl,HPS2.out,by go_num,by omega,by omega,PI2.out.more (by omega),S8.out⟩
    simp [intOf]
  · have k0:=(S1.out.cell 5 rfl).cell 0;have k1:=(S1.out.cell 5 rfl).cell 1;obtain ⟨P,hP⟩:=PI.out.isi;have HSO:=hid (some41 S1.out 6 rfl (r:=r) (fun n'=>by simp [SR.obs]) hP.rtx (by omega));go_wp2_with (go_at_call 41;(with_reducible refine HSO.out.mono ?_);refine halt_ ?_)
    rintro e w4 ⟨A1,c1,ids,n4,rfl,hl3,hok,hn4,s5⟩;have S5:Hid (SW w.heap.size w (x.obs (riOb A1 ids::r3Ob r::cellOb g7 54 #[.slice r.A r.E.length r.c,.slice r.B r.E.length r.k]::tpOb tg A cap L n4::l)) w4):=SW.behind s5;have HRM:=hid (rem_X S5.out PI.out HPS.out A1 c1 ids (zA ..) hok hl3);clear s5 HSO S1 k0 k1 hok hP;go_wp2_with (go_at_call 25;(with_reducible refine HRM.out.mono ?_);refine halt_ ?_)
    rintro e w5 ⟨rfl,x2,s6,hc2,hg⟩;have GO:=hid hg;have C3:=hid hc2;have S6:=hid s6;have HPS2:Hid (x2.ps=ps):=hg.ps.trans HPS.out;clear s6 hc2 hg HRM S5;have k0:=(S6.out.cell 6 rfl).cell 0;have k1:=(S6.out.cell 6 rfl).cell 1;have HRR:=hid (rRemove_S S6.out (r:=r) (by simp [SR.obs]) (IA:=A1) (ids:=ids) (by simp [SR.obs]) c1 (by omega));obtain ⟨cn,HCN⟩:∃ cn:Int,Hid (((cntE r.E ids:Nat):Int)=cn):=⟨_,rfl⟩;rw [HCN.out] at HRR |-; go_wp2_with (go_at_call 42;(with_reducible refine HRR.out.mono ?_);refine halt_ ?_)
    rintro e w6 ⟨r2,hE,rfl,s7⟩;have PI2:=hid (PI.out.gone C3.out GO.out hE (fun P hP=>hP.remL hE));have S7:=hid (s7.newCellAt 54 #[.slice r2.A r2.E.length r2.c,.slice r2.B r2.E.length r2.k] (H:=w6.heap.size) rfl);clear s7 HRR S6 k0 k1 hE;go_upto_region 30 with fail
    generalize w6.alloc _=W6 at S7 |-; generalize w6.heap.size=g12 at S7 |-; have y0:=(S7.out.cell 0 rfl).cell 0;have y1:=(S7.out.cell 0 rfl).cell 1;have z0:=(S7.out.cell 8 rfl).cell 0;have z1:=(S7.out.cell 8 rfl).cell 1;have f0:=(S7.out.cell 8 rfl).frozen 0;have f1:=(S7.out.cell 8 rfl).frozen 1;have hgne:=S7.out.ne (i:=0) (j:=8) rfl rfl (by decide);have S6:=hid ((S7.out.setAt 8 rfl 0 (.slice r2.A r2.E.length r2.c)).setAt 8 rfl 1 (.slice r2.B r2.E.length r2.k));clear S7;have S7:Hid (SW w.heap.size w (trL x2 r2 g7 tg A cap L n4 l) _):=SW.few (pre:=[_,_,_,_,_,_,_,_,_,_]) S6.out [2,3,4,5,1,8,9] (n:=10) rfl (by decide) (by decide);clear S6;have k0:=(S7.out.cell 5 rfl).cell 0;have k1:=(S7.out.cell 5 rfl).cell 1;have HIS:=hid (is_X S7.out PI2.out HPS2.out (zA ..));go_wp2_with (go_at_call 40;(with_reducible refine HIS.out.mono ?_);refine halt_ ?_)
    rintro e w9 ⟨rfl,s9⟩;have S8:Hid (SW w.heap.size w (trL x2 r2 g7 tg A cap L n4 l) w9):=s9;have HDE:=hid (dead_X S8.out PI2.out HPS2.out);clear s9 HIS S7 k0 k1;go_wp2_with (go_at_call 47;(with_reducible refine HDE.out.mono ?_);refine halt_ ?_)
    rintro e w10 ⟨rfl,rfl⟩;clear HDE;go_wp2_with fail
    go_roundw
    case rel=>exact ⟨m,n4,_,x2,r2,rfl,rfl,HPS2.out,by go_num,by omega,by omega,PI2.out.more (by omega),S8.out⟩
    simp [intOf]
  · have HFL:=hid (Flush_X S1.out PI.out (by omega));rw [HPS.out] at HFL;go_wp2_with (go_at_call 35;(with_reducible refine HFL.out.mono ?_);refine halt_ ?_)
    rintro e w4 ⟨rfl,x2,s5,hc2,hfl⟩;have FL:=hid hfl;have C3:=hid hc2;have S5:Hid (SW w.heap.size w (trL x2 r g7 tg A cap L (n+1) l) w4):=s5;have HPS2:Hid (x2.ps=ps):=hfl.ps.trans HPS.out;clear s5 hc2 hfl HFL S1;have k0:=(S5.out.cell 5 rfl).cell 0;have k1:=(S5.out.cell 5 rfl).cell 1;have HPR:=hid (rFlush_X S5.out (r:=r) (by simp [SR.obs]));go_wp2_with (go_at_call 43;(with_reducible refine HPR.out.mono ?_);refine halt_ ?_)
    rintro e w5 ⟨r2,rfl,s5,hE,hR⟩;have PI2:=hid (PI.out.flush C3.out FL.out hE hR);have z0:=(s5.cell 6 rfl).cell 0;have z1:=(s5.cell 6 rfl).cell 1;have f0:=(s5.cell 6 rfl).frozen 0;have f1:=(s5.cell 6 rfl).frozen 1;have S6:=hid ((s5.setAt 6 rfl 0 (.slice r2.A r2.E.length r2.c)).setAt 6 rfl 1 (.slice r2.B r2.E.length r2.k));clear s5 hE hR HPR S5 k0 k1;have S7:Hid (SW w.heap.size w (trL x2 r2 g7 tg A cap L (n+1) l) _):=SW.few (pre:=[_,_,_,_,_,_,_,_]) S6.out [1,2,3,4,0,6,7] (n:=8) rfl (by decide) (by decide);clear S6;go_upto_region 35 with fail
    generalize World.setCell (World.setCell _ _ _) _ _=W6 at S7 |-; have HAG:=hid (again_X S7.out PI2.out FL.out.done);clear FL C3 HPS2;go_wp2_with (go_at_call 20;(with_reducible refine HAG.out.mono ?_);refine halt_ ?_)
    rintro e w6 ⟨x3,rfl,s7,hpi3⟩;clear HAG S7 PI2;have PI2:=hid hpi3;have S7:Hid (SW w.heap.size w (trL x3 r2 g7 tg A cap L (n+1) l) w6):=s7;obtain ⟨ps3,HPS2⟩:∃ p,Hid (x3.ps=p):=⟨_,rfl⟩;rw [HPS2.out];clear s7 hpi3;have k0:=(S7.out.cell 5 rfl).cell 0;have k1:=(S7.out.cell 5 rfl).cell 1;have HIS:=hid (is_X S7.out PI2.out HPS2.out (zA ..));go_wp2_with (go_at_call 40;(with_reducible refine HIS.out.mono ?_);refine halt_ ?_)
    rintro e w9 ⟨rfl,s9⟩;have S8:Hid (SW w.heap.size w (trL x3 r2 g7 tg A cap L (n+1) l) w9):=s9;have HDE:=hid (dead_X S8.out PI2.out HPS2.out);clear s9 HIS S7 k0 k1;go_wp2_with (go_at_call 47;(with_reducible refine HDE.out.mono ?_);refine halt_ ?_)
    rintro e w10 ⟨rfl,rfl⟩;clear HDE;go_wp2_with fail
    go_roundw
    case rel=>exact ⟨m,(n+1),_,x3,r2,rfl,rfl,HPS2.out,by go_num,by omega,by omega,PI2.out.more (by omega),S8.out⟩
    simp [intOf]
  · have k0:=(S1.out.cell 5 rfl).cell 0;have k1:=(S1.out.cell 5 rfl).cell 1;obtain ⟨P,hP⟩:=PI.out.isi;have HAN:=hid (any44 S1.out 6 rfl (r:=r) (fun n'=>by simp [SR.obs]) hP.rtx (by omega));go_wp2_with (go_at_call 44;(with_reducible refine HAN.out.mono ?_);refine halt_ ?_)
    rintro e w4 ⟨i,n4,rfl,hok,hn4,s5⟩;have S5:Hid (SW w.heap.size w (trL x r g7 tg A cap L n4 l) w4):=s5;have S6:=hid (SW.behind (S5.out.newCellAt 31 #[.int .u64 i.1,.int .i64 i.2] (H:=w4.heap.size) rfl));clear s5 HAN S1 k0 k1 hP S5;go_upto_region 40 with fail
    generalize w4.alloc _=W4 at S6 |-; generalize w4.heap.size=g14 at S6 |-; obtain ⟨d2,bs,cd,hgx,hget⟩:=Get_X S6.out PI.out i hok;have GX:=hid hgx;have HOK:=hid hok;rw [HPS.out] at hget;have HGE:=hid hget;have y0:=(S6.out.cell 4 rfl).cell 0;have y1:=(S6.out.cell 4 rfl).cell 1;clear hgx hget hok;go_wp2_with (go_at_call 30;(with_reducible refine HGE.out.mono ?_);refine halt_ ?_)
    rintro e w5 ⟨d,rfl,s6⟩;have S7:=hid s6;clear s6 HGE S6 y0 y1;have y0:=(S7.out.cell 5 rfl).cell 0;have y1:=(S7.out.cell 5 rfl).cell 1;have k0:=(S7.out.cell 7 rfl).cell 0;have k1:=(S7.out.cell 7 rfl).cell 1;have HRG:=hid (rGet_any (S7.out.get 6 (o:=r3Ob r) rfl) i);rw [GX.out.eq] at HRG;go_wp2_with (go_at_call 45;(with_reducible refine HRG.out.mono ?_);refine halt_ ?_)
    rintro e w6 ⟨rfl,hb6⟩;have S8:=hid (S7.out.on hb6);clear hb6 HRG S7 k0 k1 y0 y1;have R1:RB w6 d bs:=S8.out.get 4 (o:=bufOb d bs) rfl;have R2:RB w6 d2 bs:=GX.out.bytes w6 (S8.out.get 6 (o:=r3Ob r) rfl);have v1:=conv_rb R1;have v2:=conv_rb R2;have y0:=(S8.out.cell 5 rfl).cell 0;have y1:=(S8.out.cell 5 rfl).cell 1;have hgl:g14<w6.heap.size:=(S8.out.cell 5 rfl).lt;rcases GX.out.two with ⟨rfl,hv2⟩ | ⟨rfl,hv2⟩
    · have HHS:Hid (Calls Tryz.prog 46 #[vPtr ps,.agg #[.int .u64 i.1,.int .i64 i.2]] w6 (fun e w'=>e= .returned (.bool true)/\Below w6.heap.size w6 w')):=by
       have h1:=Has_any S8.out.1 i HOK.out;rw [HPS.out,hv2] at h1;exact h1
      have FIN:Hid (∀ w10,Below w6.heap.size w6 w10->SW w.heap.size w (trL x r g7 tg A cap L n4 l) w10):=fun w10 hb=>SW.few (pre:=[_,_,_,_,_,_,_,_,_]) (S8.out.on hb) [0,1,2,3,6,7,8] (n:=9) rfl (by decide) (by decide);have PI2:=hid PI.out;have HPS2:=hid HPS.out;clear R1 R2 S8 GX hv2;go_wp2_with (go_at_call 46;(with_reducible refine HHS.out.mono ?_);refine halt_ ?_)
      rintro e w10 ⟨rfl,hb⟩;have S7:=hid (FIN.out w10 hb);clear hb HHS FIN v1 v2 y0 y1 hgl;have k0:=(S7.out.cell 5 rfl).cell 0;have k1:=(S7.out.cell 5 rfl).cell 1;have HIS:=hid (is_X S7.out PI2.out HPS2.out (zA ..));go_wp2_with (go_at_call 40;(with_reducible refine HIS.out.mono ?_);refine halt_ ?_)
      rintro e w9 ⟨rfl,s9⟩;have S8:Hid (SW w.heap.size w (trL x r g7 tg A cap L n4 l) w9):=s9;have HDE:=hid (dead_X S8.out PI2.out HPS2.out);clear s9 HIS S7 k0 k1;go_wp2_with (go_at_call 47;(with_reducible refine HDE.out.mono ?_);refine halt_ ?_)
      rintro e w10 ⟨rfl,rfl⟩;clear HDE;go_wp2_with fail
      go_roundw
      case rel=>exact ⟨m,n4,_,x,r,rfl,rfl,HPS2.out,by go_num,by omega,by omega,PI2.out.more (by omega),S8.out⟩
      simp [intOf]
    have HHS:Hid (Calls Tryz.prog 46 #[vPtr ps,.agg #[.int .u64 i.1,.int .i64 i.2]] w6 (fun e w'=>e= .returned (.bool false)/\Below w6.heap.size w6 w')):=by
     have h1:=Has_any S8.out.1 i HOK.out;rw [HPS.out,hv2] at h1;exact h1
    have FIN:Hid (∀ w10,Below w6.heap.size w6 w10->SW w.heap.size w (trL x r g7 tg A cap L n4 l) w10):=fun w10 hb=>SW.few (pre:=[_,_,_,_,_,_,_,_,_]) (S8.out.on hb) [0,1,2,3,6,7,8] (n:=9) rfl (by decide) (by decide);have PI2:=hid PI.out;have HPS2:=hid HPS.out;clear R1 R2 S8 GX hv2;go_wp2_with (go_at_call 46;(with_reducible refine HHS.out.mono ?_);refine halt_ ?_)
    rintro e w10 ⟨rfl,hb⟩;have S7:=hid (FIN.out w10 hb);clear hb HHS FIN v1 v2 y0 y1 hgl;have k0:=(S7.out.cell 5 rfl).cell 0;have k1:=(S7.out.cell 5 rfl).cell 1;have HIS:=hid (is_X S7.out PI2.out HPS2.out (zA ..));go_wp2_with (go_at_call 40;(with_reducible refine HIS.out.mono ?_);refine halt_ ?_)
    rintro e w9 ⟨rfl,s9⟩;have S8:Hid (SW w.heap.size w (trL x r g7 tg A cap L n4 l) w9):=s9;have HDE:=hid (dead_X S8.out PI2.out HPS2.out);clear s9 HIS S7 k0 k1;go_wp2_with (go_at_call 47;(with_reducible refine HDE.out.mono ?_);refine halt_ ?_)
    rintro e w10 ⟨rfl,rfl⟩;clear HDE;go_wp2_with fail
    go_roundw
    case rel=>exact ⟨m,n4,_,x,r,rfl,rfl,HPS2.out,by go_num,by omega,by omega,PI2.out.more (by omega),S8.out⟩
    simp [intOf]
  · have HT:=hid (text34_a S1.out 6 rfl (by omega));go_wp2_with (go_at_call 34;(with_reducible refine HT.out.mono ?_);refine halt_ ?_)
    rintro e w1 ⟨d,rfl,s2⟩;have HX:=hid (textB_is L (n+1));have HTN:=(textN_in L (n+1)).2;obtain ⟨n2,HN2⟩:∃ n2,Hid (n+1+1+textN L (n+1)=n2):=⟨_,rfl⟩;have hn2:n2<=n+6:=by have:=HN2.out;omega
    obtain ⟨bs,HBS⟩:∃ bs,Hid (textB L (n+1)=bs):=⟨_,rfl⟩;rw [HBS.out,HN2.out] at s2;rw [HBS.out] at HX;have S2:Hid (SW w.heap.size w (x.obs (bufOb d bs::r3Ob r::cellOb g7 54 #[.slice r.A r.E.length r.c,.slice r.B r.E.length r.k]::tpOb tg A cap L n2::l)) w1):=s2.behind;have hrb:RB w1 d bs:=S2.out.get 4 (o:=bufOb d bs) rfl;have hdl:d.len=bs.length:=hrb.1.symm;rw [hdl];have HDL:=hid hdl;have HNZ:=hid (Next_x S2.out 7 rfl 12 (by omega) (by omega));obtain ⟨v12,HV⟩:∃ v,Hid (tnext L n2 12=v):=⟨_,rfl⟩;rw [HV.out] at HNZ;clear s2 hrb hdl HT S1 HTN HN2 HBS HV;by_cases hv:v12=0
    · subst hv;go_wp2_with (go_at_call 33;(with_reducible refine HNZ.out.mono ?_);refine halt_ ?_)
      rintro e w3 ⟨rfl,s4⟩;have S4:Hid (SW w.heap.size w (x.obs (bufOb d bs::r3Ob r::cellOb g7 54 #[.slice r.A r.E.length r.c,.slice r.B r.E.length r.k]::tpOb tg A cap L (n2+1)::l)) w3):=s4;have HPN:=hid (PutNil_X S4.out PI.out);rw [HPS.out] at HPN;clear s4 HNZ S2;go_wp2_with (go_at_call 23;(with_reducible refine HPN.out.mono ?_);refine halt_ ?_)
      rintro e w4 ⟨rfl,s5⟩;have S5:=hid (s5.newCellAt 31 #[.int .u64 0,.int .i64 0] (H:=w4.heap.size) rfl);clear s5 HPN S4;go_upto_region 15 with fail
      generalize w4.alloc _=W4 at S5 |-; generalize w4.heap.size=g20 at S5 |-; have k0:=(S5.out.cell 7 rfl).cell 0;have k1:=(S5.out.cell 7 rfl).cell 1;have HRP:=hid (rPut_nil S5.out (r:=r) (by simp [SR.obs]));have i0:=(0:Int);go_wp2_with (go_at_call 36;(with_reducible refine HRP.out.mono ?_);refine halt_ ?_)
      rintro e w5 ⟨rfl,s6⟩;have PI2:=hid PI.out;have HPS2:=hid HPS.out;have S7:=hid ((s6.newCellAt 54 #[.slice r.A r.E.length r.c,.slice r.B r.E.length r.k] (H:=w5.heap.size) rfl).newCellAt 31 #[.int .u64 0,.int .i64 0] (H:=w5.heap.size+1) (by simp));clear s6 HRP S5 k0 k1;go_upto_region 16 with fail
      generalize (w5.alloc _).alloc _=W5 at S7 |-; generalize w5.heap.size=g22 at S7 |-; have q0:=(S7.out.cell 0 rfl).cell 0;have q1:=(S7.out.cell 0 rfl).cell 1;have p0:=(S7.out.cell 3 rfl).cell 0;have p1:=(S7.out.cell 3 rfl).cell 1;go_upto_region 18 with fail
      clear q0 q1 p0 p1;have y0:=(S7.out.cell 1 rfl).cell 0;have y1:=(S7.out.cell 1 rfl).cell 1;have z0:=(S7.out.cell 10 rfl).cell 0;have z1:=(S7.out.cell 10 rfl).cell 1;have f0:=(S7.out.cell 10 rfl).frozen 0;have f1:=(S7.out.cell 10 rfl).frozen 1;have hgne:=S7.out.ne (i:=1) (j:=10) rfl rfl (by decide);have S6:=hid ((S7.out.setAt 10 rfl 0 (.slice r.A r.E.length r.c)).setAt 10 rfl 1 (.slice r.B r.E.length r.k));clear S7;have S7:Hid (SW w.heap.size w (trL x r g7 tg A cap L (n2+1) l) _):=SW.few (pre:=[_,_,_,_,_,_,_,_,_,_,_,_]) S6.out [4,5,6,7,2,10,11] (n:=12) rfl (by decide) (by decide);clear S6;have k0:=(S7.out.cell 5 rfl).cell 0;have k1:=(S7.out.cell 5 rfl).cell 1;have HIS:=hid (is_X S7.out PI2.out HPS2.out (zA ..));go_wp2_with (go_at_call 40;(with_reducible refine HIS.out.mono ?_);refine halt_ ?_)
      rintro e w9 ⟨rfl,s9⟩;have S8:Hid (SW w.heap.size w (trL x r g7 tg A cap L (n2+1) l) w9):=s9;have HDE:=hid (dead_X S8.out PI2.out HPS2.out);clear s9 HIS S7 k0 k1;go_wp2_with (go_at_call 47;(with_reducible refine HDE.out.mono ?_);refine halt_ ?_)
      rintro e w10 ⟨rfl,rfl⟩;clear HDE;go_wp2_with fail
      go_roundw
      case rel=>exact ⟨m,(n2+1),_,x,r,rfl,rfl,HPS2.out,by go_num,by omega,by omega,PI2.out.more (by omega),S8.out⟩
      simp [intOf]
    have hv2:(v12==0)=false:=by simpa using hv
    go_wp2_with (go_at_call 33;(with_reducible refine HNZ.out.mono ?_);refine halt_ ?_)
    rintro e w3 ⟨rfl,s4⟩;have S4:Hid (SW w.heap.size w (x.obs (bufOb d bs::r3Ob r::cellOb g7 54 #[.slice r.A r.E.length r.c,.slice r.B r.E.length r.k]::tpOb tg A cap L (n2+1)::l)) w3):=s4;have hrb:RB w3 d bs:=S4.out.get 4 (o:=bufOb d bs) rfl;have HPN:=hid (Put_X S4.out PI.out d.A d.cap bs hrb.rs HX.out);rw [HPS.out] at HPN;clear s4 HNZ S2 hrb;go_wp2_with (go_at_call 23;(with_reducible refine HPN.out.mono ?_);refine halt_ ?_)
    rintro e w4 ⟨rfl,x2,s5,hpx,hps2⟩;have PX:=hid hpx;have HPS2:Hid (x2.ps=ps):=hps2;obtain ⟨i,HI⟩:∃ i,Hid (fpOf bs=i):=⟨_,rfl⟩;rw [HI.out];have S5:=hid (s5.newCellAt 31 #[.int .u64 i.1,.int .i64 i.2] (H:=w4.heap.size) rfl);clear s5 HPN S4 hpx hps2;go_upto_region 15 with fail
    generalize w4.alloc _=W4 at S5 |-; generalize w4.heap.size=g20 at S5 |-; have k0:=(S5.out.cell 7 rfl).cell 0;have k1:=(S5.out.cell 7 rfl).cell 1;have hrb:RB W4 d bs:=S5.out.get 5 (o:=bufOb d bs) rfl;have HRP:=hid (rPut_X S5.out (r:=r) (by simp [SR.obs]) PI.out d bs hrb HX.out);rw [HDL.out,HI.out] at HRP;clear hrb;go_wp2_with (go_at_call 36;(with_reducible refine HRP.out.mono ?_);refine halt_ ?_)
    rintro e w5 ⟨r2,rfl,s6,hrx⟩;have PI2:=hid (PI.out.put HX.out PX.out hrx);clear hrx;have S7:=hid ((s6.newCellAt 54 #[.slice r2.A r2.E.length r2.c,.slice r2.B r2.E.length r2.k] (H:=w5.heap.size) rfl).newCellAt 31 #[.int .u64 i.1,.int .i64 i.2] (H:=w5.heap.size+1) (by simp));clear s6 HRP S5 k0 k1;go_upto_region 16 with fail
    generalize (w5.alloc _).alloc _=W5 at S7 |-; generalize w5.heap.size=g22 at S7 |-; have q0:=(S7.out.cell 0 rfl).cell 0;have q1:=(S7.out.cell 0 rfl).cell 1;have p0:=(S7.out.cell 3 rfl).cell 0;have p1:=(S7.out.cell 3 rfl).cell 1;go_upto_region 18 with fail
    clear q0 q1 p0 p1;have y0:=(S7.out.cell 1 rfl).cell 0;have y1:=(S7.out.cell 1 rfl).cell 1;have z0:=(S7.out.cell 10 rfl).cell 0;have z1:=(S7.out.cell 10 rfl).cell 1;have f0:=(S7.out.cell 10 rfl).frozen 0;have f1:=(S7.out.cell 10 rfl).frozen 1;have hgne:=S7.out.ne (i:=1) (j:=10) rfl rfl (by decide);have S6:=hid ((S7.out.setAt 10 rfl 0 (.slice r2.A r2.E.length r2.c)).setAt 10 rfl 1 (.slice r2.B r2.E.length r2.k));clear S7;have S7:Hid (SW w.heap.size w (trL x2 r2 g7 tg A cap L (n2+1) l) _):=SW.few (pre:=[_,_,_,_,_,_,_,_,_,_,_,_]) S6.out [4,5,6,7,2,10,11] (n:=12) rfl (by decide) (by decide);clear S6;have k0:=(S7.out.cell 5 rfl).cell 0;have k1:=(S7.out.cell 5 rfl).cell 1;have HIS:=hid (is_X S7.out PI2.out HPS2.out (zA ..));go_wp2_with (go_at_call 40;(with_reducible refine HIS.out.mono ?_);refine halt_ ?_)
    rintro e w9 ⟨rfl,s9⟩;have S8:Hid (SW w.heap.size w (trL x2 r2 g7 tg A cap L (n2+1) l) w9):=s9;have HDE:=hid (dead_X S8.out PI2.out HPS2.out);clear s9 HIS S7 k0 k1;go_wp2_with (go_at_call 47;(with_reducible refine HDE.out.mono ?_);refine halt_ ?_)
    rintro e w10 ⟨rfl,rfl⟩;clear HDE;go_wp2_with fail
    go_roundw
    case rel=>exact ⟨m,(n2+1),_,x2,r2,rfl,rfl,HPS2.out,by go_num,by omega,by omega,PI2.out.more (by omega),S8.out⟩
    simp [intOf]
  · have HT:=hid (text34_a S1.out 6 rfl (by omega));go_wp2_with (go_at_call 34;(with_reducible refine HT.out.mono ?_);refine halt_ ?_)
    rintro e w1 ⟨d,rfl,s2⟩;have HX:=hid (textB_is L (n+1));have HTN:=(textN_in L (n+1)).2;obtain ⟨n2,HN2⟩:∃ n2,Hid (n+1+1+textN L (n+1)=n2):=⟨_,rfl⟩;have hn2:n2<=n+6:=by have:=HN2.out;omega
    obtain ⟨bs,HBS⟩:∃ bs,Hid (textB L (n+1)=bs):=⟨_,rfl⟩;rw [HBS.out,HN2.out] at s2;rw [HBS.out] at HX;have S2:Hid (SW w.heap.size w (x.obs (bufOb d bs::r3Ob r::cellOb g7 54 #[.slice r.A r.E.length r.c,.slice r.B r.E.length r.k]::tpOb tg A cap L n2::l)) w1):=s2.behind;have hrb:RB w1 d bs:=S2.out.get 4 (o:=bufOb d bs) rfl;have hdl:d.len=bs.length:=hrb.1.symm;rw [hdl];have HDL:=hid hdl;have HNZ:=hid (Next_x S2.out 7 rfl 12 (by omega) (by omega));obtain ⟨v12,HV⟩:∃ v,Hid (tnext L n2 12=v):=⟨_,rfl⟩;rw [HV.out] at HNZ;clear s2 hrb hdl HT S1 HTN HN2 HBS HV;by_cases hv:v12=0
    · subst hv;go_wp2_with (go_at_call 33;(with_reducible refine HNZ.out.mono ?_);refine halt_ ?_)
      rintro e w3 ⟨rfl,s4⟩;have S4:Hid (SW w.heap.size w (x.obs (bufOb d bs::r3Ob r::cellOb g7 54 #[.slice r.A r.E.length r.c,.slice r.B r.E.length r.k]::tpOb tg A cap L (n2+1)::l)) w3):=s4;have HPN:=hid (PutNil_X S4.out PI.out);rw [HPS.out] at HPN;clear s4 HNZ S2;go_wp2_with (go_at_call 23;(with_reducible refine HPN.out.mono ?_);refine halt_ ?_)
      rintro e w4 ⟨rfl,s5⟩;have S5:=hid (s5.newCellAt 31 #[.int .u64 0,.int .i64 0] (H:=w4.heap.size) rfl);clear s5 HPN S4;go_upto_region 15 with fail
      generalize w4.alloc _=W4 at S5 |-; generalize w4.heap.size=g20 at S5 |-; have k0:=(S5.out.cell 7 rfl).cell 0;have k1:=(S5.out.cell 7 rfl).cell 1;have HRP:=hid (rPut_nil S5.out (r:=r) (by simp [SR.obs]));have i0:=(0:Int);go_wp2_with (go_at_call 36;(with_reducible refine HRP.out.mono ?_);refine halt_ ?_)
      rintro e w5 ⟨rfl,s6⟩;have PI2:=hid PI.out;have HPS2:=hid HPS.out;have S7:=hid ((s6.newCellAt 54 #[.slice r.A r.E.length r.c,.slice r.B r.E.length r.k] (H:=w5.heap.size) rfl).newCellAt 31 #[.int .u64 0,.int .i64 0] (H:=w5.heap.size+1) (by simp));clear s6 HRP S5 k0 k1;go_upto_region 16 with fail
      generalize (w5.alloc _).alloc _=W5 at S7 |-; generalize w5.heap.size=g22 at S7 |-; have q0:=(S7.out.cell 0 rfl).cell 0;have q1:=(S7.out.cell 0 rfl).cell 1;have p0:=(S7.out.cell 3 rfl).cell 0;have p1:=(S7.out.cell 3 rfl).cell 1;go_upto_region 18 with fail
      clear q0 q1 p0 p1;have y0:=(S7.out.cell 1 rfl).cell 0;have y1:=(S7.out.cell 1 rfl).cell 1;have z0:=(S7.out.cell 10 rfl).cell 0;have z1:=(S7.out.cell 10 rfl).cell 1;have f0:=(S7.out.cell 10 rfl).frozen 0;have f1:=(S7.out.cell 10 rfl).frozen 1;have hgne:=S7.out.ne (i:=1) (j:=10) rfl rfl (by decide);have S6:=hid ((S7.out.setAt 10 rfl 0 (.slice r.A r.E.length r.c)).setAt 10 rfl 1 (.slice r.B r.E.length r.k));clear S7;have S7:Hid (SW w.heap.size w (trL x r g7 tg A cap L (n2+1) l) _):=SW.few (pre:=[_,_,_,_,_,_,_,_,_,_,_,_]) S6.out [4,5,6,7,2,10,11] (n:=12) rfl (by decide) (by decide);clear S6;have k0:=(S7.out.cell 5 rfl).cell 0;have k1:=(S7.out.cell 5 rfl).cell 1;have HIS:=hid (is_X S7.out PI2.out HPS2.out (zA ..));go_wp2_with (go_at_call 40;(with_reducible refine HIS.out.mono ?_);refine halt_ ?_)
      rintro e w9 ⟨rfl,s9⟩;have S8:Hid (SW w.heap.size w (trL x r g7 tg A cap L (n2+1) l) w9):=s9;have HDE:=hid (dead_X S8.out PI2.out HPS2.out);clear s9 HIS S7 k0 k1;go_wp2_with (go_at_call 47;(with_reducible refine HDE.out.mono ?_);refine halt_ ?_)
      rintro e w10 ⟨rfl,rfl⟩;clear HDE;go_wp2_with fail
      go_roundw
      case rel=>exact ⟨m,(n2+1),_,x,r,rfl,rfl,HPS2.out,by go_num,by omega,by omega,PI2.out.more (by omega),S8.out⟩
      simp [intOf]
    have hv2:(v12==0)=false:=by simpa using hv
    go_wp2_with (go_at_call 33;(with_reducible refine HNZ.out.mono ?_);refine halt_ ?_)
    rintro e w3 ⟨rfl,s4⟩;have S4:Hid (SW w.heap.size w (x.obs (bufOb d bs::r3Ob r::cellOb g7 54 #[.slice r.A r.E.length r.c,.slice r.B r.E.length r.k]::tpOb tg A cap L (n2+1)::l)) w3):=s4;have hrb:RB w3 d bs:=S4.out.get 4 (o:=bufOb d bs) rfl;have HPN:=hid (Put_X S4.out PI.out d.A d.cap bs hrb.rs HX.out);rw [HPS.out] at HPN;clear s4 HNZ S2 hrb;go_wp2_with (go_at_call 23;(with_reducible refine HPN.out.mono ?_);refine halt_ ?_)
    rintro e w4 ⟨rfl,x2,s5,hpx,hps2⟩;have PX:=hid hpx;have HPS2:Hid (x2.ps=ps):=hps2;obtain ⟨i,HI⟩:∃ i,Hid (fpOf bs=i):=⟨_,rfl⟩;rw [HI.out];have S5:=hid (s5.newCellAt 31 #[.int .u64 i.1,.int .i64 i.2] (H:=w4.heap.size) rfl);clear s5 HPN S4 hpx hps2;go_upto_region 15 with fail
    generalize w4.alloc _=W4 at S5 |-; generalize w4.heap.size=g20 at S5 |-; have k0:=(S5.out.cell 7 rfl).cell 0;have k1:=(S5.out.cell 7 rfl).cell 1;have hrb:RB W4 d bs:=S5.out.get 5 (o:=bufOb d bs) rfl;have HRP:=hid (rPut_X S5.out (r:=r) (by simp [SR.obs]) PI.out d bs hrb HX.out);rw [HDL.out,HI.out] at HRP;clear hrb;go_wp2_with (go_at_call 36;(with_reducible refine HRP.out.mono ?_);refine halt_ ?_)
    rintro e w5 ⟨r2,rfl,s6,hrx⟩;have PI2:=hid (PI.out.put HX.out PX.out hrx);clear hrx;have S7:=hid ((s6.newCellAt 54 #[.slice r2.A r2.E.length r2.c,.slice r2.B r2.E.length r2.k] (H:=w5.heap.size) rfl).newCellAt 31 #[.int .u64 i.1,.int .i64 i.2] (H:=w5.heap.size+1) (by simp));clear s6 HRP S5 k0 k1;go_upto_region 16 with fail
    generalize (w5.alloc _).alloc _=W5 at S7 |-; generalize w5.heap.size=g22 at S7 |-; have q0:=(S7.out.cell 0 rfl).cell 0;have q1:=(S7.out.cell 0 rfl).cell 1;have p0:=(S7.out.cell 3 rfl).cell 0;have p1:=(S7.out.cell 3 rfl).cell 1;go_upto_region 18 with fail
    clear q0 q1 p0 p1;have y0:=(S7.out.cell 1 rfl).cell 0;have y1:=(S7.out.cell 1 rfl).cell 1;have z0:=(S7.out.cell 10 rfl).cell 0;have z1:=(S7.out.cell 10 rfl).cell 1;have f0:=(S7.out.cell 10 rfl).frozen 0;have f1:=(S7.out.cell 10 rfl).frozen 1;have hgne:=S7.out.ne (i:=1) (j:=10) rfl rfl (by decide);have S6:=hid ((S7.out.setAt 10 rfl 0 (.slice r2.A r2.E.length r2.c)).setAt 10 rfl 1 (.slice r2.B r2.E.length r2.k));clear S7;have S7:Hid (SW w.heap.size w (trL x2 r2 g7 tg A cap L (n2+1) l) _):=SW.few (pre:=[_,_,_,_,_,_,_,_,_,_,_,_]) S6.out [4,5,6,7,2,10,11] (n:=12) rfl (by decide) (by decide);clear S6;have k0:=(S7.out.cell 5 rfl).cell 0;have k1:=(S7.out.cell 5 rfl).cell 1;have HIS:=hid (is_X S7.out PI2.out HPS2.out (zA ..));go_wp2_with (go_at_call 40;(with_reducible refine HIS.out.mono ?_);refine halt_ ?_)
    rintro e w9 ⟨rfl,s9⟩;have S8:Hid (SW w.heap.size w (trL x2 r2 g7 tg A cap L (n2+1) l) w9):=s9;have HDE:=hid (dead_X S8.out PI2.out HPS2.out);clear s9 HIS S7 k0 k1;go_wp2_with (go_at_call 47;(with_reducible refine HDE.out.mono ?_);refine halt_ ?_)
    rintro e w10 ⟨rfl,rfl⟩;clear HDE;go_wp2_with fail
    go_roundw
    case rel=>exact ⟨m,(n2+1),_,x2,r2,rfl,rfl,HPS2.out,by go_num,by omega,by omega,PI2.out.more (by omega),S8.out⟩
    simp [intOf]
  have HT:=hid (text34_a S1.out 6 rfl (by omega));go_wp2_with (go_at_call 34;(with_reducible refine HT.out.mono ?_);refine halt_ ?_)
  rintro e w1 ⟨d,rfl,s2⟩;have HX:=hid (textB_is L (n+1));have HTN:=(textN_in L (n+1)).2;obtain ⟨n2,HN2⟩:∃ n2,Hid (n+1+1+textN L (n+1)=n2):=⟨_,rfl⟩;have hn2:n2<=n+6:=by have:=HN2.out;omega
  obtain ⟨bs,HBS⟩:∃ bs,Hid (textB L (n+1)=bs):=⟨_,rfl⟩;rw [HBS.out,HN2.out] at s2;rw [HBS.out] at HX;have S2:Hid (SW w.heap.size w (x.obs (bufOb d bs::r3Ob r::cellOb g7 54 #[.slice r.A r.E.length r.c,.slice r.B r.E.length r.k]::tpOb tg A cap L n2::l)) w1):=s2.behind;have hrb:RB w1 d bs:=S2.out.get 4 (o:=bufOb d bs) rfl;have hdl:d.len=bs.length:=hrb.1.symm;rw [hdl];have HDL:=hid hdl;have HNZ:=hid (Next_x S2.out 7 rfl 12 (by omega) (by omega));obtain ⟨v12,HV⟩:∃ v,Hid (tnext L n2 12=v):=⟨_,rfl⟩;rw [HV.out] at HNZ;clear s2 hrb hdl HT S1 HTN HN2 HBS HV;by_cases hv:v12=0
  · subst hv;go_wp2_with (go_at_call 33;(with_reducible refine HNZ.out.mono ?_);refine halt_ ?_)
    rintro e w3 ⟨rfl,s4⟩;have S4:Hid (SW w.heap.size w (x.obs (bufOb d bs::r3Ob r::cellOb g7 54 #[.slice r.A r.E.length r.c,.slice r.B r.E.length r.k]::tpOb tg A cap L (n2+1)::l)) w3):=s4;have HPN:=hid (PutNil_X S4.out PI.out);rw [HPS.out] at HPN;clear s4 HNZ S2;go_wp2_with (go_at_call 23;(with_reducible refine HPN.out.mono ?_);refine halt_ ?_)
    rintro e w4 ⟨rfl,s5⟩;have S5:=hid (s5.newCellAt 31 #[.int .u64 0,.int .i64 0] (H:=w4.heap.size) rfl);clear s5 HPN S4;go_upto_region 15 with fail
    generalize w4.alloc _=W4 at S5 |-; generalize w4.heap.size=g20 at S5 |-; have k0:=(S5.out.cell 7 rfl).cell 0;have k1:=(S5.out.cell 7 rfl).cell 1;have HRP:=hid (rPut_nil S5.out (r:=r) (by simp [SR.obs]));have i0:=(0:Int);go_wp2_with (go_at_call 36;(with_reducible refine HRP.out.mono ?_);refine halt_ ?_)
    rintro e w5 ⟨rfl,s6⟩;have PI2:=hid PI.out;have HPS2:=hid HPS.out;have S7:=hid ((s6.newCellAt 54 #[.slice r.A r.E.length r.c,.slice r.B r.E.length r.k] (H:=w5.heap.size) rfl).newCellAt 31 #[.int .u64 0,.int .i64 0] (H:=w5.heap.size+1) (by simp));clear s6 HRP S5 k0 k1;go_upto_region 16 with fail
    generalize (w5.alloc _).alloc _=W5 at S7 |-; generalize w5.heap.size=g22 at S7 |-; have q0:=(S7.out.cell 0 rfl).cell 0;have q1:=(S7.out.cell 0 rfl).cell 1;have p0:=(S7.out.cell 3 rfl).cell 0;have p1:=(S7.out.cell 3 rfl).cell 1;go_upto_region 18 with fail
    clear q0 q1 p0 p1;have y0:=(S7.out.cell 1 rfl).cell 0;have y1:=(S7.out.cell 1 rfl).cell 1;have z0:=(S7.out.cell 10 rfl).cell 0;have z1:=(S7.out.cell 10 rfl).cell 1;have f0:=(S7.out.cell 10 rfl).frozen 0;have f1:=(S7.out.cell 10 rfl).frozen 1;have hgne:=S7.out.ne (i:=1) (j:=10) rfl rfl (by decide);have S6:=hid ((S7.out.setAt 10 rfl 0 (.slice r.A r.E.length r.c)).setAt 10 rfl 1 (.slice r.B r.E.length r.k));clear S7;have S7:Hid (SW w.heap.size w (trL x r g7 tg A cap L (n2+1) l) _):=SW.few (pre:=[_,_,_,_,_,_,_,_,_,_,_,_]) S6.out [4,5,6,7,2,10,11] (n:=12) rfl (by decide) (by decide);clear S6;have k0:=(S7.out.cell 5 rfl).cell 0;have k1:=(S7.out.cell 5 rfl).cell 1;have HIS:=hid (is_X S7.out PI2.out HPS2.out (zA ..));go_wp2_with (go_at_call 40;(with_reducible refine HIS.out.mono ?_);refine halt_ ?_)
    rintro e w9 ⟨rfl,s9⟩;have S8:Hid (SW w.heap.size w (trL x r g7 tg A cap L (n2+1) l) w9):=s9;have HDE:=hid (dead_X S8.out PI2.out HPS2.out);clear s9 HIS S7 k0 k1;go_wp2_with (go_at_call 47;(with_reducible refine HDE.out.mono ?_);refine halt_ ?_)
    rintro e w10 ⟨rfl,rfl⟩;clear HDE;go_wp2_with fail
    go_roundw
    case rel=>exact ⟨m,(n2+1),_,x,r,rfl,rfl,HPS2.out,by go_num,by omega,by omega,PI2.out.more (by omega),S8.out⟩
    simp [intOf]
  have hv2:(v12==0)=false:=by simpa using hv
  go_wp2_with (go_at_call 33;(with_reducible refine HNZ.out.mono ?_);refine halt_ ?_)
  rintro e w3 ⟨rfl,s4⟩;have S4:Hid (SW w.heap.size w (x.obs (bufOb d bs::r3Ob r::cellOb g7 54 #[.slice r.A r.E.length r.c,.slice r.B r.E.length r.k]::tpOb tg A cap L (n2+1)::l)) w3):=s4;have hrb:RB w3 d bs:=S4.out.get 4 (o:=bufOb d bs) rfl;have HPN:=hid (Put_X S4.out PI.out d.A d.cap bs hrb.rs HX.out);rw [HPS.out] at HPN;clear s4 HNZ S2 hrb;go_wp2_with (go_at_call 23;(with_reducible refine HPN.out.mono ?_);refine halt_ ?_)
  rintro e w4 ⟨rfl,x2,s5,hpx,hps2⟩;have PX:=hid hpx;have HPS2:Hid (x2.ps=ps):=hps2;obtain ⟨i,HI⟩:∃ i,Hid (fpOf bs=i):=⟨_,rfl⟩;rw [HI.out];have S5:=hid (s5.newCellAt 31 #[.int .u64 i.1,.int .i64 i.2] (H:=w4.heap.size) rfl);clear s5 HPN S4 hpx hps2;go_upto_region 15 with fail
  generalize w4.alloc _=W4 at S5 |-; generalize w4.heap.size=g20 at S5 |-; have k0:=(S5.out.cell 7 rfl).cell 0;have k1:=(S5.out.cell 7 rfl).cell 1;have hrb:RB W4 d bs:=S5.out.get 5 (o:=bufOb d bs) rfl;have HRP:=hid (rPut_X S5.out (r:=r) (by simp [SR.obs]) PI.out d bs hrb HX.out);rw [HDL.out,HI.out] at HRP;clear hrb;go_wp2_with (go_at_call 36;(with_reducible refine HRP.out.mono ?_);refine halt_ ?_)
  rintro e w5 ⟨r2,rfl,s6,hrx⟩;have PI2:=hid (PI.out.put HX.out PX.out hrx);clear hrx;have S7:=hid ((s6.newCellAt 54 #[.slice r2.A r2.E.length r2.c,.slice r2.B r2.E.length r2.k] (H:=w5.heap.size) rfl).newCellAt 31 #[.int .u64 i.1,.int .i64 i.2] (H:=w5.heap.size+1) (by simp));clear s6 HRP S5 k0 k1;go_upto_region 16 with fail
  generalize (w5.alloc _).alloc _=W5 at S7 |-; generalize w5.heap.size=g22 at S7 |-; have q0:=(S7.out.cell 0 rfl).cell 0;have q1:=(S7.out.cell 0 rfl).cell 1;have p0:=(S7.out.cell 3 rfl).cell 0;have p1:=(S7.out.cell 3 rfl).cell 1;go_upto_region 18 with fail
  clear q0 q1 p0 p1;have y0:=(S7.out.cell 1 rfl).cell 0;have y1:=(S7.out.cell 1 rfl).cell 1;have z0:=(S7.out.cell 10 rfl).cell 0;have z1:=(S7.out.cell 10 rfl).cell 1;have f0:=(S7.out.cell 10 rfl).frozen 0;have f1:=(S7.out.cell 10 rfl).frozen 1;have hgne:=S7.out.ne (i:=1) (j:=10) rfl rfl (by decide);have S6:=hid ((S7.out.setAt 10 rfl 0 (.slice r2.A r2.E.length r2.c)).setAt 10 rfl 1 (.slice r2.B r2.E.length r2.k));clear S7;have S7:Hid (SW w.heap.size w (trL x2 r2 g7 tg A cap L (n2+1) l) _):=SW.few (pre:=[_,_,_,_,_,_,_,_,_,_,_,_]) S6.out [4,5,6,7,2,10,11] (n:=12) rfl (by decide) (by decide);clear S6;have k0:=(S7.out.cell 5 rfl).cell 0;have k1:=(S7.out.cell 5 rfl).cell 1;have HIS:=hid (is_X S7.out PI2.out HPS2.out (zA ..));go_wp2_with (go_at_call 40;(with_reducible refine HIS.out.mono ?_);refine halt_ ?_)
  rintro e w9 ⟨rfl,s9⟩;have S8:Hid (SW w.heap.size w (trL x2 r2 g7 tg A cap L (n2+1) l) w9):=s9;have HDE:=hid (dead_X S8.out PI2.out HPS2.out);clear s9 HIS S7 k0 k1;go_wp2_with (go_at_call 47;(with_reducible refine HDE.out.mono ?_);refine halt_ ?_)
  rintro e w10 ⟨rfl,rfl⟩;clear HDE;go_wp2_with fail
  go_roundw
  case rel=>exact ⟨m,(n2+1),_,x2,r2,rfl,rfl,HPS2.out,by go_num,by omega,by omega,PI2.out.more (by omega),S8.out⟩
  simp [intOf]
end
end
section
open Go.RowKit Go.MapKept Go.ChangeMaps Go.Shelf Go.Sort
theorem law7 {A:Option Addr} {L:List Int} {n:Nat} (e:L.length=n) (cap:Nat) (w:World) (hr:RdT w w.heap.size A L) (hl:n<=9223372036854775807):Calls Tryz.prog 7 #[.slice A n cap] w (fun e w'=>e= .returned (.bool true)/\Below w.heap.size w w'):=by
 subst e;exact law7_any (SW.startIn hr hl) (by simp) cap
end
section
open Go.RowKit Go.ChangeShapes
theorem cell_lt {W:World} {b o:Nat} {v:Value} (h:W.cell? ⟨b,o,none⟩=some v):b<W.heap.size:=by
 rcases Nat.lt_or_ge b W.heap.size with h1 | h1
 · exact h1
 exfalso
 simp [World.cell?, Array.getElem?_eq_none h1] at h
theorem open_nums {H:Type} {enc:TypeId×Value->H} {W:World} {base:Nat} {spare:Nat->Bool} {held:Bool} {A:Option Addr} {len cap:Nat} {d:DataW H} {p:List MemPlace}
 (h:DataW.Trod enc Tryz.prog W base spare held 47 (.slice A len cap) d p):∃ xs:List Int,xs.length=len/\RdT W W.heap.size A xs/\len<=9223372036854775807:=by
 obtain ⟨fuel,hf⟩:=h;rcases Go.ChangeShapes.open_ints Tryz.underlying47 Tryz.underlying3 (by kernel_rfl) hf with ⟨hcs,_⟩ | ⟨a,l,c,zs,hcs,_,hl,hm,hz,_,hx,_⟩
 · simp [Value.cells] at hcs;obtain ⟨rfl,rfl,rfl⟩:=hcs;exact ⟨[],rfl,fun hp=>absurd hp (by simp),by omega⟩
 simp [Value.cells] at hcs;obtain ⟨rfl,rfl,rfl⟩:=hcs;have hlz:len<=zs.length:=by rw [hz];split<;>omega
 unfold maxLen at hm;refine ⟨zs.take len,by rw [zB];omega,fun hp=>?_,by omega⟩;have hp':0<len:=by rw [zB] at hp;omega
 obtain ⟨b,off,spot⟩:=a;have h0:=hx 0 (by omega);have hspot:spot=none:=by simpa [Addr.add] using World.cell?_spot h0
 subst hspot;have hadd:∀ j,(⟨b,off,none⟩:Addr).add j=⟨b,off+j,none⟩:=fun j=>by unfold Addr.add;split<;>simp_all
 rw [hadd] at h0;refine ⟨b,off,rfl,cell_lt h0,fun j hj=>?_⟩;rw [zB] at hj;have:=hx j (by omega);rw [hadd] at this;rw [this,List.getD_eq_getElem?_getD,List.getD_eq_getElem?_getD,List.getElem?_take_of_lt (by omega)]
end
end Go.Proofs.YteabgcollokgjaaGreatDoor
