/- Q -/
import Derived.Test.YteabgcollokgjaaGreatDoorQB39
import Derived.ChangeSlices
import Derived.ProofKit
set_option linter.unusedSimpArgs false
set_option linter.unusedVariables false
set_option maxRecDepth 100000
set_option maxHeartbeats 32000000
open Go.Lib (hid)
open List renaming getD_eq_getElem?_getD → zA,length_take → zB,getElem?_eq_getElem → zC,setIfInBounds_toArray → zD
namespace Go.Proofs.YteabgcollokgjaaGreatDoor
section
open Go.RowKit Go.MapKept Go.ChangeMaps Go.Shelf Go.Sort
attribute [local go_sem] wext_cell
section
variable {w:World} {l:List Ob}
theorem law18_any (h:SW w.heap.size w l w) {A:Option Addr} {L:List Int} (hin:inOb A L∈l) (cap:Nat) (fz:Int) (h0:0<w.heap.size) (hS:Syn w):Calls Tryz.prog 18 #[.slice A L.length cap,.int .i64 fz] w (fun e w'=>e= .returned (.bool true)/\Below w.heap.size w w'):=by
 have S0:=hid h;have HSH:=hid (Short_any w);have HIN:=hid hin;have HSY:=hid hS;have H0:=hid h0;clear h hin hS h0;go_enter Tryz.func18,Tryz.ntmps18;go_wp2_with (go_at_call 32;(with_reducible refine HSH.out.mono ?_);refine halt_ ?_)
 rintro e w1 ⟨v,rfl,hb1⟩;have S1:=hid (S0.out.on hb1);clear hb1 HSH S0;cases v with
 | false=>
  go_wp2_with fail
  go_ret;exact ⟨rfl,S1.out.2⟩
 | true=>
  have HBG:=hid (begin_any S1.out HIN.out cap);go_wp2_with (go_at_call 60;(with_reducible refine HBG.out.mono ?_);refine halt_ ?_)
  rintro e w2 ⟨⟨tg,x1,c1,r1,CA1,cc1,cd1⟩,LA,lc1,rfl,s2,ok1⟩;have OK1:=hid ok1;obtain ⟨cs,HCS1⟩:∃ cs:Array Value,Hid (#[vPtr tg,vPtr x1.p,vPtr x1.ps,vPtr c1.cp,.slice r1.A r1.E.length r1.c,.slice r1.B r1.E.length r1.k,.slice CA1 cd1.length cc1,.slice none 0 0]=cs):=⟨_,rfl⟩;have HT0:Hid (cs[0]? =some (vPtr tg)):=by rw [Hid, <- HCS1.out];rfl
  have HT1:Hid (cs[1]? =some (vPtr x1.p)):=by rw [Hid, <- HCS1.out];rfl
  have HT2:Hid (cs[2]? =some (vPtr x1.ps)):=by rw [Hid, <- HCS1.out];rfl
  have HT3:Hid (cs[3]? =some (vPtr c1.cp)):=by rw [Hid, <- HCS1.out];rfl
  have S2:Hid (SW w.heap.size w (cellOb w2.heap.size 102 cs::coOb c1::x1.obs (tpOb tg A cap L (bgE L).n::riOb LA (bgE L).live::r3Ob r1::riOb CA1 cd1::l)) (w2.alloc (.cells cs 102))):=s2.newCell 102 cs;obtain ⟨g5,HG5⟩:∃ g5,Hid (w2.heap.size=g5):=⟨_,rfl⟩;obtain ⟨W2,HW2⟩:∃ W2,Hid (w2.alloc (.cells cs 102)=W2):=⟨_,rfl⟩;rw [HG5.out,HW2.out] at S2;obtain ⟨R,HR1⟩:∃ R,Hid ((r3Ob r1::riOb CA1 cd1::l)=R):=⟨_,rfl⟩;rw [HR1.out] at S2;have S3:Hid (SW w.heap.size w (x1.obs (coOb c1::tpOb tg A cap L (bgE L).n::riOb LA (bgE L).live::cellOb g5 102 cs::R)) W2):=SW.front (pre:=[_,_,_,_,_,_,_,_]) (t:=R) S2.out [2,3,4,5,1,6,7,0] (n:=8) rfl (by decide);have HKN:=hid (known61_any W2);clear ok1 s2 HBG S1 S2 HR1;go_upto_region 4 with fail
  rw [HCS1.out,HW2.out,HG5.out];clear HW2 HG5 HCS1;go_wp2_with (go_at_call 61;(with_reducible refine HKN.out.mono ?_);refine halt_ ?_)
  rintro e w3 ⟨rfl,hb3⟩;have S4:=hid (S3.out.on hb3);have HIDS:=hid (IDs_S (x:=x1) S4.out (by have h2:x1.C.length<=11:=OK1.out.few;omega));have k2:w3.cell? ⟨g5,2,none⟩=some (vPtr x1.ps):=((S4.out.cell 7 rfl).cell 2).trans HT2.out;clear hb3 HKN S3 HIN;go_wp2_with (go_at_call 28;(with_reducible refine HIDS.out.mono ?_);refine halt_ ?_)
  rintro e w4 ⟨FA,fc,first,rfl,hpf,hsf,s4⟩;have HPF:=hid hpf;obtain ⟨live,HLV⟩:∃ live,Hid ((bgE L).live=live):=⟨_,rfl⟩;obtain ⟨N0,HN0⟩:∃ N0,Hid ((bgE L).n=N0):=⟨_,rfl⟩
  have hN0:N0<=67:=by
   have h1:=bgS_n L (bgK L);have h2:=(bgK_le L).2;have e:(bgE L).n=(bgS L (bgK L)).n:=rfl;rw [<- HN0.out,e];omega
  have hll:live.length<=11:=by
   have h1:=(bgS_live L (bgK L)).1;have h2:=(bgK_le L).2;have e:(bgE L).live=(bgS L (bgK L)).live:=rfl;rw [<- HLV.out,e];omega
  have hfl:first.length<=11:=by
   have h1:=hpf.length_eq;have h2:x1.C.length<=11:=OK1.out.few;rw [List.length_map] at h1;omega
  obtain ⟨P0,HP0⟩:∃ P0,Hid ((bgE L).P=P0):=⟨_,rfl⟩
  have HFI:Hid (∀ t∈P0,fpOf t∈first):=fun t ht=>by
   have h1:=OK1.out.tx.has (fpOf t);rw [HP0.out,decide_eq_true (List.mem_map.2 ⟨t,ht,rfl⟩)] at h1;exact hpf.mem_iff.2 (asc_key.1 h1)
  have HLI:Hid (∀ i∈live,∃ t∈P0,fpOf t=i/\IsText t):=fun i hi=>by
   have h1:=(bgS_live L (bgK L)).2 i (by rw [<- HLV.out] at hi;exact hi);obtain ⟨t,ht,e⟩:=List.mem_map.1 h1;have ht:t∈(bgE L).P:=ht;exact ⟨t,HP0.out ▸ ht,e,OK1.out.tx.text t ht⟩
  have CI0:=hid (fun (r':Rp) (n:Int)=>CrI.start OK1.out r' n);rw [HP0.out,HLV.out] at CI0
  have S5:Hid (SW w.heap.size w (coOb c1::x1.obs (riOb FA first::tpOb tg A cap L N0::riOb LA live::cellOb g5 102 cs::R)) w4):=by
   have:=s4;rw [HLV.out,HN0.out] at this;exact SW.front (pre:=[_,_,_,_,_,_]) this [5,1,2,3,4,0] (n:=6) rfl (by decide)
  rw [HLV.out];obtain ⟨cp,HCP⟩:∃ cp,Hid (c1.cp=cp):=⟨_,rfl⟩;obtain ⟨ps,HQS⟩:∃ ps,Hid (x1.ps=ps):=⟨_,rfl⟩;obtain ⟨dp,HDP⟩:∃ dp,Hid (x1.p=dp):=⟨_,rfl⟩
  have CI0:Hid (∀ (r':Rp) (n:Int),CrI P0 live cp ps dp c1 { x1 with r:=r',s:={ x1.s with f:=n } }):=fun r' n=>by
   have:=CI0.out r' n;rw [<- HCP.out, <- HQS.out, <- HDP.out];exact this
  rw [HDP.out] at HT1;rw [HCP.out] at HT3;clear hpf hsf s4 HIDS k2 S4 OK1 HP0 HN0 HPF HT2;go_upto_region 7 with fail
  have S6:=hid S5.out.drew;clear S5;have HFU:=hid (fun n hn=>Fuse_S S6.out (k:=1) (p:=x1.p) (r:=x1.r) (s:=x1.s) rfl n hn);rw [HDP.out] at HFU;refine wp_region_held_tail [(0,true),(1,true),(2,true),(3,false),(4,true)] (fun w'=>w'.cell? ⟨g5,1,none⟩=some (vPtr dp)) (by kernel_rfl) (fun _ _ d _ _ h=>by cases d<;>exact h) (by kernel_rfl) (((S6.out.cell 8 rfl).cell 1).trans HT1.out) ?_;simp only [pk_]
  iterate 3
   (refine wpHeld_take (v:=?_) (Or.inl ⟨by rfl,?_⟩) ?_
    rotate_left
    · (intro w' hSw;have h1:=hSw;go_simp;try with_reducible rfl)
    try simp only [Act.put,zD,List.set])
  refine wpHeld_run (fun K hK=>?_);go_simp;go_at_call 24
  refine (Fold_any fz 8 _ (by omega)).mono ?_;rintro e w5 ⟨fv,hfv,rfl,rfl⟩;have hfv2:=hfv.2.1 (by omega);have hfv1:=hfv.1;have hw1:IntKind.i64.wrap (1+fv)=1+fv:=IntWalk.i64_in _ (by omega);have hw2:wrap64 (1+fv)=1+fv:=by unfold wrap64;omega
  go_wp2_with fail
  refine hK.out _ _ (((S6.out.cell 8 rfl).cell 1).trans HT1.out) ?_;clear hK K;try simp only [Act.put,zD,List.set]
  (refine wpHeld_take (v:=?_) (Or.inl ⟨by rfl,?_⟩) ?_
   rotate_left
   · (intro w' hSw;have h1:=hSw;go_simp;try with_reducible rfl)
   try simp only [Act.put,zD,List.set])
  refine wpHeld_nil ?_;simp only [dz_];go_wp2_with (go_at_call 50;(with_reducible refine (HFU.out _ (by omega)).mono ?_);refine halt_ ?_)
  rintro e w6 ⟨rfl,r6,s6⟩;obtain ⟨x,HX⟩:∃ x:SR,Hid (({ x1 with r:=r6,s:={ x1.s with f:=max (1+fv) 0 } }:SR)=x):=⟨_,rfl⟩;have ci:=CI0.out r6 (max (1+fv) 0);rw [HX.out] at ci;have CI:=hid ci;clear ci
  have S7:Hid (SW w.heap.size w (coOb c1::x.obs (riOb FA first::tpOb tg A cap L N0::riOb LA live::cellOb g5 102 cs::R)) w6):=by
   rw [Hid, <- HX.out];have:=s6;rw [<- HDP.out] at this;exact this
  clear s6 HFU S6 HX;go_upto_block 0 with fail
  go_cut [] from 64 (fun w'=>∃ (n:Nat) (r:Rp) (s:St),n<=N0+9/\LostI P0 live s/\SW w.heap.size w (devOb dp r s::riOb FA first::tpOb tg A cap L n::riOb LA live::cellOb g5 102 cs::R) w')
  case first=>
   go_wp2_with fail
   go_loopw [9] (fun s9 wr=>∃ (k n:Nat) (c:CR) (x:SR),k<=9/\s9= .int .i64 (k:Int)/\n=N0+k/\CrI P0 live cp ps dp c x/\SW w.heap.size w (coOb c::x.obs (riOb FA first::tpOb tg A cap L n::riOb LA live::cellOb g5 102 cs::R)) wr) (fun s9 _=>9-(intOf s9).toNat)
   case atStart=>exact ⟨0,N0,c1,x,by omega,rfl,rfl,CI.out,S7.out⟩
   clear S7 CI;clear x;obtain ⟨k,n,c,x,hk,rfl,hn,hci,hs⟩:=hrel;have CI:=hid hci;have S1:=hid hs;clear hci hs;by_cases hlt:k<9
   · have hlt':(k:Int)<9:=by omega
     go_upto_region 11 with fail
     have S8:=hid S1.out.drew;clear S1;have HNX:Hid (Calls Tryz.prog 33 #[vPtr tg,.int .i64 3] wr.drew (fun e w'=>e= .returned (.int .i64 (tnext L n 3))/\SW w.heap.size w (coOb c::x.obs (riOb FA first::tpOb tg A cap L (n+1)::riOb LA live::cellOb g5 102 cs::R)) w')):=Next_x S8.out 6 rfl 3 (by omega) (by omega);refine wp_region_held_tail [(0,true),(1,true),(2,true),(3,true),(4,false),(5,true),(6,false),(7,true),(8,true),(9,true),(10,true)] (fun w'=>w'.cell? ⟨g5,3,none⟩=some (vPtr cp)/\w'.cell? ⟨g5,0,none⟩=some (vPtr tg)) (by kernel_rfl) (fun _ _ d _ _ h=>by cases d<;>exact h) (by kernel_rfl) (⟨((S8.out.cell 8 rfl).cell 3).trans HT3.out,((S8.out.cell 8 rfl).cell 0).trans HT0.out⟩) ?_;simp only [pk_]
     iterate 4
      (refine wpHeld_take (v:=?_) (Or.inl ⟨by rfl,?_⟩) ?_
       rotate_left
       · (intro w' hSw;obtain ⟨h1,h2⟩:=hSw;go_simp;try with_reducible rfl)
       try simp only [Act.put,zD,List.set])
     refine wpHeld_run (fun K hK=>?_);go_simp;go_at_call 33
     refine HNX.out.mono ?_;rintro e w8 ⟨rfl,s8⟩;have S9:=hid s8;generalize tnext L n 3=q;have HST:=hid (fun m=>Step_C S9.out CI.out m);clear s8 HNX S8;go_wp2_with fail
     refine hK.out _ _ ⟨((S9.out.cell 8 rfl).cell 3).trans HT3.out,((S9.out.cell 8 rfl).cell 0).trans HT0.out⟩ ?_;clear hK K;try simp only [Act.put,zD,List.set]
     (refine wpHeld_take (v:=?_) (Or.inl ⟨by rfl,?_⟩) ?_
      rotate_left
      · (intro w' hSw;obtain ⟨h1,h2⟩:=hSw;go_simp;try with_reducible rfl)
      try simp only [Act.put,zD,List.set])
     refine wpHeld_run (fun K hK=>?_);go_simp;go_at_call 62
     refine (HST.out _).mono ?_;rintro e w9 (⟨A2,q2,cap2,c2,x2,rfl,s9,hi2⟩ | ⟨c2,x2,rfl,s9,hl2,hp2⟩)
     · have S10:=hid s9;have CI2:=hid hi2;clear s9 hi2 HST S9 CI;go_wp2_with fail
       refine hK.out _ _ ⟨((S10.out.cell 8 rfl).cell 3).trans HT3.out,((S10.out.cell 8 rfl).cell 0).trans HT0.out⟩ ?_;clear hK K;try simp only [Act.put,zD,List.set]
       iterate 4
        (refine wpHeld_take (v:=?_) (Or.inl ⟨by rfl,?_⟩) ?_
         rotate_left
         · (intro w' hSw;obtain ⟨h1,h2⟩:=hSw;go_simp;try with_reducible rfl)
         try simp only [Act.put,zD,List.set])
       refine wpHeld_nil ?_;simp only [dz_];go_wp2_with fail
       go_roundw
       case rel=>exact ⟨k+1,n+1,c2,x2,by omega,by go_num,by omega,CI2.out,S10.out⟩
       simp [intOf];omega
     have S10:=hid s9;have LI2:=hid hl2;clear s9 hl2 HST S9 CI;go_wp2_with fail
     refine hK.out _ _ ⟨((S10.out.cell 8 rfl).cell 3).trans HT3.out,((S10.out.cell 8 rfl).cell 0).trans HT0.out⟩ ?_;clear hK K;try simp only [Act.put,zD,List.set]
     iterate 4
      (refine wpHeld_take (v:=?_) (Or.inl ⟨by rfl,?_⟩) ?_
       rotate_left
       · (intro w' hSw;obtain ⟨h1,h2⟩:=hSw;go_simp;try with_reducible rfl)
       try simp only [Act.put,zD,List.set])
     refine wpHeld_nil ?_;simp only [dz_];go_wp2_with fail
     go_meet;refine ⟨n+1,x2.r,x2.s,by omega,LI2.out,?_⟩;have:=SW.few (pre:=[_,_,_,_,_]) S10.out [1] (n:=5) rfl (by decide) (by decide);rw [<- hp2];exact this
   obtain rfl:k=9:=by omega
   go_wp2_with fail
   go_meet;refine ⟨n,x.r,x.s,by omega,CI.out.lost,?_⟩;have:=SW.few (pre:=[_,_,_,_,_]) S1.out [1] (n:=5) rfl (by decide) (by decide);rw [<- CI.out.xp];exact this
  clear S7 CI;clear x;obtain ⟨n,r,s,hn,hli,hs⟩:=hcut;have LI:=hid hli;have S1:=hid hs.drew;clear hli hs;go_upto_region 15 with fail
  have HN5:Hid (Calls Tryz.prog 33 #[vPtr tg,.int .i64 5] wc.drew (fun e w'=>e= .returned (.int .i64 (tnext L n 5))/\SW w.heap.size w (devOb dp r s::riOb FA first::tpOb tg A cap L (n+1)::riOb LA live::cellOb g5 102 cs::R) w')):=Next_x S1.out 2 rfl 5 (by omega) (by omega);refine wp_region_held_tail [(0,true),(1,true),(2,true),(3,true),(5,true),(6,true),(4,false),(7,false),(8,true),(9,true)] (fun w'=>w'.cell? ⟨g5,1,none⟩=some (vPtr dp)/\w'.cell? ⟨g5,0,none⟩=some (vPtr tg)) (by kernel_rfl) (fun _ _ d _ _ h=>by cases d<;>exact h) (by kernel_rfl) (⟨((S1.out.cell 4 rfl).cell 1).trans HT1.out,((S1.out.cell 4 rfl).cell 0).trans HT0.out⟩) ?_;simp only [pk_]
  iterate 6
   (refine wpHeld_take (v:=?_) (Or.inl ⟨by rfl,?_⟩) ?_
    rotate_left
    · (intro w' hSw;obtain ⟨h1,h2⟩:=hSw;go_simp;try with_reducible rfl)
    try simp only [Act.put,zD,List.set])
  refine wpHeld_run (fun K hK=>?_);go_simp;go_at_call 33
  refine HN5.out.mono ?_;rintro e w5 ⟨rfl,s5⟩;have S2:Hid (SW w.heap.size w (devOb dp r s::riOb FA first::tpOb tg A cap L (n+1)::riOb LA live::cellOb g5 102 cs::R) w5):=s5;have HN6:Hid (Calls Tryz.prog 33 #[vPtr tg,.int .i64 30] w5 (fun e w'=>e= .returned (.int .i64 (tnext L (n+1) 30))/\SW w.heap.size w (devOb dp r s::riOb FA first::tpOb tg A cap L (n+1+1)::riOb LA live::cellOb g5 102 cs::R) w')):=Next_x S2.out 2 rfl 30 (by omega) (by omega);obtain ⟨kp,HKP⟩:∃ kp,Hid (tnext L n 5=kp):=⟨_,rfl⟩;rw [HKP.out];clear s5 HN5 S1 HKP;go_wp2_with fail
  refine hK.out _ _ ⟨((S2.out.cell 4 rfl).cell 1).trans HT1.out,((S2.out.cell 4 rfl).cell 0).trans HT0.out⟩ ?_;clear hK K;try simp only [Act.put,zD,List.set]
  refine wpHeld_run (fun K hK=>?_);go_simp;go_at_call 33
  refine HN6.out.mono ?_;rintro e w6 ⟨rfl,s6⟩;have S3:Hid (SW w.heap.size w (devOb dp r s::riOb FA first::tpOb tg A cap L (n+1+1)::riOb LA live::cellOb g5 102 cs::R) w6):=s6;obtain ⟨tv,HTV⟩:∃ tv,Hid (tnext L (n+1) 30=tv):=⟨_,rfl⟩;obtain ⟨ht0,ht1⟩:=tnext_in L (n+1) 30;have ht1:=ht1 (by omega);rw [HTV.out] at ht0 ht1 |-; have hw1:IntKind.i64.wrap (tv-1)=tv-1:=IntWalk.i64_in _ (by omega);have hw2:wrap64 (tv-1)=tv-1:=by unfold wrap64;omega
  clear s6 HN6 S2 HTV;go_wp2_with fail
  refine hK.out _ _ ⟨((S3.out.cell 4 rfl).cell 1).trans HT1.out,((S3.out.cell 4 rfl).cell 0).trans HT0.out⟩ ?_;clear hK K;try simp only [Act.put,zD,List.set]
  (refine wpHeld_take (v:=?_) (Or.inl ⟨by rfl,?_⟩) ?_
   rotate_left
   · (intro w' hSw;obtain ⟨h1,h2⟩:=hSw;go_simp;try with_reducible rfl)
   try simp only [Act.put,zD,List.set])
  (refine wpHeld_take (v:=?_) (Or.inl ⟨by rfl,?_⟩) ?_
   rotate_left
   · (intro w' hSw;obtain ⟨h1,h2⟩:=hSw;go_simp;try with_reducible rfl)
   try simp only [Act.put,zD,List.set])
  refine wpHeld_nil ?_;simp only [dz_];go_wp2_with (go_at_call 51;(with_reducible refine (Lose_S S3.out (k:=0) rfl kp (tv-1) (by have:=LI.out.ops;omega) (by omega)).mono ?_);refine halt_ ?_)
  rintro e w7 ⟨rfl,r7,s7⟩;have S4:Hid (SW w.heap.size w (devOb dp r7 (loseS s kp (tv-1))::riOb FA first::tpOb tg A cap L (n+1+1)::riOb LA live::cellOb g5 102 cs::R) w7):=s7;clear s7 S3;have k1:w7.cell? ⟨g5,1,none⟩=some (vPtr dp):=((S4.out.cell 4 rfl).cell 1).trans HT1.out;have HRE:=hid (Restart_S S4.out (k:=0) rfl (by simp [loseS,decideS]));go_wp2_with (go_at_call 52;(with_reducible refine HRE.out.mono ?_);refine halt_ ?_)
  rintro e w8 ⟨rfl,r8,s8⟩;have S5:Hid (SW w.heap.size w (devOb dp r8 (restartS (loseS s kp (tv-1)))::riOb FA first::tpOb tg A cap L (n+1+1)::riOb LA live::cellOb g5 102 cs::R) w8):=s8;rw [lost_s] at S5;obtain ⟨P,hdi,hsh,hke⟩:=LI.out.lost kp (tv-1);have KE:=hid hke;have HOP:=hid (open_lost S5.out H0.out HSY.out hdi hsh);have k1:w8.cell? ⟨g5,1,none⟩=some (vPtr dp):=((S5.out.cell 4 rfl).cell 1).trans HT1.out;clear s8 HRE S4 hdi hsh hke LI;go_wp2_with (go_at_call 20;(with_reducible refine HOP.out.mono ?_);refine halt_ ?_)
  rintro e w9 ⟨x2,rfl,s9,ho2⟩;have OP:=hid ho2;have S6:Hid (SW w.heap.size w (x2.obs (riOb FA first::tpOb tg A cap L (n+1+1)::riOb LA live::cellOb g5 102 cs::R)) w9):=s9;have HIDS:=hid (IDs_S (x:=x2) S6.out (by have:=ho2.tx.few ho2.cl.keys;omega));obtain ⟨ps2,HPS2⟩:∃ ps2,Hid (x2.ps=ps2):=⟨_,rfl⟩;rw [HPS2.out] at HIDS |-; clear s9 ho2 HOP S5 k1;go_wp2_with (go_at_call 28;(with_reducible refine HIDS.out.mono ?_);refine halt_ ?_)
  rintro e w10 ⟨IA,ic,ids,rfl,hpi,hsi,s10⟩;have S7:Hid (SW w.heap.size w (x2.obs (riOb IA ids::riOb FA first::tpOb tg A cap L (n+1+1)::riOb LA live::cellOb g5 102 cs::R)) w10):=SW.front (pre:=[_,_,_,_,_]) s10 [1,2,3,4,0] (n:=5) rfl (by decide)
  have hil:ids.length<=30:=by
   have h1:=hpi.length_eq;have h2:=OP.out.tx.few OP.out.cl.keys;rw [List.length_map] at h1;omega
  have HII:Hid (∀ i∈ids,i∈first):=fun i hi=>by
   obtain ⟨t,ht,e,_⟩:=OP.out.tx.key (hpi.mem_iff.1 hi);rw [<- e];exact HFI.out t (KE.out.1 t ht)
  have HVL:Hid (∀ i∈live,∃ t,valC x2 i=some t/\fpOf t=i/\IsText t):=fun i hi=>by
   obtain ⟨t,ht,e,hx⟩:=HLI.out i hi;refine ⟨t,?_,e,hx⟩;rw [<- e];exact OP.out.tx.val t (KE.out.2 t ht (by rw [e];exact hi))
  clear s10 HIDS S6 hpi hsi KE HLI HFI;go_wp2_with fail
  go_loopw [15] (fun s15 wr=>∃ k:Nat,k<=live.length/\s15= .int .i64 (k:Int)/\SW w.heap.size w (x2.obs (riOb IA ids::riOb FA first::tpOb tg A cap L (n+1+1)::riOb LA live::cellOb g5 102 cs::R)) wr) (fun s15 _=>live.length-(intOf s15).toNat)
  case atStart=>exact ⟨0,Nat.zero_le _,rfl,S7.out⟩
  rename World=>wz;obtain ⟨k,hk,rfl,hs⟩:=hrel;have S8:=hid hs;clear hs S7;by_cases hlt:k<live.length
  · obtain ⟨i,hik⟩:∃ i,live.getD k id0=i:=⟨_,rfl⟩
    have hit:i∈live:=by
     rw [<- hik,zA,zC hlt];exact List.getElem_mem hlt
    obtain ⟨bs,hv,hfp,htx⟩:=HVL.out i hit;have HROW:Hid (∀ (W:World) (m:List Ob),SW w.heap.size w m W->riOb LA live∈m->∃ g,LA=some ⟨g,0,none⟩/\W.cell? ⟨g,k*2,none⟩=some (.int .u64 i.1)/\W.cell? ⟨g,k*2+1,none⟩=some (.int .i64 i.2)):=fun W m hW hm=>hW.rowCell (A:=LA) (ids:=live) hm hlt hik;obtain ⟨gR,hLA,a0,a1⟩:=HROW.out _ _ S8.out (by simp [SR.obs])
    have HCE:Hid (∀ (W:World) (m:List Ob),SW w.heap.size w m W->riOb LA live∈m->W.cell? ⟨gR,k*2,none⟩=some (.int .u64 i.1)/\W.cell? ⟨gR,k*2+1,none⟩=some (.int .i64 i.2)):=fun W m hW hm=>by
     obtain ⟨g,e,h1,h2⟩:=HROW.out W m hW hm;rw [hLA] at e;injection e with e;injection e with e;rw [e];exact ⟨h1,h2⟩
    have HLA:=hid hLA;rw [hLA];have HFP:=hid hfp;have hbl:=htx.hi;have hio:okID i:=by rw [<- hfp];exact htx.ok
    have HG:=hid (Get_L S8.out OP.out.cl i hio bs hv);rw [HPS2.out] at HG;have hki:(k:Int)<(live.length:Int):=by omega
    clear hik hfp hv hit htx hio hLA HROW;go_wp2_with (go_at_call 30;(with_reducible refine HG.out.mono ?_);refine halt_ ?_)
    rintro e w11 ⟨d,rfl,s11⟩;have S9:Hid (SW w.heap.size w (x2.obs (bufOb d bs::riOb IA ids::riOb FA first::tpOb tg A cap L (n+1+1)::riOb LA live::cellOb g5 102 cs::R)) w11):=s11;have hrb:RB w11 d bs:=s11.get 4 (o:=bufOb d bs) rfl;have hdl:d.len=bs.length:=hrb.1.symm;rw [hdl];clear s11 HG S8 hrb hdl a0 a1;go_upto_region 25 with fail
    have S10:=hid S9.out.drew;have HOF:=hid (Of_any d.A d.cap bs w11.drew (S10.out.get 4 (o:=bufOb d bs) rfl:RB _ d bs).rs (by omega));rw [HFP.out] at HOF;clear S9;refine wp_region_held_tail [(0,true),(1,true),(2,true),(3,true),(5,true),(6,true),(7,true),(8,true),(4,false),(9,true)] (fun w'=>w'.cell? ⟨gR,k*2,none⟩=some (.int .u64 i.1)/\w'.cell? ⟨gR,k*2+1,none⟩=some (.int .i64 i.2)) (by kernel_rfl) (fun _ _ d _ _ h=>by cases d<;>exact h) (by kernel_rfl) (HCE.out _ _ S10.out (by simp [SR.obs])) ?_;simp only [pk_]
    iterate 8
     (refine wpHeld_take (v:=?_) (Or.inl ⟨by rfl,?_⟩) ?_
      rotate_left
      · (intro w' hSw;obtain ⟨h1,h2⟩:=hSw;go_simp;try with_reducible rfl)
      try simp only [Act.put,zD,List.set])
    refine wpHeld_run (fun K hK=>?_);go_simp;go_at_call 31
    refine HOF.out.mono ?_;rintro e w12 ⟨rfl,hb12⟩;have S11:=hid (S10.out.on hb12);clear hb12 HOF S10;go_wp2_with fail
    refine hK.out _ _ (HCE.out _ _ S11.out (by simp [SR.obs])) ?_;clear hK K;try simp only [Act.put,zD,List.set]
    (refine wpHeld_take (v:=?_) (Or.inl ⟨by rfl,?_⟩) ?_
     rotate_left
     · (intro w' hSw;obtain ⟨h1,h2⟩:=hSw;go_simp;try with_reducible rfl)
     try simp only [Act.put,zD,List.set])
    refine wpHeld_nil ?_;simp only [dz_];go_wp2_with fail
    go_roundw
    case rel=>exact ⟨k+1,by omega,by go_num,by rw [<- HLA.out];exact SW.few (pre:=[_,_,_,_,_]) S11.out [0,1,2,3] (n:=5) rfl (by decide) (by decide)⟩
    simp [intOf];omega
  obtain rfl:k=live.length:=by omega
  clear HVL;go_wp2_with fail
  rename World=>wv;go_loopw [18] (fun s18 wr=>∃ k:Nat,k<=ids.length/\s18= .int .i64 (k:Int)/\SW w.heap.size w (x2.obs (riOb IA ids::riOb FA first::tpOb tg A cap L (n+1+1)::riOb LA live::cellOb g5 102 cs::R)) wr) (fun s18 _=>ids.length-(intOf s18).toNat)
  case atStart=>exact ⟨0,Nat.zero_le _,rfl,S8.out⟩
  rename World=>wu;obtain ⟨k,hk2,rfl,hs⟩:=hrel;have S9:=hid hs;clear hs S8;by_cases hlt:k<ids.length
  · obtain ⟨i,hik⟩:∃ i,ids.getD k id0=i:=⟨_,rfl⟩
    have hit:i∈ids:=by
     rw [<- hik,zA,zC hlt];exact List.getElem_mem hlt
    have HH2:Hid (Calls Tryz.prog 49 #[.slice FA first.length fc,.agg #[.int .u64 i.1,.int .i64 i.2]] wu (Gives (.bool true) wu)):=by
     have:=rHas_any wu.heap.size first FA fc i.1 i.2 wu (rdID_of (S9.out.1.holds (riOb FA first) (by simp [SR.obs]))) (by omega)
     rw [decide_eq_true (HII.out i hit)] at this;exact this
    obtain ⟨gI,hIA,a0,a1⟩:=S9.out.rowCell (A:=IA) (ids:=ids) (by simp [SR.obs]) hlt hik;have HIA:=hid hIA;rw [hIA];have hki:(k:Int)<(ids.length:Int):=by omega
    clear hik hit hIA;go_wp2_with (go_at_call 49;(with_reducible refine HH2.out.mono ?_);refine halt_ ?_)
    rintro e w12 ⟨rfl,hb12⟩;have S10:=hid (S9.out.on hb12);clear hb12 HH2 S9 a0 a1;go_wp2_with fail
    go_roundw
    case rel=>exact ⟨k+1,by omega,by go_num,by rw [<- HIA.out];exact S10.out⟩
    simp [intOf];omega
  obtain rfl:k=ids.length:=by omega
  go_wp2_with fail
  go_ret;exact ⟨rfl,S9.out.2⟩
end
end
section
open Go.RowKit Go.MapKept Go.ChangeMaps Go.Shelf Go.Sort
theorem Syn.pos {w:World} (h:Syn w):0<w.heap.size:=by
 obtain ⟨ev,h1,_⟩:=h;exact Lib.lt_of_cell h1
theorem law18 {A:Option Addr} {L:List Int} {n:Nat} (e:L.length=n) (cap:Nat) (f:Int) (w:World) (hr:RdT w w.heap.size A L) (hl:n<=9223372036854775807) (hS:Syn w):Calls Tryz.prog 18 #[.slice A n cap,.int .i64 f] w (fun e w'=>e= .returned (.bool true)/\Below w.heap.size w w'):=by
 subst e;exact law18_any (SW.startIn hr hl) (by simp) cap f hS.pos hS
end
section
open Go.RowKit Go.ChangeShapes
theorem cell_lt {W:World} {b o:Nat} {v:Value} (h:W.cell? ⟨b,o,none⟩=some v):b<W.heap.size:=by
 rcases Nat.lt_or_ge b W.heap.size with h1 | h1
 · exact h1
 exfalso
 simp [World.cell?, Array.getElem?_eq_none h1] at h
theorem open_nums {H:Type} {enc:TypeId×Value->H} {W:World} {base:Nat} {spare:Nat->Bool} {held:Bool} {A:Option Addr} {len cap:Nat} {d:DataW H} {p:List MemPlace}
 (h:DataW.Trod enc Tryz.prog W base spare held 47 (.slice A len cap) d p):∃ xs:List Int,xs.length=len/\RdT W W.heap.size A xs/\len<=9223372036854775807:=by
 obtain ⟨fuel,hf⟩:=h;rcases Go.ChangeShapes.open_ints Tryz.underlying47 Tryz.underlying3 (by kernel_rfl) hf with ⟨hcs,_⟩ | ⟨a,l,c,zs,hcs,_,hl,hm,hz,_,hx,_⟩
 · simp [Value.cells] at hcs;obtain ⟨rfl,rfl,rfl⟩:=hcs;exact ⟨[],rfl,fun hp=>absurd hp (by simp),by omega⟩
 simp [Value.cells] at hcs;obtain ⟨rfl,rfl,rfl⟩:=hcs;have hlz:len<=zs.length:=by rw [hz];split<;>omega
 unfold maxLen at hm;refine ⟨zs.take len,by rw [zB];omega,fun hp=>?_,by omega⟩;have hp':0<len:=by rw [zB] at hp;omega
 obtain ⟨b,off,spot⟩:=a;have h0:=hx 0 (by omega);have hspot:spot=none:=by simpa [Addr.add] using World.cell?_spot h0
 subst hspot;have hadd:∀ j,(⟨b,off,none⟩:Addr).add j=⟨b,off+j,none⟩:=fun j=>by unfold Addr.add;split<;>simp_all
 rw [hadd] at h0;refine ⟨b,off,rfl,cell_lt h0,fun j hj=>?_⟩;rw [zB] at hj;have:=hx j (by omega);rw [hadd] at this;rw [this,zA,zA,List.getElem?_take_of_lt (by omega)]
end
end Go.Proofs.YteabgcollokgjaaGreatDoor
