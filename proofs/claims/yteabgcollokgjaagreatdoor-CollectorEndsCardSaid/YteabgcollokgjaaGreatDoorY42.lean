/- Q -/
import Derived.Test.YteabgcollokgjaaGreatDoorY41
import Derived.ChangeSlices
import Derived.ProofKit
set_option linter.unusedSimpArgs false
set_option linter.unusedVariables false
set_option maxRecDepth 100000
set_option maxHeartbeats 32000000
open Go.Lib (hid)
open List renaming getD_eq_getElem?_getD → zA,length_take → zB,length_map → zC,take_of_length_le → zD,getElem?_eq_getElem → zE,length_drop → zF
namespace Go.Proofs.YteabgcollokgjaaGreatDoor
section
open Go.RowKit Go.MapKept Go.ChangeMaps Go.Shelf Go.Sort
def LiveI (live:List ID) (c:CR) (x:SR):Prop:=∀ i∈live,(asc x.C i).isSome=true/\i ∉ c.cand
theorem LiveI.keep {live:List ID} {c c':CR} {x x':SR} (h:LiveI live c x) (k:Keeps c x c' x'):LiveI live c' x':=fun i hi=>
 ⟨k.has i (h i hi).2 (h i hi).1,fun hm=>(h i hi).2 (k.cand i hm)⟩
theorem endH_ge {hs:List Hold} {k:Nat} (h:∀ e∈hs,(k:Int)<=e.1):∀ e∈endH hs (k:Int),((k+1:Nat):Int)<=e.1:=fun e he=>by
 obtain ⟨h1,h2⟩:=List.mem_filter.1 he;have h3:e.1≠(k:Int):=by simpa using h2
 have:=h e h1;omega
structure EndI (kp sp:Nat) (C0:List ID) (x0:SR) (j:Nat) (c:CR) (x:SR):Prop where
 cp:c.cp=kp
 ps:c.ps=x.ps
 xp:x.ps=sp
 cl:Cl [fileN nmS] x
 tx:∃ P,TX x P
 free:∀ i,i≠id0->heldC c i=false
 cand:c.cand=C0.drop j
 has:∀ i,(asc x.C i).isSome=((asc x0.C i).isSome&& !decide (i∈C0.take j))
theorem EndI.start {kp sp:Nat} {c:CR} {x:SR} {r:RC} (h:PlayI kp sp c x r) (h0:r.hs=[]):EndI kp sp c.cand x 0 c x:=by
 obtain ⟨P,hT,_⟩:=h.tx;exact ⟨h.cp,h.ps,h.xp,h.cl,⟨P,hT⟩,fun i hi=>by rw [h.se.heldC hi,h0];rfl,rfl,fun i=>by simp⟩
theorem EndI.takes {kp sp:Nat} {C0:List ID} {x0:SR} {j:Nat} {c:CR} {x:SR} (h:EndI kp sp C0 x0 j c x) (hz:∀ i∈C0,i≠id0) (q:Int):stepL c q=(C0.drop j).take q.toNat:=by
 have e:(c.cand.filter fun i=> !heldC c i)=c.cand:=List.filter_eq_self.2 (fun i hi=>by
  rw [h.free i (hz i (List.drop_subset j C0 (by rw [<- h.cand];exact hi)))];rfl)
 show (c.cand.filter fun i=> !heldC c i).take q.toNat=_;rw [e,h.cand]
theorem EndI.step {kp sp:Nat} {C0:List ID} {x0:SR} {j:Nat} {c:CR} {x x':SR} (h:EndI kp sp C0 x0 j c x) (hn:C0.Nodup) (hz:∀ i∈C0,i≠id0) (hj:j<=C0.length) {q:Int} (hq:1<=q) {G:List ID} (hG:stepL c q=G) (hg:Gone x G x') (hc:Cl [fileN nmS] x'):
 EndI kp sp C0 x0 (j+G.length) { c with cand:=lessL (setI G) c.cand } x'/\j+G.length<=C0.length/\(j<C0.length->1<=G.length):=by
 rw [h.takes hz] at hG;obtain ⟨t1,t2,t3,t4⟩:=take_more hj hG;obtain ⟨P,hT⟩:=h.tx;refine ⟨⟨h.cp,h.ps.trans hg.ps.symm,hg.ps.trans h.xp,hc,⟨_,hT.gone hg⟩,h.free,?_,fun i=>?_⟩,t3,t4 (by omega)⟩
 · show lessL (setI G) c.cand=_;rw [h.cand, <- hG,lessL_take (hn.sublist (List.drop_sublist _ _)),hG,t2]
 rw [hg.has,h.has,t1];by_cases h1:i∈C0.take j<;>by_cases h2:i∈G<;>simp [h1,h2]
structure EndR (C0:List ID) (r0:R3) (j:Nat) (r:RC):Prop where
 hs:r.hs=[]
 cd:r.cd=C0.drop j
 tx:∃ P,RTX r.r P
 has:∀ i,i∈r.r.ids↔i∈r0.ids/\i ∉ C0.take j
theorem lessR_nil (l:List ID):lessR l []=l:=by
 unfold lessR;rw [List.filter_eq_self];intro i _;simp
theorem EndR.start {kp sp:Nat} {c:CR} {x:SR} {r:RC} (h:PlayI kp sp c x r) (h0:r.hs=[]):EndR c.cand r.r 0 r:=by
 obtain ⟨P,_,hR⟩:=h.tx;exact ⟨h0,h.cd,⟨P,hR⟩,fun i=>by simp⟩
theorem EndR.step {C0:List ID} {r0:R3} {j:Nat} {r r':RC} (h:EndR C0 r0 j r) (hn:C0.Nodup) (hj:j<C0.length) {G:List ID} (hG:stR r.hs r.cd 1=G) (h1:r'.r.E=remE r.r.E G) (h2:r'.cd=lessR r.cd G) (h3:r'.hs=r.hs):EndR C0 r0 (j+1) r':=by
 have hG':(C0.drop j).take 1=G:=by
  rw [<- hG,stR,h.hs,h.cd];show _=(lessR (C0.drop j) []).take _;rw [lessR_nil];rfl
 obtain ⟨t1,t2,_,t4⟩:=take_more (Nat.le_of_lt hj) hG'
 have hl:G.length=1:=by
  have:=t4 (Nat.le_refl _) hj;have h5:G.length<=1:=by rw [<- hG',zB];omega
  omega
 rw [hl] at t1 t2;obtain ⟨P,hR⟩:=h.tx;have hR':=hR.rem h1;refine ⟨h3.trans h.hs,?_,⟨_,hR'⟩,fun i=>?_⟩
 · rw [h2,h.cd, <- lessL_lessR, <- hG',lessL_take (hn.sublist (List.drop_sublist _ _)),t2]
 rw [t1,List.mem_append,not_or, <- and_assoc, <- h.has]
 have e:r'.r.ids=(remE r.r.E G).map (·.id):=by
  show r'.r.E.map (·.id)=_;rw [h1]
 rw [e];simp only [remE,List.mem_map,List.mem_filter,R3.ids];constructor
 · rintro ⟨f,⟨hf,hq⟩,rfl⟩;exact ⟨⟨f,hf,rfl⟩,by simpa using hq⟩
 rintro ⟨⟨f,hf,rfl⟩,hq⟩;exact ⟨f,⟨hf,by simpa using hq⟩,rfl⟩
section
variable {b:Nat} {w0 w w':World} {l:List Ob}
theorem law14_any (h:SW w.heap.size w l w) {A:Option Addr} {L:List Int} (hin:inOb A L∈l) (cap:Nat) (N1:Int):Calls Tryz.prog 14 #[.slice A L.length cap,.int .i64 N1] w (fun e w'=>e= .returned (.bool true)/\Below w.heap.size w w'):=by
 have S0:=hid h;have HSH:=hid (Short_any w);have HIN:=hid hin;clear h hin;go_enter Tryz.func14,Tryz.ntmps14;go_wp2_with (go_at_call 32;(with_reducible refine HSH.out.mono ?_);refine halt_ ?_)
 rintro e w1 ⟨v,rfl,hb1⟩;have S1:=hid (S0.out.on hb1);clear hb1 HSH S0;cases v with
 | false=>
  go_wp2_with fail
  go_ret;exact ⟨rfl,S1.out.2⟩
 | true=>
  have HBG:=hid (begin_any S1.out HIN.out cap);go_wp2_with (go_at_call 60;(with_reducible refine HBG.out.mono ?_);refine halt_ ?_)
  rintro e w2 ⟨⟨tg,x1,c1,r1,CA1,cc1,cd1⟩,LA,lc,rfl,s2,ok1⟩;have OK1:=hid ok1
  have LV1:Hid (LiveI (bgE L).live c1 x1):=fun i hi=>⟨by
   rw [ok1.tx.has,decide_eq_true_eq];exact (bgS_live L (bgK L)).2 i hi,fun hm=>(bg_key ok1 hm).2 hi⟩
  obtain ⟨r0,HR0⟩:∃ r0:RC,Hid (⟨r1,CA1,cc1,cd1,none,0,[]⟩=r0):=⟨_,rfl⟩
  have PI1:Hid (PlayI c1.cp x1.ps c1 x1 r0):=by
   rw [Hid, <- HR0.out];exact PlayI.start ok1
  have hh0:r0.hs.length=0:=by rw [<- HR0.out];rfl
  have S2:Hid (SW w.heap.size w (hdOb none []::cellOb w2.heap.size 102 #[vPtr tg,vPtr x1.p,vPtr x1.ps,vPtr c1.cp,.slice r1.A r1.E.length r1.c,.slice r1.B r1.E.length r1.k,.slice CA1 cd1.length cc1,.slice none 0 0]::coOb c1::x1.obs (tpOb tg A cap L (bgE L).n::riOb LA (bgE L).live::r3Ob r1::riOb CA1 cd1::l)) (w2.alloc (.cells #[vPtr tg,vPtr x1.p,vPtr x1.ps,vPtr c1.cp,.slice r1.A r1.E.length r1.c,.slice r1.B r1.E.length r1.k,.slice CA1 cd1.length cc1,.slice none 0 0] 102))):=SW.nilHd (SW.newCell s2 102 _);obtain ⟨g3,HG3⟩:∃ g3,Hid (w2.heap.size=g3):=⟨_,rfl⟩;obtain ⟨W2,HW2⟩:∃ W2,Hid (w2.alloc (.cells #[vPtr tg,vPtr x1.p,vPtr x1.ps,vPtr c1.cp,.slice r1.A r1.E.length r1.c,.slice r1.B r1.E.length r1.k,.slice CA1 cd1.length cc1,.slice none 0 0] 102)=W2):=⟨_,rfl⟩;rw [HG3.out,HW2.out] at S2;obtain ⟨N0,HN0⟩:∃ N0,Hid ((bgE L).n=N0):=⟨_,rfl⟩
  have hN0:N0<=67:=by
   have h1:=bgS_n L (bgK L);have h2:=(bgK_le L).2;have e:(bgE L).n=(bgS L (bgK L)).n:=rfl;rw [<- HN0.out,e];omega
  have hll:(bgE L).live.length<=11:=by
   have h1:=(bgS_live L (bgK L)).1;have h2:=(bgK_le L).2;have e:(bgE L).live=(bgS L (bgK L)).live:=rfl;rw [e];omega
  obtain ⟨R,HR⟩:∃ R,Hid ((riOb LA (bgE L).live::l)=R):=⟨_,rfl⟩
  have S3:Hid (SW w.heap.size w (plL c1 x1 tg A cap L N0 g3 x1.p x1.ps c1.cp r0 R) W2):=by
   rw [Hid, <- HR0.out, <- HR.out, <- HN0.out];exact SW.front (pre:=[_,_,_,_,_,_,_,_,_,_,_]) (t:=l) S2.out [2,3,4,5,6,7,1,9,10,0,8] (n:=11) rfl (by decide)
  go_upto_region 4 with fail
  rw [HW2.out,HG3.out];clear ok1 s2 HBG S1 S2 HW2 HG3;obtain ⟨dp,HDP⟩:∃ dp,Hid (x1.p=dp):=⟨_,rfl⟩;obtain ⟨sp,HSP⟩:∃ sp,Hid (x1.ps=sp):=⟨_,rfl⟩;obtain ⟨kp,HKP⟩:∃ kp,Hid (c1.cp=kp):=⟨_,rfl⟩;rw [HDP.out,HSP.out,HKP.out] at S3;rw [HSP.out,HKP.out] at PI1;have HKN:=hid (known61_any W2);go_wp2_with (go_at_call 61;(with_reducible refine HKN.out.mono ?_);refine halt_ ?_)
  rintro e w3 ⟨rfl,hb3⟩;have S4:=hid (S3.out.on hb3);clear hb3 HKN S3;obtain ⟨live,HLV⟩:∃ live,Hid ((bgE L).live=live):=⟨_,rfl⟩;rw [HLV.out] at LV1 HR hll |-; have HID:Calls Tryz.prog 28 #[vPtr sp] w3 _:=PI1.out.xp ▸ IDs_S (SW.front (pre:=[_,_,_,_,_]) S4.out [1,2,3,4,0] (n:=5) rfl (by decide):SW w.heap.size w (x1.obs (coOb c1::tpOb tg A cap L N0::cellOb g3 102 (plC tg dp sp kp r0)::r3Ob r0.r::riOb r0.CA r0.cd::hdOb r0.HA r0.hs::R)) w3) (by have:=PI1.out.few.1;omega);have HID:=hid HID;have k2:=(S4.out.cell 6 rfl).cell 2;go_wp2_with (go_at_call 28;(with_reducible refine HID.out.mono ?_);refine halt_ ?_)
  rintro e w4 ⟨A1,cA1,ys1,rfl,hp1,hs1,s4⟩
  have hy1:ys1.length<=100000:=by
   have:=hp1.length_eq;have h2:=PI1.out.few.1;rw [zC] at this;omega
  obtain ⟨R1,HR1⟩:∃ R1,Hid (riOb A1 ys1::R=R1):=⟨_,rfl⟩
  have S5:Hid (SW w.heap.size w (plL c1 x1 tg A cap L N0 g3 dp sp kp r0 R1) w4):=by
   rw [Hid, <- HR1.out];exact SW.front (pre:=[_,_,_,_,_,_,_,_,_,_,_]) (t:=R) s4 [5,1,2,3,4,6,7,8,9,10,0] (n:=11) rfl (by decide)
  have HM1:Hid (riOb A1 ys1∈R1/\riOb LA live∈R1):=by
   rw [Hid, <- HR1.out, <- HR.out];simp
  clear s4 HID S4 k2 hp1 hs1;have k0:=(S5.out.cell 6 rfl).cell 0;have HNX:=hid (Next_x S5.out 5 rfl 14 (by omega) (by omega));go_wp2_with (go_at_call 33;(with_reducible refine HNX.out.mono ?_);refine halt_ ?_)
  rintro e w5 ⟨rfl,s5⟩;have S6:Hid (SW w.heap.size w (plL c1 x1 tg A cap L (N0+1) g3 dp sp kp r0 R1) w5):=s5;obtain ⟨hk0,hk1⟩:=tnext_in L N0 14;have hk1:=hk1 (by omega);obtain ⟨K,HK⟩:∃ K:Nat,Hid (tnext L N0 14=(K:Int)):=⟨(tnext L N0 14).toNat,by rw [Hid];omega⟩;rw [HK.out] at hk0 hk1 |-; clear s5 HNX S5 k0;go_wp2_with fail
  go_loopw [9] (fun s9 wr=>∃ (m n:Nat) (c:CR) (x:SR) (r:RC),s9= .int .i64 (m:Int)/\m<=K/\n+16*m<=N0+1+16*K/\r.hs.length+m<=K/\PlayI kp sp c x r/\LiveI live c x/\SW w.heap.size w (plL c x tg A cap L n g3 dp sp kp r R1) wr) (fun s9 _=>(intOf s9).toNat)
  case atStart=>exact ⟨K,N0+1,c1,x1,r0,rfl,Nat.le_refl _,by omega,by omega,PI1.out,LV1.out,S6.out⟩
  obtain ⟨m,n,c,x,r,rfl,hmK,hn,hhl,hpi,hlv,hs⟩:=hrel;have PI:=hid hpi;have LV:=hid hlv;have S7:=hid hs;clear hpi hlv hs S6 PI1 LV1;cases m with
  | succ m=>
   have HST:=hid (step_any S7.out PI.out (by omega) (by omega));go_wp2_with (go_at_call 66;(with_reducible refine HST.out.mono ?_);refine halt_ ?_)
   rintro e w6 ⟨c2,x2,r2,n2,rfl,s6,hpi2,hn2,hh2,hkp⟩;have PI2:=hid hpi2;have LV2:=hid (LV.out.keep hkp);have S8:=hid s6;clear s6 hpi2 HST S7 hkp;go_wp2_with fail
   go_roundw
   case rel=>exact ⟨m,n2,c2,x2,r2,by go_num,by omega,by omega,by omega,PI2.out,LV2.out,S8.out⟩
   simp [intOf]
  | zero=>
   rw [show ((0:Nat):Int)=0 from rfl];go_wp2_with fail
   go_loopw [10] (fun s10 wr=>∃ (k:Nat) (c:CR) (x:SR) (r:RC),k<=4/\s10= .int .i64 (k:Int)/\r.hs.length<=100/\(∀ e∈r.hs,(k:Int)<=e.1)/\PlayI kp sp c x r/\LiveI live c x/\SW w.heap.size w (plL c x tg A cap L n g3 dp sp kp r R1) wr) (fun s10 _=>4-(intOf s10).toNat)
   case atStart=>exact ⟨0,c,x,r,by omega,rfl,by omega,fun e he=>by
    obtain ⟨j,h1,h2⟩:=PI.out.se.of e he;have:=(PI.out.se.num j h1).1;rw [h2] at this;exact this,PI.out,LV.out,S7.out⟩
   rename World=>wq;obtain ⟨k,c,x,r,hk,rfl,hh,hge,hpi,hlv,hs⟩:=hrel;clear PI LV S7;have PI:=hid hpi;have LV:=hid hlv;have S7:=hid hs;have HGE:=hid hge;clear hpi hlv hs hge;by_cases hlt:k<4
   · obtain ⟨V,HV⟩:∃ V,Hid (begH r.hs (k:Int)=V):=⟨_,rfl⟩;obtain ⟨code,HCO⟩:∃ code:Int,Hid ((if V=true then 0 else 401)=code):=⟨_,rfl⟩;obtain ⟨hs2,HHS⟩:∃ hs2,Hid ((if V=true then endH r.hs (k:Int) else r.hs)=hs2):=⟨_,rfl⟩
     have HGE2:Hid (hs2.length<=100/\∀ e∈hs2,((k+1:Nat):Int)<=e.1):=by
      rw [Hid, <- HHS.out];have hv:=HV.out;cases V with
      | true=>
       rw [if_pos rfl];exact ⟨Nat.le_trans (endH_le _ _) hh,endH_ge HGE.out⟩
      | false=>
       rw [if_neg (by simp)];refine ⟨hh,fun e he=>?_⟩;have h1:=HGE.out e he
       have h2:e.1≠(k:Int):=fun e2=>by
        have:begH r.hs (k:Int)=true:=List.any_eq_true.2 ⟨e,he,by simp [e2]⟩;rw [hv] at this;cases this
       omega
     have HB:Calls Tryz.prog 67 #[vPtr kp,.int .i64 (k:Int)] wq _:=PI.out.cp ▸ End_P S7.out PI.out.se (k:Int) HV.out;rw [HCO.out,HHS.out] at HB;have HB:=hid HB;have k3:=(S7.out.cell 6 rfl).cell 3;go_wp2_with (go_at_call 67;(with_reducible refine HB.out.mono ?_);refine halt_ ?_)
     rintro e w6 ⟨c',rfl,s6,ho,hse⟩;have S8:Hid (SW w.heap.size w (plL c' x tg A cap L n g3 dp sp kp r R1) w6):=s6;have HO:=hid ho;have HSE:=hid hse;clear s6 ho hse HB S7 k3;have k4:=(S8.out.cell 6 rfl).cell 4;have k5:=(S8.out.cell 6 rfl).cell 5;have k6:=(S8.out.cell 6 rfl).cell 6;have k7:=(S8.out.cell 6 rfl).cell 7;have HRF:=rEnd_R S8.out r ⟨by simp,by simp,by simp⟩ (k:Int) V HV.out (by omega) HCO.out HHS.out;simp only [rcV] at HRF;have HRF:=hid HRF;go_wp2_with (go_at_call 68;(with_reducible refine HRF.out.mono ?_);refine halt_ ?_)
     rintro e w7 ⟨r',rfl,s7,hr1,hr2,hr3⟩;have PI2:Hid (PlayI kp sp c' x r'):=PI.out.same HO.out hr1 hr2 (by rw [hr3];exact HSE.out);have HH3:Hid (r'.hs.length<=100/\∀ e∈r'.hs,((k+1:Nat):Int)<=e.1):=by rw [Hid,hr3];exact HGE2.out
     have S9:Hid (SW w.heap.size w (rcL r' (plL c' x tg A cap L n g3 dp sp kp r R1)) w7):=s7;clear s7 HRF S8 k4 k5 k6 k7 hr1 hr2 hr3;have z4:=(S9.out.cell 9 rfl).cell 4;have f4:=(S9.out.cell 9 rfl).frozen 4;have z5:=(S9.out.cell 9 rfl).cell 5;have f5:=(S9.out.cell 9 rfl).frozen 5;have z6:=(S9.out.cell 9 rfl).cell 6;have f6:=(S9.out.cell 9 rfl).frozen 6;have z7:=(S9.out.cell 9 rfl).cell 7;have f7:=(S9.out.cell 9 rfl).frozen 7;have S7:Hid (SW w.heap.size w (plL c' x tg A cap L n g3 dp sp kp r' R1) _):=hid (SW.few (pre:=[_,_,_,_,_,_,_,_,_,_,_,_,_]) ((((S9.out.setAt 9 rfl 4 (.slice r'.r.A r'.r.E.length r'.r.c)).setAt 9 rfl 5 (.slice r'.r.B r'.r.E.length r'.r.k)).setAt 9 rfl 6 (.slice r'.CA r'.cd.length r'.cc)).setAt 9 rfl 7 (.slice r'.HA r'.hs.length r'.hc)) [3,4,5,6,7,8,9,0,1,2] (n:=13) rfl (by decide) (by decide));clear S9;go_wp2_with fail
     go_roundw
     case rel=>exact ⟨k+1,c',x,r',by omega,by go_num,HH3.out.1,HH3.out.2,PI2.out,LV.out.keep (Keeps.same HO.out),S7.out⟩
     simp [intOf];omega
   obtain rfl:k=4:=by omega
   have hnil:r.hs=[]:=by
    cases hx:r.hs with
    | nil=>rfl
    | cons e t=>
     exfalso
     have he:e∈r.hs:=by rw [hx];simp
     have h1:=HGE.out e he;obtain ⟨j,h2,h3⟩:=PI.out.se.of e he;have h4:=(PI.out.se.num j h2).2;rw [h3] at h4;omega
   have HNIL:=hid hnil;clear hnil HGE hlt;rw [show ((4:Nat):Int)=4 from rfl];have HFO:=hid (fun W=>Fold_x N1 5 W (by omega))
   obtain ⟨q,HQ⟩:∃ q:Int,Hid (wrap64 (1+foldI N1 5)=q/\1<=q):=by
    have h1:=foldI_in N1 5;have h2:=h1.2 (by omega);exact ⟨1+foldI N1 5,by unfold wrap64;omega,by omega⟩
   have wq1:wrap64 (1+foldI N1 5)=q:=HQ.out.1;have wq2:IntKind.i64.wrap (1+foldI N1 5)=q:=HQ.out.1 ▸ (by have h1:=foldI_in N1 5;have h2:=h1.2 (by omega);rw [IntWalk.i64_in _ (by omega)];unfold wrap64;omega);go_wp2_with (go_at_call 24;(with_reducible refine (HFO.out _).mono ?_);refine halt_ ?_)
   rintro e w6 ⟨rfl,hw6⟩;obtain rfl:_=w6:=hw6;clear HFO;obtain ⟨C0,HC0⟩:∃ C0,Hid (c.cand=C0):=⟨_,rfl⟩
   have HND:Hid (C0.Nodup/\(∀ i∈C0,i≠id0)/\C0.length<=11/\(∀ i∈C0,okID i)):=by
    rw [Hid, <- HC0.out];exact ⟨PI.out.nd,PI.out.nz,PI.out.len,PI.out.ids⟩
   have E0:=EndI.start PI.out HNIL.out;have F0:=EndR.start PI.out HNIL.out;rw [HC0.out] at E0 F0;have E0:=hid E0;have F0:=hid F0;obtain ⟨x0,HX0⟩:∃ x0,Hid (x=x0):=⟨_,rfl⟩;obtain ⟨rr0,HRR0⟩:∃ rr0,Hid (r.r=rr0):=⟨_,rfl⟩
   have LV0:Hid (∀ i∈live,(asc x0.C i).isSome=true/\i ∉ C0):=by
    rw [Hid, <- HX0.out, <- HC0.out];exact LV.out
   have HIN0:Hid (∀ i,i∈rr0.ids↔(asc x0.C i).isSome=true):=by
    rw [Hid, <- HX0.out, <- HRR0.out];intro i;obtain ⟨P,hT,hR⟩:=PI.out.tx;rw [hR.has,hT.has,decide_eq_true_eq]
   rw [HRR0.out] at F0
   have E1:Hid (EndI kp sp C0 x0 0 c x):=by
    rw [Hid];have:=E0.out;rw [HX0.out] at this |-; exact this
   have HLF:Calls Tryz.prog 63 #[vPtr kp] _ _:=PI.out.cp ▸ Left_any S7.out;rw [HC0.out] at HLF;have HLF:=hid HLF;have k3:=(S7.out.cell 6 rfl).cell 3;clear E0 HX0 HRR0 LV;go_wp2_with (go_at_call 63;(with_reducible refine HLF.out.mono ?_);refine halt_ ?_)
   rintro e w7 ⟨rfl,s7⟩;have S8:Hid (SW w.heap.size w (plL c x tg A cap L n g3 dp sp kp r R1) w7):=s7;clear s7 HLF S7 k3;go_wp2_with fail
   go_loopw [11] (fun s11 wr=>∃ (k j:Nat) (c:CR) (x:SR),s11= .int .i64 (k:Int)/\k<=11/\j<=C0.length/\C0.length<=j+k/\EndI kp sp C0 x0 j c x/\SW w.heap.size w (plL c x tg A cap L n g3 dp sp kp r R1) wr) (fun s11 _=>(intOf s11).toNat)
   case atStart=>exact ⟨C0.length,0,c,x,rfl,HND.out.2.2.1,Nat.zero_le _,by omega,E1.out,S8.out⟩
   rename World=>wq;obtain ⟨k,j,c,x,rfl,hk,hj,hjk,hei,hs⟩:=hrel;clear E1 S8 PI;have EI:=hid hei;have S8:=hid hs;clear hei hs;have hcl:c.cand.length=C0.length-j:=by rw [EI.out.cand,zF]
   have HCL:=hid hcl;clear hcl;have HLF:Calls Tryz.prog 63 #[vPtr kp] wq _:=EI.out.cp ▸ Left_any S8.out;obtain ⟨M,HM⟩:∃ M,Hid (c.cand.length=M):=⟨_,rfl⟩;rw [HM.out] at HLF;have HLF:=hid HLF;have hMj:M=C0.length-j:=by rw [<- HM.out,HCL.out]
   have HMJ:=hid hMj;clear hMj;have k3:=(S8.out.cell 6 rfl).cell 3;by_cases hk0:k=0
   · subst hk0;rw [show ((0:Nat):Int)=0 from rfl];have hM0:Hid (M=0):=by have:=HMJ.out;unfold Hid;omega
     clear HLF k3;go_wp2_with fail
     go_loopg [] C0.length (fun gg wr=>∃ (j2:Nat) (r:RC),Hid (C0.length-j2<=gg)/\Hid (j2<=C0.length)/\Hid (EndR C0 rr0 j2 r)/\Hid (SW w.heap.size w (plL c x tg A cap L n g3 dp sp kp r R1) wr))
     case atStart=>exact ⟨0,r,by unfold Hid;omega,Nat.zero_le _,F0.out,S8.out⟩
     rename World=>wq2;obtain ⟨j2,r,HG1,HJ2,FI,S9⟩:=hrel;clear S8 F0;have hcd:r.cd.length=C0.length-j2:=by rw [FI.out.cd,zF]
     obtain ⟨M2,HM2⟩:∃ M2,Hid (r.cd.length=M2):=⟨_,rfl⟩;have HM3:Hid (M2=C0.length-j2):=by rw [Hid, <- HM2.out,hcd]
     clear hcd
     have k6:wq2.cell? ⟨g3,6,none⟩=some (.slice r.CA M2 r.cc):=by
      rw [<- HM2.out];exact (S9.out.cell 6 rfl).cell 6
     by_cases hM2:M2=0
     · have hmd2:decide ((M2:Int)>0)=false:=decide_eq_false (by omega);have hmz2:¬ 0<M2:=by omega
       have hmy2:decide (0<M2)=false:=decide_eq_false hmz2;clear hM2;have HID:Calls Tryz.prog 28 #[vPtr sp] wq2 _:=EI.out.xp ▸ IDs_S (SW.front (pre:=[_,_,_,_,_]) S9.out [1,2,3,4,0] (n:=5) rfl (by decide):SW w.heap.size w (x.obs (coOb c::tpOb tg A cap L n::cellOb g3 102 (plC tg dp sp kp r)::r3Ob r.r::riOb r.CA r.cd::hdOb r.HA r.hs::R1)) wq2) (by obtain ⟨P,hT⟩:=EI.out.tx;have:=hT.few EI.out.cl.keys;omega);have HID:=hid HID;have k2:=(S9.out.cell 6 rfl).cell 2;go_wp2_with (go_at_call 28;(with_reducible refine HID.out.mono ?_);refine halt_ ?_)
       rintro e w11 ⟨A2,cA2,ys2,rfl,hp2,hs2,s11⟩
       have hyl:ys2.length<=100000:=by
        have h1:=hp2.length_eq;obtain ⟨P,hT⟩:=EI.out.tx;have h2:=hT.few EI.out.cl.keys;rw [zC] at h1;omega
       have HALL:Hid (ys2=r.r.ids/\(∀ i∈live,i∈ys2)/\r.r.ids.length<=100000/\c.cand.length=0):=by
        obtain ⟨P,hR⟩:=FI.out.tx;have hj:C0.take j=C0:=zD (by have:=HMJ.out;have:=hM0.out;omega);have hj2:C0.take j2=C0:=zD (by have:=HM3.out;omega)
        have hmem:∀ i,i∈ys2↔(asc x0.C i).isSome=true/\i ∉ C0:=fun i=>by
         rw [hp2.mem_iff, <- asc_key,EI.out.has,hj];simp
        have e:ys2=r.r.ids:=sorted_uniq (strict_of_sorted hs2 (hp2.nodup_iff.2 EI.out.cl.keys)) (List.pairwise_map.2 hR.sort) (fun i=>by
         rw [hmem,FI.out.has,hj2,HIN0.out])
        exact ⟨e,fun i hi=>(hmem i).2 (LV0.out i hi),by rw [<- e];exact hyl,by rw [HM.out];exact hM0.out⟩
       have S11:Hid (SW w.heap.size w (riOb A2 ys2::plL c x tg A cap L n g3 dp sp kp r R1) w11):=SW.front (pre:=[_,_,_,_,_,_]) s11 [0,5,1,2,3,4] (n:=6) rfl (by decide);clear s11 HID S9 k2 hp2 hs2 k6;go_wp2_with fail
       go_loopw [15] (fun s15 wr=>∃ k:Nat,k<=live.length/\s15= .int .i64 (k:Int)/\SW w.heap.size w (riOb A2 ys2::plL c x tg A cap L n g3 dp sp kp r R1) wr) (fun s15 _=>live.length-(intOf s15).toNat)
       case atStart=>exact ⟨0,Nat.zero_le _,rfl,S11.out⟩
       rename World=>wz;obtain ⟨k5,hk5,rfl,hs⟩:=hrel;have S12:=hid hs;clear hs S11;by_cases hlt5:k5<live.length
       · obtain ⟨i,hik⟩:∃ i,live.getD k5 id0=i:=⟨_,rfl⟩;have HIL:Hid (i∈ys2):=HALL.out.2.1 i (by rw [<- hik,zA,zE hlt5];exact List.getElem_mem hlt5);obtain ⟨g1,hLA,a0,a1⟩:=S12.out.rowCell (A:=LA) (ids:=live) (by simp [HM1.out.2]) hlt5 hik;have HH1:Hid (Calls Tryz.prog 49 #[.slice A1 ys1.length cA1,.agg #[.int .u64 i.1,.int .i64 i.2]] wz (Gives (.bool (decide (i∈ys1))) wz)):=rHas_any wz.heap.size ys1 A1 cA1 i.1 i.2 wz (rdID_of (S12.out.1.holds (riOb A1 ys1) (by simp [HM1.out.1]))) (by omega);obtain ⟨U,HU⟩:∃ U,Hid (decide (i∈ys1)=U):=⟨_,rfl⟩;rw [HU.out] at HH1;have HLA:=hid hLA;rw [hLA];clear hLA;go_wp2_with (go_at_call 49;(with_reducible refine HH1.out.mono ?_);refine halt_ ?_)
         rintro e w12 ⟨rfl,hb12⟩;have S13:=hid (S12.out.on hb12);clear hb12 HH1;obtain ⟨g2,hL2,a0',a1'⟩:=S13.out.rowCell (A:=LA) (ids:=live) (by simp [HM1.out.2]) hlt5 hik;rw [HLA.out] at hL2;injection hL2 with hL2;injection hL2 with hL2;subst hL2;clear a0 a1 S12;cases U with
         | false=>
          go_wp2_with fail
          go_roundw
          case rel=>exact ⟨k5+1,by omega,by go_num,S13.out⟩
          simp [intOf];omega
         | true=>
          have HH2:Hid (Calls Tryz.prog 49 #[.slice A2 ys2.length cA2,.agg #[.int .u64 i.1,.int .i64 i.2]] w12 (Gives (.bool true) w12)):=by
           have:=rHas_any w12.heap.size ys2 A2 cA2 i.1 i.2 w12 (rdID_of (S13.out.1.holds (riOb A2 ys2) (by simp))) (by omega);rw [decide_eq_true HIL.out] at this;exact this
          go_wp2_with (go_at_call 49;(with_reducible refine HH2.out.mono ?_);refine halt_ ?_)
          rintro e w13 ⟨rfl,hb13⟩;have S14:=hid (S13.out.on hb13);clear hb13 HH2 S13 a0' a1';go_wp2_with fail
          go_roundw
          case rel=>exact ⟨k5+1,by omega,by go_num,S14.out⟩
          simp [intOf];omega
       obtain rfl:k5=live.length:=by omega
       have k3:=(S12.out.cell 7 rfl).cell 3;have HLF:Calls Tryz.prog 63 #[vPtr kp] wz _:=EI.out.cp ▸ Left_any (SW.front (pre:=[_,_]) S12.out [1,0] (n:=2) rfl (by decide):SW w.heap.size w (coOb c::riOb A2 ys2::x.obs (tpOb tg A cap L n::cellOb g3 102 (plC tg dp sp kp r)::r3Ob r.r::riOb r.CA r.cd::hdOb r.HA r.hs::R1)) wz);rw [HALL.out.2.2.2] at HLF;have HLF:=hid HLF;go_wp2_with (go_at_call 63;(with_reducible refine HLF.out.mono ?_);refine halt_ ?_)
       rintro e w12 ⟨rfl,s12⟩;have S13:Hid (SW w.heap.size w (riOb A2 ys2::plL c x tg A cap L n g3 dp sp kp r R1) w12):=SW.front (pre:=[_,_]) s12 [1,0] (n:=2) rfl (by decide);clear s12 HLF S12 k3;have k4:=(S13.out.cell 7 rfl).cell 4;have k5:=(S13.out.cell 7 rfl).cell 5;have HRI:=hid (rIDs_any S13.out (r:=r.r) (by simp));go_wp2_with (go_at_call 70;(with_reducible refine HRI.out.mono ?_);refine halt_ ?_)
       rintro e w13 ⟨A3,cA3,rfl,s13⟩;obtain ⟨zs,HZS⟩:∃ zs,Hid (r.r.ids=zs):=⟨_,rfl⟩;rw [HZS.out] at s13 |-; have S14:=hid s13;clear s13 HRI S13 k4 k5;have HSM:=hid (Same_S S14.out (A:=A2) (B:=A3) (xs:=ys2) (ys:=zs) (by simp) (by simp) hyl (by rw [<- HZS.out];exact HALL.out.2.2.1) cA2 cA3 (v:=true) (decide_eq_true (HALL.out.1.trans HZS.out)));go_wp2_with (go_at_call 64;(with_reducible refine HSM.out.mono ?_);refine halt_ ?_)
       rintro e w14 ⟨rfl,s14⟩;have S15:=hid s14;clear s14 HSM S14;go_wp2_with fail
       go_ret;exact ⟨rfl,S15.out.2⟩
     have hmd2:decide ((M2:Int)>0)=true:=decide_eq_true (by omega);have hmz2:0<M2:=by omega
     have hmy2:decide (0<M2)=true:=decide_eq_true hmz2;obtain ⟨G,HG⟩:∃ G,Hid (stR r.hs r.cd 1=G):=⟨_,rfl⟩;have HRF:=rStep_R S9.out r ⟨by simp,by simp,by simp⟩ 1 (by rw [FI.out.hs];simp) (by rw [HM2.out,HM3.out];have:=HND.out;omega) HG.out;simp only [rcV] at HRF;rw [HM2.out] at HRF;have HRF:=hid HRF;have k4:=(S9.out.cell 6 rfl).cell 4;have k5:=(S9.out.cell 6 rfl).cell 5;have k7:=(S9.out.cell 6 rfl).cell 7;go_wp2_with (go_at_call 69;(with_reducible refine HRF.out.mono ?_);refine halt_ ?_)
     rintro e w10 ⟨r',A2,cA2,rfl,s10,hr1,hr2,hr3⟩;have FI2:=hid (FI.out.step HND.out.1 (by have:=HM3.out;omega) HG.out hr1 hr2 hr3);have S10:Hid (SW w.heap.size w (rcL r' (riOb A2 G::plL c x tg A cap L n g3 dp sp kp r R1)) w10):=s10;clear s10 HRF S9 k4 k5 k6 k7 hr1 hr2 hr3;have z4:=(S10.out.cell 10 rfl).cell 4;have f4:=(S10.out.cell 10 rfl).frozen 4;have z5:=(S10.out.cell 10 rfl).cell 5;have f5:=(S10.out.cell 10 rfl).frozen 5;have z6:=(S10.out.cell 10 rfl).cell 6;have f6:=(S10.out.cell 10 rfl).frozen 6;have z7:=(S10.out.cell 10 rfl).cell 7;have f7:=(S10.out.cell 10 rfl).frozen 7;have S7:Hid (SW w.heap.size w (plL c x tg A cap L n g3 dp sp kp r' R1) _):=hid (SW.few (pre:=[_,_,_,_,_,_,_,_,_,_,_,_,_,_]) ((((S10.out.setAt 10 rfl 4 (.slice r'.r.A r'.r.E.length r'.r.c)).setAt 10 rfl 5 (.slice r'.r.B r'.r.E.length r'.r.k)).setAt 10 rfl 6 (.slice r'.CA r'.cd.length r'.cc)).setAt 10 rfl 7 (.slice r'.HA r'.hs.length r'.hc)) [4,5,6,7,8,9,10,0,1,2] (n:=14) rfl (by decide) (by decide));clear S10;go_wp2_with fail
     go_roundg (C0.length-(j2+1))
     case measure=>have:=HM3.out;have:=HG1.out;omega
     exact ⟨j2+1,r',Nat.le_refl _,by have:=HM3.out;unfold Hid;omega,FI2,S7⟩
   have hkd:decide ((k:Int)>0)=true:=decide_eq_true (by omega);have hkz:0<k:=by omega
   by_cases hM:M=0
   · have hM0:Hid (M=0):=hM;have hmd:decide ((M:Int)>0)=false:=decide_eq_false (by omega);have hmz:¬ 0<M:=by omega
     have hmy:decide (0<M)=false:=decide_eq_false hmz;clear hM;go_upto_if 71 with (go_at_call 63;(with_reducible refine HLF.out.mono ?_);refine halt_ ?_)
     rintro e w8 ⟨rfl,s8⟩;have S9:Hid (SW w.heap.size w (plL c x tg A cap L n g3 dp sp kp r R1) w8):=s8;clear s8 HLF S8 k3;have S8:=S9;clear S9;go_wp2_with fail
     go_loopg [] C0.length (fun gg wr=>∃ (j2:Nat) (r:RC),Hid (C0.length-j2<=gg)/\Hid (j2<=C0.length)/\Hid (EndR C0 rr0 j2 r)/\Hid (SW w.heap.size w (plL c x tg A cap L n g3 dp sp kp r R1) wr))
     case atStart=>exact ⟨0,r,by unfold Hid;omega,Nat.zero_le _,F0.out,S8.out⟩
     rename World=>wq2;obtain ⟨j2,r,HG1,HJ2,FI,S9⟩:=hrel;clear S8 F0;have hcd:r.cd.length=C0.length-j2:=by rw [FI.out.cd,zF]
     obtain ⟨M2,HM2⟩:∃ M2,Hid (r.cd.length=M2):=⟨_,rfl⟩;have HM3:Hid (M2=C0.length-j2):=by rw [Hid, <- HM2.out,hcd]
     clear hcd
     have k6:wq2.cell? ⟨g3,6,none⟩=some (.slice r.CA M2 r.cc):=by
      rw [<- HM2.out];exact (S9.out.cell 6 rfl).cell 6
     by_cases hM2:M2=0
     · have hmd2:decide ((M2:Int)>0)=false:=decide_eq_false (by omega);have hmz2:¬ 0<M2:=by omega
       have hmy2:decide (0<M2)=false:=decide_eq_false hmz2;clear hM2;have HID:Calls Tryz.prog 28 #[vPtr sp] wq2 _:=EI.out.xp ▸ IDs_S (SW.front (pre:=[_,_,_,_,_]) S9.out [1,2,3,4,0] (n:=5) rfl (by decide):SW w.heap.size w (x.obs (coOb c::tpOb tg A cap L n::cellOb g3 102 (plC tg dp sp kp r)::r3Ob r.r::riOb r.CA r.cd::hdOb r.HA r.hs::R1)) wq2) (by obtain ⟨P,hT⟩:=EI.out.tx;have:=hT.few EI.out.cl.keys;omega);have HID:=hid HID;have k2:=(S9.out.cell 6 rfl).cell 2;go_wp2_with (go_at_call 28;(with_reducible refine HID.out.mono ?_);refine halt_ ?_)
       rintro e w11 ⟨A2,cA2,ys2,rfl,hp2,hs2,s11⟩
       have hyl:ys2.length<=100000:=by
        have h1:=hp2.length_eq;obtain ⟨P,hT⟩:=EI.out.tx;have h2:=hT.few EI.out.cl.keys;rw [zC] at h1;omega
       have HALL:Hid (ys2=r.r.ids/\(∀ i∈live,i∈ys2)/\r.r.ids.length<=100000/\c.cand.length=0):=by
        obtain ⟨P,hR⟩:=FI.out.tx;have hj:C0.take j=C0:=zD (by have:=HMJ.out;have:=hM0.out;omega);have hj2:C0.take j2=C0:=zD (by have:=HM3.out;omega)
        have hmem:∀ i,i∈ys2↔(asc x0.C i).isSome=true/\i ∉ C0:=fun i=>by
         rw [hp2.mem_iff, <- asc_key,EI.out.has,hj];simp
        have e:ys2=r.r.ids:=sorted_uniq (strict_of_sorted hs2 (hp2.nodup_iff.2 EI.out.cl.keys)) (List.pairwise_map.2 hR.sort) (fun i=>by
         rw [hmem,FI.out.has,hj2,HIN0.out])
        exact ⟨e,fun i hi=>(hmem i).2 (LV0.out i hi),by rw [<- e];exact hyl,by rw [HM.out];exact hM0.out⟩
       have S11:Hid (SW w.heap.size w (riOb A2 ys2::plL c x tg A cap L n g3 dp sp kp r R1) w11):=SW.front (pre:=[_,_,_,_,_,_]) s11 [0,5,1,2,3,4] (n:=6) rfl (by decide);clear s11 HID S9 k2 hp2 hs2 k6;go_wp2_with fail
       go_loopw [15] (fun s15 wr=>∃ k:Nat,k<=live.length/\s15= .int .i64 (k:Int)/\SW w.heap.size w (riOb A2 ys2::plL c x tg A cap L n g3 dp sp kp r R1) wr) (fun s15 _=>live.length-(intOf s15).toNat)
       case atStart=>exact ⟨0,Nat.zero_le _,rfl,S11.out⟩
       rename World=>wz;obtain ⟨k5,hk5,rfl,hs⟩:=hrel;have S12:=hid hs;clear hs S11;by_cases hlt5:k5<live.length
       · obtain ⟨i,hik⟩:∃ i,live.getD k5 id0=i:=⟨_,rfl⟩;have HIL:Hid (i∈ys2):=HALL.out.2.1 i (by rw [<- hik,zA,zE hlt5];exact List.getElem_mem hlt5);obtain ⟨g1,hLA,a0,a1⟩:=S12.out.rowCell (A:=LA) (ids:=live) (by simp [HM1.out.2]) hlt5 hik;have HH1:Hid (Calls Tryz.prog 49 #[.slice A1 ys1.length cA1,.agg #[.int .u64 i.1,.int .i64 i.2]] wz (Gives (.bool (decide (i∈ys1))) wz)):=rHas_any wz.heap.size ys1 A1 cA1 i.1 i.2 wz (rdID_of (S12.out.1.holds (riOb A1 ys1) (by simp [HM1.out.1]))) (by omega);obtain ⟨U,HU⟩:∃ U,Hid (decide (i∈ys1)=U):=⟨_,rfl⟩;rw [HU.out] at HH1;have HLA:=hid hLA;rw [hLA];clear hLA;go_wp2_with (go_at_call 49;(with_reducible refine HH1.out.mono ?_);refine halt_ ?_)
         rintro e w12 ⟨rfl,hb12⟩;have S13:=hid (S12.out.on hb12);clear hb12 HH1;obtain ⟨g2,hL2,a0',a1'⟩:=S13.out.rowCell (A:=LA) (ids:=live) (by simp [HM1.out.2]) hlt5 hik;rw [HLA.out] at hL2;injection hL2 with hL2;injection hL2 with hL2;subst hL2;clear a0 a1 S12;cases U with
         | false=>
          go_wp2_with fail
          go_roundw
          case rel=>exact ⟨k5+1,by omega,by go_num,S13.out⟩
          simp [intOf];omega
         | true=>
          have HH2:Hid (Calls Tryz.prog 49 #[.slice A2 ys2.length cA2,.agg #[.int .u64 i.1,.int .i64 i.2]] w12 (Gives (.bool true) w12)):=by
           have:=rHas_any w12.heap.size ys2 A2 cA2 i.1 i.2 w12 (rdID_of (S13.out.1.holds (riOb A2 ys2) (by simp))) (by omega);rw [decide_eq_true HIL.out] at this;exact this
          go_wp2_with (go_at_call 49;(with_reducible refine HH2.out.mono ?_);refine halt_ ?_)
          rintro e w13 ⟨rfl,hb13⟩;have S14:=hid (S13.out.on hb13);clear hb13 HH2 S13 a0' a1';go_wp2_with fail
          go_roundw
          case rel=>exact ⟨k5+1,by omega,by go_num,S14.out⟩
          simp [intOf];omega
       obtain rfl:k5=live.length:=by omega
       have k3:=(S12.out.cell 7 rfl).cell 3;have HLF:Calls Tryz.prog 63 #[vPtr kp] wz _:=EI.out.cp ▸ Left_any (SW.front (pre:=[_,_]) S12.out [1,0] (n:=2) rfl (by decide):SW w.heap.size w (coOb c::riOb A2 ys2::x.obs (tpOb tg A cap L n::cellOb g3 102 (plC tg dp sp kp r)::r3Ob r.r::riOb r.CA r.cd::hdOb r.HA r.hs::R1)) wz);rw [HALL.out.2.2.2] at HLF;have HLF:=hid HLF;go_wp2_with (go_at_call 63;(with_reducible refine HLF.out.mono ?_);refine halt_ ?_)
       rintro e w12 ⟨rfl,s12⟩;have S13:Hid (SW w.heap.size w (riOb A2 ys2::plL c x tg A cap L n g3 dp sp kp r R1) w12):=SW.front (pre:=[_,_]) s12 [1,0] (n:=2) rfl (by decide);clear s12 HLF S12 k3;have k4:=(S13.out.cell 7 rfl).cell 4;have k5:=(S13.out.cell 7 rfl).cell 5;have HRI:=hid (rIDs_any S13.out (r:=r.r) (by simp));go_wp2_with (go_at_call 70;(with_reducible refine HRI.out.mono ?_);refine halt_ ?_)
       rintro e w13 ⟨A3,cA3,rfl,s13⟩;obtain ⟨zs,HZS⟩:∃ zs,Hid (r.r.ids=zs):=⟨_,rfl⟩;rw [HZS.out] at s13 |-; have S14:=hid s13;clear s13 HRI S13 k4 k5;have HSM:=hid (Same_S S14.out (A:=A2) (B:=A3) (xs:=ys2) (ys:=zs) (by simp) (by simp) hyl (by rw [<- HZS.out];exact HALL.out.2.2.1) cA2 cA3 (v:=true) (decide_eq_true (HALL.out.1.trans HZS.out)));go_wp2_with (go_at_call 64;(with_reducible refine HSM.out.mono ?_);refine halt_ ?_)
       rintro e w14 ⟨rfl,s14⟩;have S15:=hid s14;clear s14 HSM S14;go_wp2_with fail
       go_ret;exact ⟨rfl,S15.out.2⟩
     have hmd2:decide ((M2:Int)>0)=true:=decide_eq_true (by omega);have hmz2:0<M2:=by omega
     have hmy2:decide (0<M2)=true:=decide_eq_true hmz2;obtain ⟨G,HG⟩:∃ G,Hid (stR r.hs r.cd 1=G):=⟨_,rfl⟩;have HRF:=rStep_R S9.out r ⟨by simp,by simp,by simp⟩ 1 (by rw [FI.out.hs];simp) (by rw [HM2.out,HM3.out];have:=HND.out;omega) HG.out;simp only [rcV] at HRF;rw [HM2.out] at HRF;have HRF:=hid HRF;have k4:=(S9.out.cell 6 rfl).cell 4;have k5:=(S9.out.cell 6 rfl).cell 5;have k7:=(S9.out.cell 6 rfl).cell 7;go_wp2_with (go_at_call 69;(with_reducible refine HRF.out.mono ?_);refine halt_ ?_)
     rintro e w10 ⟨r',A2,cA2,rfl,s10,hr1,hr2,hr3⟩;have FI2:=hid (FI.out.step HND.out.1 (by have:=HM3.out;omega) HG.out hr1 hr2 hr3);have S10:Hid (SW w.heap.size w (rcL r' (riOb A2 G::plL c x tg A cap L n g3 dp sp kp r R1)) w10):=s10;clear s10 HRF S9 k4 k5 k6 k7 hr1 hr2 hr3;have z4:=(S10.out.cell 10 rfl).cell 4;have f4:=(S10.out.cell 10 rfl).frozen 4;have z5:=(S10.out.cell 10 rfl).cell 5;have f5:=(S10.out.cell 10 rfl).frozen 5;have z6:=(S10.out.cell 10 rfl).cell 6;have f6:=(S10.out.cell 10 rfl).frozen 6;have z7:=(S10.out.cell 10 rfl).cell 7;have f7:=(S10.out.cell 10 rfl).frozen 7;have S7:Hid (SW w.heap.size w (plL c x tg A cap L n g3 dp sp kp r' R1) _):=hid (SW.few (pre:=[_,_,_,_,_,_,_,_,_,_,_,_,_,_]) ((((S10.out.setAt 10 rfl 4 (.slice r'.r.A r'.r.E.length r'.r.c)).setAt 10 rfl 5 (.slice r'.r.B r'.r.E.length r'.r.k)).setAt 10 rfl 6 (.slice r'.CA r'.cd.length r'.cc)).setAt 10 rfl 7 (.slice r'.HA r'.hs.length r'.hc)) [4,5,6,7,8,9,10,0,1,2] (n:=14) rfl (by decide) (by decide));clear S10;go_wp2_with fail
     go_roundg (C0.length-(j2+1))
     case measure=>have:=HM3.out;have:=HG1.out;omega
     exact ⟨j2+1,r',Nat.le_refl _,by have:=HM3.out;unfold Hid;omega,FI2,S7⟩
   have hmd:decide ((M:Int)>0)=true:=decide_eq_true (by omega);have hmz:0<M:=by omega
   have hmy:decide (0<M)=true:=decide_eq_true hmz;go_upto_if 71 with (go_at_call 63;(with_reducible refine HLF.out.mono ?_);refine halt_ ?_)
   rintro e w8 ⟨rfl,s8⟩;have S9:Hid (SW w.heap.size w (plL c x tg A cap L n g3 dp sp kp r R1) w8):=s8;clear s8 HLF S8 k3;have k3:=(S9.out.cell 6 rfl).cell 3;obtain ⟨G,HG⟩:∃ G,Hid (stepL c q=G):=⟨_,rfl⟩;have HB:Calls Tryz.prog 62 #[vPtr kp,.int .i64 q] w8 _:=EI.out.cp ▸ Step_of S9.out EI.out.ps EI.out.cl q (fun i hi=>HND.out.2.2.2 i (List.drop_subset j C0 (by rw [<- EI.out.cand];exact hi))) (by have:=HCL.out;have:=HND.out;omega) G HG.out;have HB:=hid HB;go_wp2_with (go_at_call 62;(with_reducible refine HB.out.mono ?_);refine halt_ ?_)
   rintro e w9 ⟨GA,gcap,x',rfl,s9,hcl,hg⟩;obtain ⟨e1,e2,e3⟩:=EI.out.step HND.out.1 HND.out.2.1 hj HQ.out.2 HG.out hg hcl;have EI2:=hid e1;have HE2:Hid (j+G.length<=C0.length/\1<=G.length):=⟨e2,e3 (by have:=HMJ.out;omega)⟩;have S10:Hid (SW w.heap.size w (plL { c with cand:=lessL (setI G) c.cand } x' tg A cap L n g3 dp sp kp r R1) w9):=s9.tail;clear s9 hcl hg HB S9 k3 e1 e2 e3;go_wp2_with fail
   go_roundw
   case rel=>exact ⟨k-1,j+G.length,_,x',congrArg (Value.int .i64) (by omega),by omega,HE2.out.1,by have:=HE2.out;omega,EI2.out,S10.out⟩
   simp [intOf];omega
theorem law14 {A:Option Addr} {L:List Int} {n:Nat} (e:L.length=n) (cap:Nat) (a1:Int) (w:World) (hr:RdT w w.heap.size A L) (hl:n<=9223372036854775807):Calls Tryz.prog 14 #[.slice A n cap,.int .i64 a1] w (fun e w'=>e= .returned (.bool true)/\Below w.heap.size w w'):=by
 subst e;exact law14_any (SW.startIn hr hl) (by simp) cap a1
end
end
section
open Go.RowKit Go.ChangeShapes
theorem cell_lt {W:World} {b o:Nat} {v:Value} (h:W.cell? ⟨b,o,none⟩=some v):b<W.heap.size:=by
 rcases Nat.lt_or_ge b W.heap.size with h1 | h1
 · exact h1
 exfalso
 simp [World.cell?, Array.getElem?_eq_none h1] at h
theorem open_nums {H:Type} {enc:TypeId×Value->H} {W:World} {base:Nat} {spare:Nat->Bool} {held:Bool} {A:Option Addr} {len cap:Nat} {d:DataW H} {p:List MemPlace}
 (h:DataW.Trod enc Tryz.prog W base spare held 47 (.slice A len cap) d p):∃ xs:List Int,xs.length=len/\RdT W W.heap.size A xs/\len<=9223372036854775807:=by
 obtain ⟨fuel,hf⟩:=h;rcases Go.ChangeShapes.open_ints Tryz.underlying47 Tryz.underlying3 (by kernel_rfl) hf with ⟨hcs,_⟩ | ⟨a,l,c,zs,hcs,_,hl,hm,hz,_,hx,_⟩
 · simp [Value.cells] at hcs;obtain ⟨rfl,rfl,rfl⟩:=hcs;exact ⟨[],rfl,fun hp=>absurd hp (by simp),by omega⟩
 simp [Value.cells] at hcs;obtain ⟨rfl,rfl,rfl⟩:=hcs;have hlz:len<=zs.length:=by rw [hz];split<;>omega
 unfold maxLen at hm;refine ⟨zs.take len,by rw [zB];omega,fun hp=>?_,by omega⟩;have hp':0<len:=by rw [zB] at hp;omega
 obtain ⟨b,off,spot⟩:=a;have h0:=hx 0 (by omega);have hspot:spot=none:=by simpa [Addr.add] using World.cell?_spot h0
 subst hspot;have hadd:∀ j,(⟨b,off,none⟩:Addr).add j=⟨b,off+j,none⟩:=fun j=>by unfold Addr.add;split<;>simp_all
 rw [hadd] at h0;refine ⟨b,off,rfl,cell_lt h0,fun j hj=>?_⟩;rw [zB] at hj;have:=hx j (by omega);rw [hadd] at this;rw [this,zA,zA,List.getElem?_take_of_lt (by omega)]
end
end Go.Proofs.YteabgcollokgjaaGreatDoor
