/- Q -/
import Derived.Test.YteabgcollokgjaaGreatDoorQP09
set_option linter.unusedSimpArgs false
set_option linter.unusedVariables false
set_option maxRecDepth 100000
set_option maxHeartbeats 32000000
open Go.Lib (hid)
open Nat renaming le_refl → zA,lt_of_lt_of_le → zB,le_trans → zC,le_of_lt → zD
namespace Go.Proofs.YteabgcollokgjaaGreatDoor
section
open Go.RowKit Go.Shelf Go.Sort
attribute [local go_sem] wext_cell
theorem siftDown_end {hi f r:Nat} {d:Array ID} (h:2*r+1>=hi):siftDown ltA hi f r d=d:=by
 rw [Sort.siftDown,dif_pos h]
theorem siftDown_two {hi f r:Nat} {d:Array ID} (h:2*r+1+1<hi) (hl:ltA d[f+(2*r+1)]! d[f+(2*r+1)+1]! =true):siftDown ltA hi f r d=if (!ltA d[f+r]! d[f+(2*r+2)]!)=true then d else siftDown ltA hi f (2*r+2) (swp d (f+r) (f+(2*r+2))):=by
 rw [Sort.siftDown,dif_neg (by omega),if_pos (by simp [h,hl])];split
 · rfl
 first
  | rfl
  | rw [dif_pos (by omega)]
theorem siftDown_one {hi f r:Nat} {d:Array ID} (h:2*r+1<hi) (hl:¬ (2*r+1+1<hi/\ltA d[f+(2*r+1)]! d[f+(2*r+1)+1]! =true)):siftDown ltA hi f r d=if (!ltA d[f+r]! d[f+(2*r+1)]!)=true then d else siftDown ltA hi f (2*r+1) (swp d (f+r) (f+(2*r+1))):=by
 rw [Sort.siftDown,dif_neg (by omega),if_neg (by simpa using hl)]
theorem siftA_any (g c hi f lo:Nat) (d:Array ID) (w:World) (h:RowA w g d) (hh:f+hi<=d.size) (hlo:lo<hi∨lo<=d.size) (hn:d.size<=1000000) (hg:g<w.heap.size):
 Calls Tryz.prog 257 #[.slice (some ⟨g,0,none⟩) d.size c,.int .i64 lo,.int .i64 hi,.int .i64 f,vAsc] w (fun e w'=>e= .returned (.tuple #[])/\∃ d',siftDown ltA hi f lo d=d'/\d'.size=d.size/\RowA w' g d'/\w.grownBy w' (some g)):=by
 have H:=hid h;clear h;go_enter Tryz.func257,Tryz.ntmps257;go_wp2_with fail
 go_loopw [10] (fun v wr=>∃ (r:Nat) (dj:Array ID),lo<=r/\r<=d.size/\v= .int .i64 (r:Int)/\dj.size=d.size/\Hid (siftDown ltA hi f r dj=siftDown ltA hi f lo d)/\RowA wr g dj/\w.grownBy wr (some g)) (fun v _=>d.size-(intOf v).toNat)
 case atStart=>exact ⟨lo,d,zA _,by omega,rfl,rfl,rfl,H.out,g_refl _ _⟩
 obtain ⟨r,dj,hlr,hrs,rfl,hsj,HO,hr,hgr⟩:=hrel;have R0:=hid hr;have G0:=hid hgr;have HSZ:=hid hsj;clear hr hgr hsj;obtain ⟨C,HC0⟩:∃ C:Nat,C=2*r+1:=⟨_,rfl⟩;have hw1:IntKind.i64.wrap (2*(r:Int))=2*(r:Int):=IntWalk.i64_in _ (by omega);have hw2:IntKind.i64.wrap (2*(r:Int)+1)=(C:Int):=by rw [IntWalk.i64_in _ (by omega)];omega
 have hgq0:g<wr.heap.size:=zB hg G0.out.size;by_cases hend:C>=hi
 · have hd:decide ((C:Int)>=(hi:Int))=true:=decide_eq_true (by omega);have HE:Hid (siftDown ltA hi f r dj=dj):=siftDown_end (by omega);clear HC0;go_wp2_with fail
   go_end0;exact ⟨rfl,dj,by rw [<- HO.out,HE.out],HSZ.out,R0.out,G0.out⟩
 have hd:decide ((C:Int)>=(hi:Int))=false:=decide_eq_false (by omega);have hw3:IntKind.i64.wrap ((C:Int)+1)=((C+1:Nat):Int):=by rw [IntWalk.i64_in _ (by omega)];omega
 by_cases h2:C+1<hi
 · have hd2:decide (((C+1:Nat):Int)<(hi:Int))=true:=decide_eq_true (by omega);obtain ⟨U,HU⟩:∃ U:Nat,U=f+C:=⟨_,rfl⟩;have hU:U+1<d.size:=by omega
   have hUi:(U:Int)<(d.size:Int):=by omega
   have hVi:((U+1:Nat):Int)<(d.size:Int):=by omega
   have hwU:IntKind.i64.wrap ((f:Int)+(C:Int))=(U:Int):=by rw [IntWalk.i64_in _ (by omega)];omega
   have hwV:IntKind.i64.wrap ((U:Int)+1)=((U+1:Nat):Int):=by rw [IntWalk.i64_in _ (by omega)];omega
   obtain ⟨p,hp⟩:∃ p,dj[U]! =p:=⟨_,rfl⟩;obtain ⟨q,hq⟩:∃ q,dj[U+1]! =q:=⟨_,rfl⟩;obtain ⟨V,HV⟩:∃ V:Nat,V=U+1:=⟨_,rfl⟩;obtain ⟨D,HD⟩:∃ D:Nat,D=C+1:=⟨_,rfl⟩;rw [<- HV] at hq hwV hVi;rw [<- HD] at hw3;obtain ⟨a0,a1,_,_⟩:=R0.out.at (j:=U) (by rw [HSZ.out];omega) hp;obtain ⟨b0,b1,_,_⟩:=R0.out.at (j:=V) (by rw [HSZ.out];omega) hq;by_cases hc:ltA p q=true
   · have HSP:Hid (siftDown ltA hi f r dj=if (!ltA dj[f+r]! dj[f+D]!)=true then dj else siftDown ltA hi f D (swp dj (f+r) (f+D))):=by
      have e:D=2*r+2:=by omega
      rw [e];refine siftDown_two (by omega) ?_;rw [show f+(2*r+1)=U by omega, <- HV,hp,hq];exact hc
     have hcm:decide (cmpID p q<0)=true:=hc;have hch:D<hi:=by omega
     have hDr:r<D:=by omega
     have HDh:=hid HD;clear hc hp hq HC0 HU HV HD;go_upto_region 3 with fail
     refine wp_region_ext (by kernel_rfl) (by kernel_rfl) ?_;repeat (go_big_quiet_step ((go_at_call 104;exact ext_call (asc_any p q _))))
     refine wpQuiet_nil ?_;intro w3 hb1;have R3:=hid (R0.out.on hb1);have G3:Hid (w.grownBy w3 (some g)):=g_below G0.out hb1;clear hb1 a0 a1 b0 b1 hcm hwU hwV;go_upto_region 5 with fail
     obtain ⟨P,HP⟩:∃ P:Nat,P=f+r:=⟨_,rfl⟩;obtain ⟨Q,HQ⟩:∃ Q:Nat,Q=f+D:=⟨_,rfl⟩;have hP:P<d.size:=by omega
     have hQ:Q<d.size:=by omega
     have hPi:(P:Int)<(d.size:Int):=by omega
     have hQi:(Q:Int)<(d.size:Int):=by omega
     have n1:¬ P=Q:=by omega
     have n2:¬ Q=P:=by omega
     have n3:¬ P*2=Q*2+1:=by omega
     have n4:¬ P*2+1=Q*2:=by omega
     have n5:¬ Q*2=P*2+1:=by omega
     have n6:¬ Q*2+1=P*2:=by omega
     have hwP:IntKind.i64.wrap ((f:Int)+(r:Int))=(P:Int):=by rw [IntWalk.i64_in _ (by omega)];omega
     have hwQ:IntKind.i64.wrap ((f:Int)+(D:Int))=(Q:Int):=by rw [IntWalk.i64_in _ (by omega)];omega
     obtain ⟨x,HX⟩:∃ x,Hid (dj[P]! =x):=⟨_,rfl⟩;obtain ⟨y,HY⟩:∃ y,Hid (dj[Q]! =y):=⟨_,rfl⟩
     have HSQ:Hid (siftDown ltA hi f r dj=if (!ltA x y)=true then dj else siftDown ltA hi f D (swp dj P Q)):=by
      rw [Hid,HSP.out, <- HP, <- HQ,HX.out,HY.out]
     have HPH:=hid HP;have HQH:=hid HQ;have HLP:=hid hP;have HLQ:=hid hQ;have hgq:g<w3.heap.size:=zB hg G3.out.size;clear HP HQ;obtain ⟨a0,a1,_,_⟩:=R3.out.at (j:=P) (by rw [HSZ.out];exact hP) HX.out;obtain ⟨b0,b1,_,_⟩:=R3.out.at (j:=Q) (by rw [HSZ.out];exact hQ) HY.out;by_cases hc:ltA x y=true
     · have hcm:decide (cmpID x y<0)=true:=hc;have HC:=hid hc;clear hc;refine wp_region_ext (by kernel_rfl) (by kernel_rfl) ?_;repeat (go_big_quiet_step ((go_at_call 104;exact ext_call (asc_any x y _))))
       refine wpQuiet_nil ?_;intro w5 hb1;have R5:=hid (R3.out.on hb1);have G5:Hid (w.grownBy w5 (some g)):=g_below G3.out hb1;clear hb1 a0 a1 b0 b1 hcm;obtain ⟨a0,a1,a2,a3⟩:=R5.out.at (j:=P) (by rw [HSZ.out];exact hP) HX.out;obtain ⟨b0,b1,b2,b3⟩:=R5.out.at (j:=Q) (by rw [HSZ.out];exact hQ) HY.out;go_upto_region 6 with fail
       go_region
       go_wp2_with fail
       go_roundw
       case rel=>
        refine ⟨D,swp dj P Q,by omega,by omega,rfl,by rw [size_swp];exact HSZ.out,?_,R5.out.swp (by rw [HSZ.out];exact hP) (by rw [HSZ.out];exact hQ) HX.out HY.out,?_⟩
        · rw [Hid, <- HO.out,HSQ.out,HC.out];rfl
        have hgg:=gsw G5.out P Q x y;exact ⟨hgg.os,hgg.tape,hgg.output,hgg.size,hgg.block⟩
       simp [intOf];omega
     have hcf:ltA x y=false:=by simpa using hc
     have hcm:decide (cmpID x y<0)=false:=hcf;have HC:=hid hcf;clear hc hcf;refine wp_region_ext (by kernel_rfl) (by kernel_rfl) ?_;repeat (go_big_quiet_step ((go_at_call 104;exact ext_call (asc_any x y _))))
     refine wpQuiet_nil ?_;intro w5 hb1;have R5:=hid (R3.out.on hb1);have G5:Hid (w.grownBy w5 (some g)):=g_below G3.out hb1;clear hb1 a0 a1 b0 b1 hcm;go_wp2_with fail
     refine bodyPost_ret (v:=.tuple #[]) (results_none rfl _ _ _) rfl ?_;refine ⟨rfl,dj,?_,HSZ.out,R5.out,G5.out⟩;rw [<- HO.out,HSQ.out,HC.out];rfl
   have HSP:Hid (siftDown ltA hi f r dj=if (!ltA dj[f+r]! dj[f+C]!)=true then dj else siftDown ltA hi f C (swp dj (f+r) (f+C))):=by
    rw [HC0];refine siftDown_one (by omega) (fun hx=>hc ?_);have:=hx.2;rw [show f+(2*r+1)=U by omega, <- HV,hp,hq] at this;exact this
   have hcf:ltA p q=false:=by simpa using hc
   have hcm:decide (cmpID p q<0)=false:=hcf;have hch:C<hi:=by omega
   have hDr:r<C:=by omega
   have HDh:=hid HD;have hDh2:D<hi:=by omega
   clear hc hcf hp hq HC0 HU HV HD;go_upto_region 3 with fail
   refine wp_region_ext (by kernel_rfl) (by kernel_rfl) ?_;repeat (go_big_quiet_step ((go_at_call 104;exact ext_call (asc_any p q _))))
   refine wpQuiet_nil ?_;intro w3 hb1;have R3:=hid (R0.out.on hb1);have G3:Hid (w.grownBy w3 (some g)):=g_below G0.out hb1;clear hb1 a0 a1 b0 b1 hcm hwU hwV;go_upto_region 5 with fail
   obtain ⟨P,HP⟩:∃ P:Nat,P=f+r:=⟨_,rfl⟩;obtain ⟨Q,HQ⟩:∃ Q:Nat,Q=f+C:=⟨_,rfl⟩;have hP:P<d.size:=by omega
   have hQ:Q<d.size:=by omega
   have hPi:(P:Int)<(d.size:Int):=by omega
   have hQi:(Q:Int)<(d.size:Int):=by omega
   have n1:¬ P=Q:=by omega
   have n2:¬ Q=P:=by omega
   have n3:¬ P*2=Q*2+1:=by omega
   have n4:¬ P*2+1=Q*2:=by omega
   have n5:¬ Q*2=P*2+1:=by omega
   have n6:¬ Q*2+1=P*2:=by omega
   have hwP:IntKind.i64.wrap ((f:Int)+(r:Int))=(P:Int):=by rw [IntWalk.i64_in _ (by omega)];omega
   have hwQ:IntKind.i64.wrap ((f:Int)+(C:Int))=(Q:Int):=by rw [IntWalk.i64_in _ (by omega)];omega
   obtain ⟨x,HX⟩:∃ x,Hid (dj[P]! =x):=⟨_,rfl⟩;obtain ⟨y,HY⟩:∃ y,Hid (dj[Q]! =y):=⟨_,rfl⟩
   have HSQ:Hid (siftDown ltA hi f r dj=if (!ltA x y)=true then dj else siftDown ltA hi f C (swp dj P Q)):=by
    rw [Hid,HSP.out, <- HP, <- HQ,HX.out,HY.out]
   have HPH:=hid HP;have HQH:=hid HQ;have HLP:=hid hP;have HLQ:=hid hQ;have hgq:g<w3.heap.size:=zB hg G3.out.size;clear HP HQ;obtain ⟨a0,a1,_,_⟩:=R3.out.at (j:=P) (by rw [HSZ.out];exact hP) HX.out;obtain ⟨b0,b1,_,_⟩:=R3.out.at (j:=Q) (by rw [HSZ.out];exact hQ) HY.out;by_cases hc:ltA x y=true
   · have hcm:decide (cmpID x y<0)=true:=hc;have HC:=hid hc;clear hc;refine wp_region_ext (by kernel_rfl) (by kernel_rfl) ?_;repeat (go_big_quiet_step ((go_at_call 104;exact ext_call (asc_any x y _))))
     refine wpQuiet_nil ?_;intro w5 hb1;have R5:=hid (R3.out.on hb1);have G5:Hid (w.grownBy w5 (some g)):=g_below G3.out hb1;clear hb1 a0 a1 b0 b1 hcm;obtain ⟨a0,a1,a2,a3⟩:=R5.out.at (j:=P) (by rw [HSZ.out];exact hP) HX.out;obtain ⟨b0,b1,b2,b3⟩:=R5.out.at (j:=Q) (by rw [HSZ.out];exact hQ) HY.out;go_upto_region 6 with fail
     go_region
     go_wp2_with fail
     go_roundw
     case rel=>
      refine ⟨C,swp dj P Q,by omega,by omega,rfl,by rw [size_swp];exact HSZ.out,?_,R5.out.swp (by rw [HSZ.out];exact hP) (by rw [HSZ.out];exact hQ) HX.out HY.out,?_⟩
      · rw [Hid, <- HO.out,HSQ.out,HC.out];rfl
      have hgg:=gsw G5.out P Q x y;exact ⟨hgg.os,hgg.tape,hgg.output,hgg.size,hgg.block⟩
     simp [intOf];omega
   have hcf:ltA x y=false:=by simpa using hc
   have hcm:decide (cmpID x y<0)=false:=hcf;have HC:=hid hcf;clear hc hcf;refine wp_region_ext (by kernel_rfl) (by kernel_rfl) ?_;repeat (go_big_quiet_step ((go_at_call 104;exact ext_call (asc_any x y _))))
   refine wpQuiet_nil ?_;intro w5 hb1;have R5:=hid (R3.out.on hb1);have G5:Hid (w.grownBy w5 (some g)):=g_below G3.out hb1;clear hb1 a0 a1 b0 b1 hcm;go_wp2_with fail
   refine bodyPost_ret (v:=.tuple #[]) (results_none rfl _ _ _) rfl ?_;refine ⟨rfl,dj,?_,HSZ.out,R5.out,G5.out⟩;rw [<- HO.out,HSQ.out,HC.out];rfl
 obtain ⟨D,HD⟩:∃ D:Nat,D=C+1:=⟨_,rfl⟩
 have HSP:Hid (siftDown ltA hi f r dj=if (!ltA dj[f+r]! dj[f+C]!)=true then dj else siftDown ltA hi f C (swp dj (f+r) (f+C))):=by
  rw [HC0];exact siftDown_one (by omega) (fun hx=>h2 (by have:=hx.1;omega))
 have hnd:¬ D<hi:=by omega
 have hch:C<hi:=by omega
 have hDr:r<C:=by omega
 rw [<- HD] at hw3;clear HC0 HD;go_upto_region 3 with fail
 go_quiet (fail)
 have R3:Hid (RowA (wr.drewN nq) g dj):=R0.out.on (bdrewN (Below.refl _ _) _);have G3:Hid (w.grownBy (wr.drewN nq) (some g)):=g_drewN G0.out _;generalize wr.drewN nq=w3 at R3 G3 |-; go_upto_region 5 with fail
 obtain ⟨P,HP⟩:∃ P:Nat,P=f+r:=⟨_,rfl⟩;obtain ⟨Q,HQ⟩:∃ Q:Nat,Q=f+C:=⟨_,rfl⟩;have hP:P<d.size:=by omega
 have hQ:Q<d.size:=by omega
 have hPi:(P:Int)<(d.size:Int):=by omega
 have hQi:(Q:Int)<(d.size:Int):=by omega
 have n1:¬ P=Q:=by omega
 have n2:¬ Q=P:=by omega
 have n3:¬ P*2=Q*2+1:=by omega
 have n4:¬ P*2+1=Q*2:=by omega
 have n5:¬ Q*2=P*2+1:=by omega
 have n6:¬ Q*2+1=P*2:=by omega
 have hwP:IntKind.i64.wrap ((f:Int)+(r:Int))=(P:Int):=by rw [IntWalk.i64_in _ (by omega)];omega
 have hwQ:IntKind.i64.wrap ((f:Int)+(C:Int))=(Q:Int):=by rw [IntWalk.i64_in _ (by omega)];omega
 obtain ⟨x,HX⟩:∃ x,Hid (dj[P]! =x):=⟨_,rfl⟩;obtain ⟨y,HY⟩:∃ y,Hid (dj[Q]! =y):=⟨_,rfl⟩
 have HSQ:Hid (siftDown ltA hi f r dj=if (!ltA x y)=true then dj else siftDown ltA hi f C (swp dj P Q)):=by
  rw [Hid,HSP.out, <- HP, <- HQ,HX.out,HY.out]
 have HPH:=hid HP;have HQH:=hid HQ;have HLP:=hid hP;have HLQ:=hid hQ;have hgq:g<w3.heap.size:=zB hg G3.out.size;clear HP HQ;obtain ⟨a0,a1,_,_⟩:=R3.out.at (j:=P) (by rw [HSZ.out];exact hP) HX.out;obtain ⟨b0,b1,_,_⟩:=R3.out.at (j:=Q) (by rw [HSZ.out];exact hQ) HY.out;by_cases hc:ltA x y=true
 · have hcm:decide (cmpID x y<0)=true:=hc;have HC:=hid hc;clear hc;refine wp_region_ext (by kernel_rfl) (by kernel_rfl) ?_;repeat (go_big_quiet_step ((go_at_call 104;exact ext_call (asc_any x y _))))
   refine wpQuiet_nil ?_;intro w5 hb1;have R5:=hid (R3.out.on hb1);have G5:Hid (w.grownBy w5 (some g)):=g_below G3.out hb1;clear hb1 a0 a1 b0 b1 hcm;obtain ⟨a0,a1,a2,a3⟩:=R5.out.at (j:=P) (by rw [HSZ.out];exact hP) HX.out;obtain ⟨b0,b1,b2,b3⟩:=R5.out.at (j:=Q) (by rw [HSZ.out];exact hQ) HY.out;go_upto_region 6 with fail
   go_region
   go_wp2_with fail
   go_roundw
   case rel=>
    refine ⟨C,swp dj P Q,by omega,by omega,rfl,by rw [size_swp];exact HSZ.out,?_,R5.out.swp (by rw [HSZ.out];exact hP) (by rw [HSZ.out];exact hQ) HX.out HY.out,?_⟩
    · rw [Hid, <- HO.out,HSQ.out,HC.out];rfl
    have hgg:=gsw G5.out P Q x y;exact ⟨hgg.os,hgg.tape,hgg.output,hgg.size,hgg.block⟩
   simp [intOf];omega
 have hcf:ltA x y=false:=by simpa using hc
 have hcm:decide (cmpID x y<0)=false:=hcf;have HC:=hid hcf;clear hc hcf;refine wp_region_ext (by kernel_rfl) (by kernel_rfl) ?_;repeat (go_big_quiet_step ((go_at_call 104;exact ext_call (asc_any x y _))))
 refine wpQuiet_nil ?_;intro w5 hb1;have R5:=hid (R3.out.on hb1);have G5:Hid (w.grownBy w5 (some g)):=g_below G3.out hb1;clear hb1 a0 a1 b0 b1 hcm;go_wp2_with fail
 refine bodyPost_ret (v:=.tuple #[]) (results_none rfl _ _ _) rfl ?_;refine ⟨rfl,dj,?_,HSZ.out,R5.out,G5.out⟩;rw [<- HO.out,HSQ.out,HC.out];rfl
end
section
open Go.RowKit Go.Shelf Go.Sort
attribute [local go_sem] wext_cell
theorem hp_pre {a b:Nat} (hab:a<b) (hb:b<=1000000):∃ hi q p:Nat,IntKind.i64.wrap ((b:Int)-(a:Int))=(hi:Int)/\IntKind.i64.wrap ((hi:Int)-1)=(p:Int)/\wrap64 ((p:Int) / 2)=(q:Int)/\Hid (hi=b-a/\p=hi-1/\q=p / 2/\1<=hi):=by
 obtain ⟨hi,hhi⟩:∃ hi:Nat,hi=b-a:=⟨_,rfl⟩;have h1:1<=hi:=by omega
 have h2:hi<=1000000:=by omega
 have e1:(b:Int)-(a:Int)=(hi:Int):=by omega
 have e2:(hi:Int)-1=((hi-1:Nat):Int):=by omega
 refine ⟨hi,(hi-1) / 2,hi-1,?_,?_,?_,hhi,rfl,rfl,h1⟩
 · rw [e1,IntWalk.i64_in _ (by omega)]
 · rw [e2,IntWalk.i64_in _ (by omega)]
 clear e1 e2 hhi hab hb;unfold wrap64;omega
theorem heapA_any (g c a b:Nat) (d:Array ID) (w:World) (h:RowA w g d) (hab:a<b) (hb:b<=d.size) (hn:d.size<=1000000) (hg:g<w.heap.size):
 Calls Tryz.prog 203 #[.slice (some ⟨g,0,none⟩) d.size c,.int .i64 a,.int .i64 b,vAsc] w (SortP a b d g w):=by
 have H:=hid h;clear h;obtain ⟨hi,q,p,hw1,hw2,hwq,HF⟩:=hp_pre hab (zC hb hn);have hhi1:1<=hi:=HF.out.2.2.2;have hhi2:a+hi<=d.size:=by rw [HF.out.1,Nat.add_sub_cancel' (zD hab)];exact hb
 have HHI:Hid (hi=b-a):=HF.out.1;have HP:Hid (p=hi-1):=HF.out.2.1;have HQ:Hid (q=p / 2):=HF.out.2.2.1;have hq1:q<=d.size:=zC (by rw [HQ.out,HP.out];exact zC (Nat.div_le_self _ _) (Nat.sub_le _ _)) (zC (Nat.le_add_left hi a) hhi2);have HBQ:Hid (b-a=hi):=HHI.out.symm;go_enter Tryz.func203,Tryz.ntmps203;go_wp2_with fail
 rw [hwq];go_loopw [11] (fun v wr=>∃ (k:Nat) (z:Int) (dj:Array ID),k<=q+1/\z=(k:Int)-1/\v= .int .i64 z/\dj.size=d.size/\Hid (heapBuild ltA hi a k dj=heapBuild ltA hi a (q+1) d)/\RowA wr g dj/\w.grownBy wr (some g)) (fun v _=>(intOf v+1).toNat)
 case atStart=>exact ⟨q+1,(q:Int),d,zA _,by omega,rfl,rfl,rfl,H.out,g_refl _ _⟩
 obtain ⟨k,z,dj,hk,hz,rfl,hsj,HO,hr,hgr⟩:=hrel;have R0:=hid hr;have G0:=hid hgr;have HSZ:=hid hsj;clear hr hgr hsj;cases k with
 | succ m=>
  obtain rfl:z=(m:Int):=by omega
  have HS:=hid (siftA_any g c hi a m dj wr R0.out (by rw [HSZ.out];exact hhi2) (.inr (by rw [HSZ.out];exact zC (Nat.le_of_lt_succ hk) hq1)) (by rw [HSZ.out];exact hn) (zB hg G0.out.size));rw [HSZ.out] at HS;clear hz;go_wp2_with (go_at_call 257;(with_reducible refine HS.out.mono ?_);refine halt_ ?_)
  rintro e w2 ⟨rfl,d2,hd2,hs2,hr2,hg2⟩;have R2:=hid hr2;have G2:=hid (g_trans G0.out hg2);have HS2:=hid hs2;have HD2:=hid hd2;clear hd2 hs2 hr2 hg2 HS;go_wp2_with fail
  go_roundw
  case rel=>
   refine ⟨m,(m:Int)-1,d2,by omega,rfl,by go_num,HS2.out,?_,R2.out,G2.out⟩;rw [Hid, <- HO.out, <- HD2.out];rfl
  first | (simp [intOf];done) | (simp [intOf];omega)
 | zero=>
  obtain rfl:z= -1:=by omega
  obtain ⟨d1,HD1⟩:∃ d1,Hid (heapBuild ltA hi a (q+1) d=d1):=⟨_,rfl⟩;have HDJ:Hid (dj=d1):=by rw [Hid, <- HD1.out, <- HO.out];rfl
  clear hz;go_wp2_with fail
  rename World=>wa;go_loopw [12] (fun v wr=>∃ (k:Nat) (z:Int) (dj:Array ID),k<=hi/\z=(k:Int)-1/\v= .int .i64 z/\dj.size=d.size/\Hid (heapPop ltA a k dj=heapPop ltA a hi d1)/\RowA wr g dj/\w.grownBy wr (some g)) (fun v _=>(intOf v+1).toNat)
  case atStart=>exact ⟨hi,(p:Int),dj,zA _,by have:=HP.out;omega,rfl,HSZ.out,by rw [Hid,HDJ.out],R0.out,G0.out⟩
  rename World=>wz;obtain ⟨k,z,dk,hk2,hz,rfl,hsk,HO2,hr,hgr⟩:=hrel;have R3:=hid hr;have G3:=hid hgr;have HSK:=hid hsk;clear hr hgr hsk R0 G0;cases k with
  | succ m=>
   obtain rfl:z=(m:Int):=by omega
   clear hz;obtain ⟨P,HPP⟩:∃ P:Nat,P=a+m:=⟨_,rfl⟩;have hP:P<d.size:=by omega
   have ha:a<d.size:=by omega
   have hwP:IntKind.i64.wrap ((a:Int)+(m:Int))=(P:Int):=by
    clear hwq hw1 hw2;rw [IntWalk.i64_in _ (by omega)];omega
   have HPH:=hid HPP;have HPS:=hid (And.intro ha hP);have HDS:=hid hn;clear HPP hP ha;go_upto_region 10 with fail
   go_cut [] from 36 to 53 (fun wr=>Hid (RowA wr g (swp dk a P))/\Hid (w.grownBy wr (some g)))
   case first=>
    obtain ⟨x,HX⟩:∃ x,Hid (dk[a]! =x):=⟨_,rfl⟩;obtain ⟨y,HY⟩:∃ y,Hid (dk[P]! =y):=⟨_,rfl⟩;have hAs:a<dk.size:=by rw [HSK.out];exact HPS.out.1
    have hBs:P<dk.size:=by rw [HSK.out];exact HPS.out.2
    obtain ⟨a0,a1,a2,a3⟩:=R3.out.at (j:=a) hAs HX.out;obtain ⟨b0,b1,b2,b3⟩:=R3.out.at (j:=P) hBs HY.out;have k1:(P:Int)<(d.size:Int):=Int.ofNat_lt.2 HPS.out.2;have k2:(a:Int)<(d.size:Int):=Int.ofNat_lt.2 HPS.out.1;have HSW:=hid (R3.out.swp hAs hBs HX.out HY.out);have HGW:=hid (gsw G3.out a P x y);clear hAs hBs;by_cases hAB:P=a
    · subst hAB;obtain rfl:x=y:=HX.out.symm.trans HY.out;go_region
      go_wp2_with fail
      go_meet;exact ⟨HSW.out,HGW.out.os,HGW.out.tape,HGW.out.output,HGW.out.size,HGW.out.block⟩
    have n1:¬ P=a:=hAB;have n2:¬ a=P:=fun e=>hAB e.symm;have n3:¬ P*2=a*2+1:=by omega
    have n4:¬ P*2+1=a*2:=by omega
    have n5:¬ a*2=P*2+1:=by omega
    have n6:¬ a*2+1=P*2:=by omega
    clear hAB;go_region
    go_wp2_with fail
    go_meet;exact ⟨HSW.out,HGW.out.os,HGW.out.tape,HGW.out.output,HGW.out.size,HGW.out.block⟩
   obtain ⟨HR4,HG4⟩:=hcut;obtain ⟨dn,HDN⟩:∃ dn,Hid (swp dk a P=dn):=⟨_,rfl⟩;rw [HDN.out] at HR4;have HSN:Hid (dn.size=d.size):=by rw [Hid, <- HDN.out,size_swp];exact HSK.out
   have HS:=siftA_any g c m a 0 dn wc HR4.out (by rw [HSN.out];have:=HPH.out;have:=HPS.out.2;omega) (.inr (Nat.zero_le _)) (by rw [HSN.out];exact HDS.out) (zB hg HG4.out.size);rw [HSN.out,show ((0:Nat):Int)=0 from rfl] at HS;have HS:=hid HS;go_wp2_with (go_at_call 257;(with_reducible refine HS.out.mono ?_);refine halt_ ?_)
   rintro e w2 ⟨rfl,d2,hd2,hs2,hr2,hg2⟩;have R4:=hid hr2;have G4:Hid (w.grownBy w2 (some g)):=g_trans HG4.out hg2;have HS2:=hid hs2;have HD2:=hid hd2;clear hd2 hs2 hr2 hg2 HS HR4 HG4;go_wp2_with fail
   go_roundw
   case rel=>
    refine ⟨m,(m:Int)-1,d2,by omega,rfl,by go_num,HS2.out,?_,R4.out,G4.out⟩;rw [Hid, <- HO2.out, <- HD2.out, <- HDN.out];exact congrArg (fun z=>heapPop ltA a m (siftDown ltA m a 0 (swp dk a z))) HPH.out
   first | (simp [intOf];done) | (simp [intOf];omega)
  | zero=>
   obtain rfl:z= -1:=by omega
   clear hz;go_wp2_with fail
   refine bodyPost_ret (v:=.tuple #[]) (results_none rfl _ _ _) rfl ?_
   have e:Sort.heapSort ltA d a b=dk:=by
    unfold Sort.heapSort;rw [HBQ.out,show (hi-1) / 2+1=q+1 by rw [HQ.out,HP.out],HD1.out, <- HO2.out];rfl
   have hS:=heapSort_holds (lt:=ltA) swoID d a b (zD hab) hb;rw [e] at hS;exact ⟨rfl,dk,hS.1,hS.2,R3.out,G3.out⟩
end
section
open Go.RowKit Go.Shelf Go.Sort
structure QSt (A B:Nat) (d0:Array ID) (a b:Nat) (d:Array ID) (g:Nat) (w wr:World):Prop where
 ab:a<=b
 bs:b<=d.size
 sz:d.size=d0.size
 below:Sort.Below ltA a b d
 fin:∀ R,PermIn a b d R->SortedIn ltA a b R->PermIn A B d0 R/\SortedIn ltA A B R
 row:RowA wr g d
 gr:w.grownBy wr (some g)
namespace QSt
variable {A B:Nat} {d0:Array ID} {a b:Nat} {d d':Array ID} {g:Nat} {w wr w1:World}
theorem start (h:RowA w g d) (hab:a<=b) (hb:b<=d.size) (hB:Sort.Below ltA a b d):QSt a b d a b d g w w:=
 ⟨hab,hb,rfl,hB,fun _ h1 h2=>⟨h1,h2⟩,h,g_refl _ _⟩
theorem on (h:QSt A B d0 a b d g w wr) (hb:Go.RowKit.Below wr.heap.size wr w1):QSt A B d0 a b d g w w1:={ h with row:=h.row.on hb,gr:=g_below h.gr hb }
theorem same (h:QSt A B d0 a b d g w wr) (row:RowA w1 g d) (gr:wr.grownBy w1 (some g)):QSt A B d0 a b d g w w1:={ h with row:=row,gr:=g_trans h.gr gr }
theorem perm (h:QSt A B d0 a b d g w wr) (hp:PermIn a b d d') (row:RowA w1 g d') (gr:wr.grownBy w1 (some g)):QSt A B d0 a b d' g w w1:=
 ⟨h.ab,by rw [hp.1];exact h.bs,by rw [hp.1];exact h.sz,h.below.perm h.bs hp,fun R h1 h2=>h.fin R (permIn_trans _ _ _ _ _ hp h1) h2,row,g_trans h.gr gr⟩
theorem sort (h:QSt A B d0 a b d g w wr) (hp:PermIn a b d d') (hs:SortedIn ltA a b d') (row:RowA w1 g d') (gr:wr.grownBy w1 (some g)) (e:Ending) (he:e= .returned (.tuple #[])):SortP A B d0 g w e w1:=
 ⟨he,d',(h.fin d' hp hs).1,(h.fin d' hp hs).2,row,g_trans h.gr gr⟩
theorem done (h:QSt A B d0 a b d g w wr) (hs:SortedIn ltA a b d) (e:Ending) (he:e= .returned (.tuple #[])):SortP A B d0 g w e wr:=
 ⟨he,d,(h.fin d (permIn_refl _ _ _) hs).1,(h.fin d (permIn_refl _ _ _) hs).2,h.row,h.gr⟩
theorem equal (h:QSt A B d0 a b d g w wr) {p mid:Nat} (ha:0<a) (hap:a<=p) (hpb:p<b) (hn:ltA d[a-1]! d[p]! =false) (hx:partitionEqual ltA d a b p=(mid,d')) (row:RowA w1 g d') (gr:wr.grownBy w1 (some g)):
 a<mid/\mid<=b/\QSt A B d0 mid b d' g w w1:=by
 obtain ⟨h1,h2,h3,h4,h5⟩:=round_eq swoID (partitionEqual_holds ltA) ha hap hpb h.bs h.below hn hx;refine ⟨h1,h2,h2,by rw [h3];exact h.bs,h3.trans h.sz,h4,fun R r1 r2=>?_,row,g_trans h.gr gr⟩;obtain ⟨q1,q2⟩:=h5 R r1 r2;exact h.fin R q1 q2
theorem part (h:QSt A B d0 a b d g w wr) {p mid:Nat} {al:Bool} (hap:a<=p) (hpb:p<b) (hx1:(partition ltA d a b p).1=mid) (hx2:(partition ltA d a b p).2.2=d') (row:RowA w1 g d') (gr:wr.grownBy w1 (some g)):
 a<=mid/\mid<b/\d'.size=d0.size/\b<=d'.size/\RowA w1 g d'/\w.grownBy w1 (some g)/\Sort.Below ltA a mid d'/\Sort.Below ltA (mid+1) b d'/\
 (∀ L w2,PermIn a mid d' L->SortedIn ltA a mid L->RowA w2 g L->w1.grownBy w2 (some g)->QSt A B d0 (mid+1) b L g w w2)/\
 (∀ L w2,PermIn (mid+1) b d' L->SortedIn ltA (mid+1) b L->RowA w2 g L->w1.grownBy w2 (some g)->QSt A B d0 a mid L g w w2):=by
 have hx:partition ltA d a b p=(mid,(partition ltA d a b p).2.1,d'):=by rw [<- hx1, <- hx2]
 obtain ⟨h1,h2,h3,h4,h5,h6,h7⟩:=round_part swoID (partition_holds ltA) hap hpb h.bs h.below hx;refine ⟨h1,h2,h3.trans h.sz,by rw [h3];exact h.bs,row,g_trans h.gr gr,h4,h5,fun L w2 hL hs r g2=>?_,fun L w2 hL hs r g2=>?_⟩
 · obtain ⟨q1,q2⟩:=h6 L hL hs;refine ⟨by omega,by rw [hL.1,h3];exact h.bs,by rw [hL.1,h3];exact h.sz,q1,fun R r1 r2=>?_,r,g_trans (g_trans h.gr gr) g2⟩;obtain ⟨s1,s2⟩:=q2 R r1 r2;exact h.fin R s1 s2
 obtain ⟨q1,q2⟩:=h7 L hL hs;refine ⟨h1,by rw [hL.1,h3];have:=h.bs;omega,by rw [hL.1,h3];exact h.sz,q1,fun R r1 r2=>?_,r,g_trans (g_trans h.gr gr) g2⟩;obtain ⟨s1,s2⟩:=q2 R r1 r2;exact h.fin R s1 s2
end QSt
end
section
open Go.RowKit Go.Shelf Go.Sort
attribute [local go_sem] wext_cell
def PdqOk (n:Nat):Prop:=
 ∀ (g c a b lim:Nat) (d:Array ID) (w:World),RowA w g d->a<=b->b<=d.size->b-a<n->b-a<50->d.size<=1000000->lim<=1000->Sort.Below ltA a b d->g<w.heap.size->
  Calls Tryz.prog 156 #[.slice (some ⟨g,0,none⟩) d.size c,.int .i64 a,.int .i64 b,.int .i64 lim,vAsc] w (SortP a b d g w)
theorem pdq_len {a b:Nat} (h:a<=b) (hb:b<=1000000):∃ L:Nat,IntKind.i64.wrap ((b:Int)-(a:Int))=(L:Int)/\Hid (L=b-a):=by
 refine ⟨b-a,?_,rfl⟩;rw [IntWalk.i64_in _ (by omega)];omega
theorem pdq_rev {a b p:Nat} (h1:a<=p) (h2:p<b) (hb:b<=1000000):∃ m k q:Nat,IntKind.i64.wrap ((b:Int)-1)=(m:Int)/\IntKind.i64.wrap ((p:Int)-(a:Int))=(k:Int)/\IntKind.i64.wrap ((m:Int)-(k:Int))=(q:Int)/\Hid (a<=q/\q<b):=by
 refine ⟨b-1,p-a,b-1-(p-a),?_,?_,?_,by unfold Hid;omega⟩
 · rw [IntWalk.i64_in _ (by omega)];omega
 · rw [IntWalk.i64_in _ (by omega)];omega
 rw [IntWalk.i64_in _ (by omega)];omega
theorem pdq_lim {l:Nat} (h0:l≠0) (h:l<=1000):∃ k:Nat,IntKind.i64.wrap ((l:Int)-1)=(k:Int)/\Hid (k<=1000):=by
 refine ⟨l-1,?_,by unfold Hid;omega⟩;rw [IntWalk.i64_in _ (by omega)];omega
theorem pdqA_step (n:Nat) (ih:PdqOk n):PdqOk (n+1):=by
 intro g c a b lim d w h hab hb hn h50 hz hlim hB hg;have IH:=hid ih;have Q0:=hid (QSt.start h hab hb hB);have HS:=hid (show b-a<n+1/\b-a<50/\d.size<=1000000/\b<=d.size from ⟨hn,h50,hz,hb⟩);have HLM:=hid hlim;have HG:=hid hg;clear ih h hab hb hn h50 hz hB hg hlim;go_enter Tryz.func156,Tryz.ntmps156;go_wp2_with fail
 go_loopg [1,2,3,10,11] (b-a) (fun kx s1 s2 s3 s10 s11 wr=>∃ (a' b' lm:Nat) (wb wp:Bool) (dk:Array ID),s1= .int .i64 (a':Int)/\s2= .int .i64 (b':Int)/\s3= .int .i64 (lm:Int)/\s10= .bool wb/\s11= .bool wp/\Hid (b'-a'<=kx)/\Hid (kx<=b-a)/\Hid (lm<=1000)/\Hid (QSt a b d a' b' dk g w wr))
 case atStart=>exact ⟨a,b,lim,true,true,d,rfl,rfl,rfl,rfl,rfl,zA _,zA _,HLM.out,Q0.out⟩
 obtain ⟨a',b',lm,wb,wp,dk,rfl,rfl,rfl,rfl,rfl,HK,HK2,HL,Q⟩:=hrel;obtain ⟨L,wL,HLL⟩:=pdq_len Q.out.ab (by have:=HS.out;have:=Q.out.bs;have:=Q.out.sz;omega);have HD:Hid (dk.size=d.size):=Q.out.sz;have HGR:Hid (g<wr.heap.size):=Q.out.row.lt;by_cases h12:L<=12
 · have h12z:(L:Int)<=12:=by omega
   have HC:=insA_any g c a' b' dk wr Q.out.row Q.out.ab Q.out.bs (by rw [HD.out];exact HS.out.2.2.1) HGR.out;rw [HD.out] at HC;have HC:=hid HC;clear h12;go_wp2_with (go_at_call 202;(with_reducible refine HC.out.mono ?_);refine halt_ ?_)
   first | rintro e w2 rfl d2 hp hs hr hg | rintro e w2 d2 rfl hp hs hr hg | rintro e w2 ⟨rfl,d2,hp,hs,hr,hg⟩
   have HX:=hid (Q.out.sort hp hs hr hg _ rfl);clear hp hs hr hg;go_wp2_with fail
   (try simp only [Exit.inBlock,Exit.then])
   refine bodyPost_ret (results_none rfl _ _ _) rfl ?_;exact HX.out
 have h12z:¬ (L:Int)<=12:=by omega
 have H12:Hid (12<b'-a'):=by have:=HLL.out;unfold Hid;omega
 have H50:Hid (b'-a'<50):=by have:=HS.out;have:=HK.out;have:=HK2.out;unfold Hid;omega
 clear h12;by_cases hl0:lm=0
 · subst hl0;have HC:=heapA_any g c a' b' dk wr Q.out.row (by have:=H12.out;omega) Q.out.bs (by rw [HD.out];exact HS.out.2.2.1) HGR.out;rw [HD.out] at HC;have HC:=hid HC;go_wp2_with (go_at_call 203;(with_reducible refine HC.out.mono ?_);refine halt_ ?_)
   first | rintro e w2 rfl d2 hp hs hr hg | rintro e w2 d2 rfl hp hs hr hg | rintro e w2 ⟨rfl,d2,hp,hs,hr,hg⟩
   have HX:=hid (Q.out.sort hp hs hr hg _ rfl);clear hp hs hr hg;go_wp2_with fail
   (try simp only [Exit.inBlock,Exit.then])
   refine bodyPost_ret (results_none rfl _ _ _) rfl ?_;exact HX.out
 have hl0z:((lm:Int)==0)=false:=by simp;omega
 obtain ⟨lm1,wlm,HLM1⟩:=pdq_lim hl0 HL.out;clear hl0;go_upto_if 39 with fail
 go_cut [3] from 21 to 147 (fun s3 wc=>∃ (l2:Nat) (d1:Array ID),s3= .int .i64 (l2:Int)/\Hid (l2<=1000)/\Hid (QSt a b d a' b' d1 g w wc))
 case first=>
  cases wb
  · have HC:=breakA_any g c a' b' dk wr Q.out.row H12.out Q.out.bs (by rw [HD.out];exact HS.out.2.2.1) HGR.out;rw [HD.out] at HC;have HC:=hid HC;go_wp2_with (go_at_call 204;(with_reducible refine HC.out.mono ?_);refine halt_ ?_)
    first | rintro e w2 rfl d2 hp hr hg | rintro e w2 d2 rfl hp hr hg | rintro e w2 ⟨rfl,d2,hp,hr,hg⟩
    have HX:=hid (Q.out.perm hp hr hg);clear hp hr hg;go_wp2_with fail
    go_meet;exact ⟨lm1,d2,rfl,HLM1,HX⟩
  go_wp2_with fail
  go_meet;exact ⟨lm,dk,rfl,HL,Q⟩
 obtain ⟨l2,d1,rfl,HL2,Q1⟩:=hcut;clear Q HD HGR HL HLM1 wlm;have HD:Hid (d1.size=d.size):=Q1.out.sz;have HC:=chooseA_any g c a' b' d1 wc Q1.out.row H12.out H50.out Q1.out.bs (by rw [HD.out];exact HS.out.2.2.1) Q1.out.row.lt;rw [HD.out] at HC;have HC:=hid HC;go_upto_if 56 with (go_at_call 205;(with_reducible refine HC.out.mono ?_);refine halt_ ?_)
 first | rintro e w2 p z rfl HP hbw | rintro e w2 ⟨p,z,rfl,HP,hbw⟩
 have Q2:=hid (Q1.out.on hbw);clear hbw HC Q1;go_upto_if 56 with fail
 go_cut [13,14] from 21 to 147 (fun s13 s14 wc=>∃ (p:Nat) (z:Int) (d2:Array ID),s13= .int .i64 (p:Int)/\s14= .int .i64 z/\Hid (a'<=p/\p<b')/\Hid (QSt a b d a' b' d2 g w wc))
 case first=>
  by_cases hz:z=2
  · subst hz;have HC:=revA_any g c a' b' d1 w2 Q2.out.row (by have:=H12.out;omega) Q2.out.bs (by rw [HD.out];exact HS.out.2.2.1) Q2.out.row.lt;rw [HD.out] at HC;have HC:=hid HC;obtain ⟨m,k,q,wm,wk,wq,HQ⟩:=pdq_rev HP.out.1 HP.out.2.1 (by have:=HS.out;have:=Q2.out.bs;have:=Q2.out.sz;omega);go_wp2_with (go_at_call 206;(with_reducible refine HC.out.mono ?_);refine halt_ ?_)
    first | rintro e w3 rfl d2 hp hr hg | rintro e w3 d2 rfl hp hr hg | rintro e w3 ⟨rfl,d2,hp,hr,hg⟩
    have HX:=hid (Q2.out.perm hp hr hg);clear hp hr hg;go_wp2_with fail
    go_meet;exact ⟨q,1,d2,rfl,rfl,HQ,HX⟩
  have hzz:(z==2)=false:=by simpa using hz
  clear hz;go_wp2_with fail
  go_meet;exact ⟨p,z,d1,rfl,rfl,⟨HP.out.1,HP.out.2.1⟩,Q2⟩
 clear HD Q2 HP;rename World=>wd;obtain ⟨p,z,d2,rfl,rfl,HP,Q3⟩:=hcut;have HD:Hid (d2.size=d.size):=Q3.out.sz;go_upto_region 15 with fail
 go_cut [75] from 21 to 147 (fun s75 wx=>∃ q:Bool,s75= .bool q/\wx=wd)
 case first=>
  cases wb<;>cases wp<;>(cases hz1:(z==1)<;>(go_wp2_with fail;go_meet;exact ⟨_,rfl,rfl⟩))
 obtain ⟨q,rfl,rfl⟩:=hcut;go_upto_if 75 with fail
 go_cut [] from 21 to 147 (fun wx=>Hid (QSt a b d a' b' d2 g w wx))
 case first=>
  cases q
  · go_wp2_with fail
    go_meet;exact Q3
  have HC:=partialA_any g c a' b' d2 _ Q3.out.row Q3.out.below (by have:=H12.out;omega) H50.out Q3.out.bs (by rw [HD.out];exact HS.out.2.2.1) Q3.out.row.lt;rw [HD.out] at HC;have HC:=hid HC;go_wp2_with (go_at_call 207;(with_reducible refine HC.out.mono ?_);refine halt_ ?_)
  first | rintro e w3 r rfl HR HW | rintro e w3 ⟨r,rfl,HR,HW⟩
  have Q4:=hid (Q3.out.same HW.out.1 HW.out.2);clear HC;cases r
  · go_wp2_with fail
    go_meet;exact Q4
  have HX:=hid (Q4.out.done (HR.out rfl) _ rfl);go_wp2_with fail
  (try simp only [Exit.inBlock,Exit.then])
  refine bodyPost_ret (results_none rfl _ _ _) rfl ?_;exact HX.out
 have Q4:Hid (QSt a b d a' b' d2 g w _):=hcut;clear hcut Q3;go_upto_region 17 with fail
 go_cut [97] from 21 to 147 (fun s97 wx=>∃ q:Bool,s97= .bool q/\Hid (q=true->0<a'/\ltA d2[a'-1]! d2[p]! =false)/\Hid (QSt a b d a' b' d2 g w wx))
 case first=>
  have HD2:Hid (a'<d2.size/\p<d2.size):=by have:=Q4.out.bs;have:=HP.out;have:=H12.out;unfold Hid;omega
  by_cases ha:a'=0
  · subst ha;go_wp2_with fail
    go_quiet (fail)
    go_wp2_with fail
    go_meet;exact ⟨false,rfl,fun h=>absurd h (by decide),Q4.out.on (bdrewN (Below.refl _ _) _)⟩
  obtain ⟨m,HM⟩:∃ m,Hid (a'=m+1):=⟨a'-1,by unfold Hid;omega⟩;clear ha;have hw:IntKind.i64.wrap ((a':Int)-1)=(m:Int):=by have:=HM.out;have:=HD2.out;have:=HS.out;have:=HD.out;rw [IntWalk.i64_in _ (by omega)];omega
  obtain ⟨x,HX⟩:∃ x,Hid (d2[m]! =x):=⟨_,rfl⟩;obtain ⟨y,HY⟩:∃ y,Hid (d2[p]! =y):=⟨_,rfl⟩;obtain ⟨a0,a1,_,_⟩:=Q4.out.row.at (j:=m) (by have:=HM.out;have:=HD2.out;omega) HX.out;obtain ⟨b0,b1,_,_⟩:=Q4.out.row.at (j:=p) HD2.out.2 HY.out;have k1:(m:Int)<(d.size:Int):=by have:=HM.out;have:=HD2.out;have:=HD.out;omega
  have k2:(p:Int)<(d.size:Int):=by have:=HD2.out;have:=HD.out;omega
  have hgw:=Q4.out.row.lt;have hpos:decide (a'>0)=true:=decide_eq_true (by have:=HM.out;omega);have hpos2:decide (0<a')=true:=hpos;obtain ⟨cc,hc⟩:∃ cc,ltA x y=cc:=⟨_,rfl⟩;have hcm:decide (cmpID x y<0)=cc:=hc;have HC:=hid hc;clear hc
  cases cc<;>(
   go_wp2_with fail
   refine wp_region_ext (by kernel_rfl) (by kernel_rfl) ?_;repeat (go_big_quiet_step ((go_at_call 104;exact ext_call (asc_any x y _))))
   refine wpQuiet_nil ?_;intro w3 hb1;have Q5:=hid (Q4.out.on hb1);clear a0 a1 b0 b1 hcm hb1;go_wp2_with fail
   go_meet;first | exact ⟨true,rfl,fun _=>⟨by have:=HM.out;omega,by rw [show a'-1=m from by have:=HM.out;omega,HX.out,HY.out];exact HC.out⟩,Q5⟩ | exact ⟨false,rfl,fun h=>absurd h (by decide),Q5⟩)
 obtain ⟨q,rfl,HQ,Q5⟩:=hcut;clear Q4;cases q
 · have HC:=partA_any g c a' b' p d2 _ Q5.out.row HP.out.1 HP.out.2 Q5.out.bs (by rw [HD.out];exact HS.out.2.2.1) Q5.out.row.lt;rw [HD.out] at HC;have HC:=hid HC;go_upto_if 125 with (go_at_call 209;(with_reducible refine HC.out.mono ?_);refine halt_ ?_)
   first | rintro e w6 mid al rfl d6 H1 H2 hr hg | rintro e w6 mid al d6 rfl H1 H2 hr hg | rintro e w6 ⟨mid,al,d6,rfl,H1,H2,hr,hg⟩
   obtain ⟨p1,p2,p3,p4,p5,p6,p7,p8,p9,p10⟩:=Q5.out.part (al:=al) HP.out.1 HP.out.2 H1.out H2.out hr hg;have HM:=hid (And.intro p1 p2);have HD6:=hid p3;have HB6:=hid p4;have HR6:=hid p5;have HBL:=hid (And.intro p7 p8);have HT1:=hid p9;have HT2:=hid p10;clear p1 p2 p3 p4 p5 p6 p7 p8 p9 p10 hr hg H1 H2 HC;have HSM:Hid (b'<=1000000/\b'-a'<=n):=by have:=HS.out;have:=HB6.out;have:=HD6.out;have:=HK.out;have:=HK2.out;unfold Hid;omega
   obtain ⟨wl,v1,HWL⟩:=pdq_len HM.out.1 (by have:=HSM.out;have:=HM.out;omega);obtain ⟨wt,v2,HWT⟩:=pdq_len (zD HM.out.2) HSM.out.1;obtain ⟨M1,hm1⟩:∃ M1:Nat,M1=mid+1:=⟨_,rfl⟩;have v3:IntKind.i64.wrap ((mid:Int)+1)=(M1:Int):=by have:=HSM.out;have:=HM.out;rw [IntWalk.i64_in _ (by omega)];omega
   have HM1:=hid hm1;clear hm1;by_cases h4:wl<wt
   · have hd:decide (wl<wt)=true:=decide_eq_true h4;clear h4;have HC:=IH.out g c a' mid l2 d6 w6 HR6.out HM.out.1 (by have:=HM.out;have:=HB6.out;omega) (by have:=HM.out;have:=HSM.out;omega) (by have:=HM.out;have:=H50.out;omega) (by rw [HD6.out];exact HS.out.2.2.1) HL2.out HBL.out.1 HR6.out.lt;rw [HD6.out] at HC;have HC:=hid HC;go_wp2_with (go_at_call 156;(with_reducible refine HC.out.mono ?_);refine halt_ ?_)
     first | rintro e w7 rfl d7 hp hs hr hg | rintro e w7 d7 rfl hp hs hr hg | rintro e w7 ⟨rfl,d7,hp,hs,hr,hg⟩
     have Q7:=hid (HT1.out d7 w7 hp hs hr hg);clear hp hs hr hg HC;go_wp2_with fail
     go_roundg (b'-(mid+1))
     case measure=>have:=HM.out;have:=HK.out;omega
     exact ⟨mid+1,b',l2,_,al,d7,by rw [<- HM1.out],rfl,rfl,rfl,rfl,zA _,by have:=HM.out;have:=HK.out;have:=HK2.out;unfold Hid;omega,HL2,Q7⟩
   have hd:decide (wl<wt)=false:=decide_eq_false h4;clear h4;have HC:=IH.out g c M1 b' l2 d6 w6 HR6.out (by have:=HM.out;have:=HM1.out;omega) HB6.out (by have:=HM.out;have:=HSM.out;have:=HM1.out;omega) (by have:=HM.out;have:=H50.out;have:=HM1.out;omega) (by rw [HD6.out];exact HS.out.2.2.1) HL2.out (by rw [HM1.out];exact HBL.out.2) HR6.out.lt;rw [HD6.out] at HC;have HC:=hid HC;go_wp2_with (go_at_call 156;(with_reducible refine HC.out.mono ?_);refine halt_ ?_)
   first | rintro e w7 rfl d7 hp hs hr hg | rintro e w7 d7 rfl hp hs hr hg | rintro e w7 ⟨rfl,d7,hp,hs,hr,hg⟩
   have Q7:=hid (HT2.out d7 w7 (by rw [<- HM1.out];exact hp) (by rw [<- HM1.out];exact hs) hr hg);clear hp hs hr hg HC;go_wp2_with fail
   go_roundg (mid-a')
   case measure=>have:=HM.out;have:=HK.out;omega
   exact ⟨a',mid,l2,_,al,d7,rfl,rfl,rfl,rfl,rfl,zA _,by have:=HM.out;have:=HK.out;have:=HK2.out;unfold Hid;omega,HL2,Q7⟩
 have HQT:=hid (HQ.out rfl);have HC:=partEqA_any g c a' b' p d2 _ Q5.out.row HP.out.1 HP.out.2 Q5.out.bs (by rw [HD.out];exact HS.out.2.2.1) Q5.out.row.lt;rw [HD.out] at HC;have HC:=hid HC;go_wp2_with (go_at_call 208;(with_reducible refine HC.out.mono ?_);refine halt_ ?_)
 first | rintro e w6 mid rfl d6 HX hr hg | rintro e w6 mid d6 rfl HX hr hg | rintro e w6 ⟨mid,d6,rfl,HX,hr,hg⟩
 obtain ⟨h1,h2,h3⟩:=Q5.out.equal HQT.out.1 HP.out.1 HP.out.2 HQT.out.2 HX.out hr hg;have Q6:=hid h3;have HM:=hid (And.intro h1 h2);clear hr hg h1 h2 h3 HC HX;go_wp2_with fail
 go_roundg (b'-mid)
 case measure=>have:=HM.out;have:=HK.out;omega
 exact ⟨mid,b',l2,wb,wp,d6,rfl,rfl,rfl,rfl,rfl,zA _,by have:=HM.out;have:=HK.out;have:=HK2.out;unfold Hid;omega,HL2,Q6⟩
end
section
open Go.RowKit Go.Shelf Go.Sort
theorem pdqA_all:∀ n,PdqOk n
 | 0=>fun _ _ _ _ _ _ _ _ _ _ hn=>absurd hn (Nat.not_lt_zero _)
 | n+1=>pdqA_step n (pdqA_all n)
theorem bitLen_50 {n:Nat} (h:n<50):∃ k:Nat,k<=1000/\((Lib.bitLen n:Nat):Int)=(k:Int):=by
 have:(List.range 50).all (fun n=>decide (Lib.bitLen n<=1000))=true:=by decide
 rw [List.all_eq_true] at this;exact ⟨_,of_decide_eq_true (this n (List.mem_range.2 h)),rfl⟩
theorem bits_len50 (n:Nat) (w:World) (hn:n<50):Calls Tryz.prog 151 #[.int .u64 (n:Int)] w fun e w'=>(∃ k:Nat,k<=1000/\e= .returned (.int .i64 (k:Int)))/\w=w':=
 (Tryz.bits_Len n w (by omega) (by omega)).mono fun _ _ h=>by
   obtain ⟨k,h1,h2⟩:=bitLen_50 hn;refine ⟨⟨k,h1,?_⟩,h.2.symm⟩;rw [h.1,Int.toNat_natCast];exact congrArg (fun z=>Ending.returned (.int .i64 z)) h2
abbrev SortIP (g:Nat) (xs:List ID) (w:World) (e:Ending) (w':World):Prop:=
 e= .returned (.tuple #[])/\(∃ ys,ys.Perm xs/\SortedI ys/\RowI w' g ys)/\w.grownBy w' (some g)
theorem sortP_I {g:Nat} {xs:List ID} {w w':World} {e:Ending} (h:SortP 0 xs.toArray.size xs.toArray g w e w'):SortIP g xs w e w':=by
 obtain ⟨he,d',⟨p1,_,p3⟩,hs,hr,hg⟩:=h;refine ⟨he,⟨d'.toList,?_,?_,hr⟩,hg⟩
 · rw [<- p1] at p3;rw [Array.extract_size,p1,Array.extract_size] at p3;exact p3
 unfold SortedI;rw [List.pairwise_iff_getElem];intro i j hi hj hij;have hi':i<d'.size:=by simpa using hi
 have hj':j<d'.size:=by simpa using hj
 have h1:=hs i j (Nat.zero_le _) hij (by omega);rw [getElem!_pos d' i hi',getElem!_pos d' j hj'] at h1;rw [Array.getElem_toList,Array.getElem_toList, <- lt_cmpID];exact h1
theorem sortI49_any (g c:Nat) (xs:List ID) (w:World) (h:RowI w g xs) (hn:xs.length<50) (hg:g<w.heap.size):
 Calls Tryz.prog 103 #[.slice (some ⟨g,0,none⟩) xs.length c,vAsc] w (SortIP g xs w):=by
 have HC:Hid (∀ k:Nat,k<=1000->Calls Tryz.prog 156 #[.slice (some ⟨g,0,none⟩) xs.length c,.int .i64 0,.int .i64 xs.length,.int .i64 k,vAsc] w (SortIP g xs w)):=fun k hk=>
  (pdqA_all 50 g c 0 xs.toArray.size k xs.toArray w h (Nat.zero_le _) (zA _) (by simpa using hn) (by simpa using hn) (by simp;omega) hk (.inl rfl) hg).mono fun _ _ h=>sortP_I h
 have HB:=hid (bits_len50 xs.length w hn);clear h hg;go_enter Tryz.func103,Tryz.ntmps103;go_wp2_with (go_at_call 151;(with_reducible refine HB.out.mono ?_);refine halt_ ?_)
 rintro e w1 ⟨⟨k,hk,rfl⟩,rfl⟩;have HK:=hid (HC.out k hk);clear hk HC HB;go_wp2_with (go_at_call 156;(with_reducible refine HK.out.mono ?_);refine halt_ ?_)
 rintro e w2 ⟨rfl,hy,hgr⟩;have HY:=hid hy;have HG:=hid hgr;clear hy hgr;go_wp2_with fail
 go_end0;exact ⟨rfl,HY.out,HG.out⟩
end
end Go.Proofs.YteabgcollokgjaaGreatDoor
