/- Contracts of the walk, part 31. -/
import Derived.Test.YtmiknfneeipkeaaGreatS19
import Derived.Test.YtmiknfneeipkeaaGreatS11
import Derived.Test.YtmiknfneeipkeaaGreatS27
import Derived.Test.YtmiknfneeipkeaaGreatS28
open Go.Lib (hid)
namespace Go.Proofs.YtmiknfneeipkeaaGreat
open Go.RowKit Go.MapKept Go.ChangeMaps Go.Shelf Go.Sort
attribute [local go_sem] wext_cell
set_option maxHeartbeats 4000000 in
theorem rSame_any (x y:Nat) (a b:Man) (A B:Option Addr) (c d:Nat) (w:World) (ha:RdID w x A a.ids) (hb:RdID w y B b.ids) (hla:a.ids.length<=9223372036854775807) (hlb:b.ids.length<=9223372036854775807):
 Calls Tryz.prog 24 #[.agg #[.int .i64 a.size,.slice A a.ids.length c],.agg #[.int .i64 b.size,.slice B b.ids.length d]] w (Gives (.bool (decide (a.size=b.size/\a.ids=b.ids))) w):=by
 have Ha:=hid ha;have Hb:=hid hb;clear ha hb;have S0:=hid (((SW.refl (Sep.nil w (Nat.le_refl _))).newCell 33 #[.int .i64 a.size,.slice A a.ids.length c]).newCellAt 33 #[.int .i64 b.size,.slice B b.ids.length d] (H:=w.heap.size+1) (by simp));have HS:=hid (fun (W:World) (hb:Below w.heap.size w W)=>SameIDs_any _ _ a.ids b.ids A B c d W (Ha.out.on hb) (Hb.out.on hb) hla hlb);have HB0:Hid (Below w.heap.size w _):=S0.out.2;have HS0:=hid (HS.out _ HB0.out);have a0:=(S0.out.cell 1 rfl).cell 0;have a1:=(S0.out.cell 1 rfl).cell 1;have b0:=(S0.out.cell 0 rfl).cell 0;have b1:=(S0.out.cell 0 rfl).cell 1;by_cases h:a.size=b.size
 · have hbe:(a.size==b.size)=true:=by rw [beq_iff_eq];exact h
   have H:=hid h;clear h;go_enter Tryz.func24,Tryz.ntmps24;go_wp2_with (go_at_call 18;(with_reducible refine HS0.out.mono ?_);refine halt_ ?_)
   rintro e w1 ⟨rfl,hb1⟩;have HB:=hid (S0.out.2.trans (hb1.mono S0.out.2.size));clear hb1 S0;go_wp2_with fail
   go_ret;exact gb (decide_eq_decide.2 ⟨fun h=>h.2,fun h=>⟨H.out,h⟩⟩) HB.out
 have hbe:(a.size==b.size)=false:=by rw [beq_eq_false_iff_ne];exact h
 have H:=hid h;clear h;go_enter Tryz.func24,Tryz.ntmps24;go_wp2_with fail
 go_ret;exact gb (by rw [decide_eq_false_iff_not];exact fun h=>H.out h.1) S0.out.2
theorem rWhole_ok (x:Nat) (m:Man) (A:Option Addr) (c:Nat) (w:World) (hr:RdID w x A m.ids) (hn:m.ids.length<=9223372036854775807) (hok:∀ i∈m.ids,okID i) (he:manE m=0):
 Calls Tryz.prog 10 #[.agg #[.int .i64 m.size,.slice A m.ids.length c]] w (Gives (.tuple #[.agg #[.int .u64 (keyM m).1,.int .i64 (keyM m).2],.int .i64 0]) w):=
 (rWhole_any x m A c w hr hn hok).mono (fun e w' ⟨h1,h2⟩=>⟨by rw [h1,if_pos he,he];rfl,h2⟩)
theorem cell_src {W:World} {g:Nat} {x y:Value} (h:IsB W g 33 #[x,y]):∀ (j:Nat) (v:Value),[x,y][j]? =some v->W.cell? ((⟨g,0,none⟩:Addr).add j)=some v:=by
 intro j v hu;match j,hu with
 | 0,hu=>simp at hu;subst hu;simp [Addr.add];exact h.cell 0
 | 1,hu=>simp at hu;subst hu;simp [Addr.add];exact h.cell 1
 | j+2,hu=>simp at hu
section
variable {b:Nat} {w0 w w':World} {l:List Ob}
abbrev SorP (ms:List Man) (b:Nat) (w0:World) (l:List Ob) (e:Ending) (w':World):Prop:=
 (OneM ms/\∃ (Y:List MP) (D:Option Addr) (d:Nat),ConM ms (Y.map (·.2))/\e= .returned (.tuple #[.slice D Y.length d,.bool true])/\SW b w0 (imOb D (Y.map (·.1)) (Y.map (·.2))::l) w')∨
 (¬ OneM ms/\e= .returned (.tuple #[.slice none 0 0,.bool false])/\SW b w0 l w')
set_option maxRecDepth 100000 in
set_option maxHeartbeats 16000000 in
theorem rSorted_any (h:SW b w0 l w) {A:Option Addr} {rs:List MR} {ms:List Man} (hm:imOb A rs ms∈l) (hv:∀ m∈ms,manE m=0) (hn:ms.length<=1000000) (hok:∀ m∈ms,∀ i∈m.ids,okID i) (c:Nat):
 Calls Tryz.prog 46 #[.slice A ms.length c] w (SorP ms b w0 l):=by
 have HM:=hid hm;have HV:=hid hv;have HOK:=hid hok;have S0:=hid (h.newRow 33 2);clear h hm hv hok;obtain ⟨i1,gi,gz0,gz1,gz2⟩:=info_parts info33;go_enter Tryz.func46,Tryz.ntmps46;go_wp2_with fail
 go_loopw [4,5] (fun s4 s5 wr=>∃ (k:Nat) (Y:List MP) (B:Option Addr) (bc:Nat),k<=ms.length/\s5= .int .i64 (k:Int)/\s4= .slice B Y.length bc/\Hid ((ConM (ms.take k) (Y.map (·.2))/\OneM (ms.take k))/\(∀ p∈Y,∃ j,j<ms.length/\p=(rs.getD j mr0,ms.getD j man0))/\(Y=[]->B=none))/\SW b w0 (rowOb 33 2 (.slice B Y.length bc) Y.length ((Y.map (·.1)).flatMap encMR)::l) wr) (fun _ s5 _=>ms.length-(intOf s5).toNat)
 case atStart=>exact ⟨0,[],none,0,Nat.zero_le _,rfl,rfl,⟨⟨conM_nil,oneM_nil⟩,(fun p hp=>by cases hp),fun _=>rfl⟩,S0.out⟩
 obtain ⟨k,Y,B,bc,hk,rfl,rfl,HY,hs⟩:=hrel;have S1:=hid hs;clear hs S0
 have hYn:Y.length<=ms.length:=by
  have h1:=conM_len HY.out.1.1;rw [List.length_map,List.length_take] at h1;omega
 by_cases hlt:k<ms.length
 · obtain ⟨⟨z,rA,rn,rc⟩,HR⟩:∃ r,Hid (rs.getD k mr0=r):=⟨_,rfl⟩;obtain ⟨m,HMK⟩:∃ m,Hid (ms.getD k man0=m):=⟨_,rfl⟩;have HTK:Hid (ms.take (k+1)=ms.take k++[m]):=by rw [Hid,take_snoc _ man0 _ hlt,HMK.out]
   have hmem:m∈ms:=by rw [<- HMK.out];exact getD_mem _ _ _ hlt
   have HMEM:=hid hmem;have hM:=S1.out.1.holds (imOb A rs ms) (.tail _ HM.out);obtain ⟨gA,o,rfl,hgA,_,hcA⟩:=hM.1 (by rw [hM.2.1];omega);have hlk:=hM.2.2 k hlt;rw [HR.out,HMK.out] at hlk;obtain ⟨l1,l2,l3,l4⟩:=hlk;simp only at l1 l2 l3 l4;subst l1 l2
   have HCA:Hid (∀ W:World,(imOb (some ⟨gA,o,none⟩) rs ms).holds W->gA<W.heap.size/\W.cell? ⟨gA,o+k*2,none⟩=some (.int .i64 m.size)/\W.cell? ⟨gA,o+k*2+1,none⟩=some (.slice rA m.ids.length rc)):=fun W hW=>by
    obtain ⟨g,o',e,hg,_,hc⟩:=hW.1 (by rw [hW.2.1];omega);injection e with e;injection e with e1 e2 _;subst e1 e2;exact ⟨hg,hc k (by rw [hW.2.1];exact hlt) 0 _ (by rw [HR.out];rfl),hc k (by rw [hW.2.1];exact hlt) 1 _ (by rw [HR.out];rfl)⟩
   have HLM:Hid (∀ W:World,(imOb (some ⟨gA,o,none⟩) rs ms).holds W->RdID W W.heap.size rA m.ids):=fun W hW=>by
    have h:=hW.2.2 k hlt;rw [HR.out,HMK.out] at h;exact h.2.2.2
   obtain ⟨c2,c0,c1⟩:=HCA.out _ hM;have hil:m.ids.length<=9223372036854775807:=by have:=manE_len (HV.out m hmem);omega
   have HWH:=hid (rWhole_ok _ m rA rc wr l4 hil (HOK.out m hmem) (HV.out m hmem));obtain ⟨k1,k2,HKM⟩:∃ a b,Hid (keyM m=(a,b)):=⟨_,_,rfl⟩;rw [HKM.out] at HWH;clear hM hcA l3 l4 hmem;go_wp2_with (go_at_call 10;(with_reducible refine HWH.out.mono ?_);refine halt_ ?_)
   rintro e w2 ⟨rfl,hb2⟩;have S2:=hid ((S1.out.on hb2).newCell 36 #[.int .u64 k1,.int .i64 k2]);clear hb2 S1 c0 c1 c2 HWH hgA;go_upto_region 6 with fail
   obtain ⟨w3,HW⟩:∃ W,Hid (w2.alloc (.cells #[.int .u64 k1,.int .i64 k2] 36)=W):=⟨_,rfl⟩;obtain ⟨gX,HGX⟩:∃ x,Hid (w2.heap.size=x):=⟨_,rfl⟩;rw [HW.out,HGX.out] at S2 |-; clear HW HGX;go_wp2_with fail
   go_loopw [8,9] (fun s8 s9 wq=>∃ (j:Nat),j<=Y.length/\s8= .int .i64 (j:Int)/\s9= .bool false/\Hid (∀ i,i<j->ltID (keyM ((Y.map (·.2)).getD i man0)) (keyM m)=true)/\SW b w0 (cellOb gX 36 #[.int .u64 k1,.int .i64 k2]::rowOb 33 2 (.slice B Y.length bc) Y.length ((Y.map (·.1)).flatMap encMR)::l) wq) (fun s8 _ _=>Y.length-(intOf s8).toNat)
   case atStart=>exact ⟨0,Nat.zero_le _,rfl,rfl,(fun i hi=>absurd hi (Nat.not_lt_zero _)),S2.out⟩
   obtain ⟨j,hj,rfl,rfl,HLO,hs⟩:=hrel;have S3:=hid hs;clear hs S2;by_cases hjl:j<Y.length
   · obtain ⟨⟨⟨z2,sA,sn,sc⟩,m'⟩,hpj⟩:∃ p,Y.getD j (mr0,man0)=p:=⟨_,rfl⟩;have hpm:(((⟨z2,sA,sn,sc⟩:MR),m'):MP)∈Y:=by rw [<- hpj];exact getD_mem _ _ _ hjl
     have e1:(Y.map (·.1)).getD j mr0=⟨z2,sA,sn,sc⟩:=by
      have:(Y.map (·.1)).getD j mr0=(Y.getD j (mr0,man0)).1:=by simp [List.getD_eq_getElem?_getD,List.getElem?_eq_getElem hjl]
      rw [this,hpj]
     have HE2:Hid ((Y.map (·.2)).getD j man0=m'):=by
      have:(Y.map (·.2)).getD j man0=(Y.getD j (mr0,man0)).2:=by simp [List.getD_eq_getElem?_getD,List.getElem?_eq_getElem hjl]
      rw [Hid,this,hpj]
     obtain ⟨jj,hjj,epj⟩:=HY.out.2.1 _ hpm;injection epj with ep1 ep2;have hmem':m'∈ms:=by rw [ep2];exact getD_mem _ _ _ hjj
     have HPM2:Hid (m'∈Y.map (·.2)):=List.mem_map.2 ⟨_,hpm,rfl⟩;have hM:=S3.out.1.holds (imOb _ rs ms) (.tail _ (.tail _ HM.out));have hlk:=hM.2.2 jj hjj;rw [<- ep1, <- ep2] at hlk;obtain ⟨l1,l2,l3,l4⟩:=hlk;simp only at l1 l2 l3 l4;subst l1 l2
     have HLM2:Hid (∀ W:World,(imOb (some ⟨gA,o,none⟩) rs ms).holds W->RdID W W.heap.size sA m'.ids):=fun W hW=>by
      have h:=hW.2.2 jj hjj;rw [<- ep1, <- ep2] at h;exact h.2.2.2
     obtain ⟨gB,cB,e7⟩:=own_some (S3.out.get 1 rfl) (by omega);injection e7 with e7 e8 e9;clear e8 e9;subst e7
     have HCB:Hid (∀ W:World,W.ownsRow 0 33 2 (.slice (some ⟨gB,0,none⟩) Y.length bc) Y.length ((Y.map (·.1)).flatMap encMR)->gB<W.heap.size/\W.cell? ⟨gB,j*2,none⟩=some (.int .i64 m'.size)/\W.cell? ⟨gB,j*2+1,none⟩=some (.slice sA m'.ids.length sc)):=fun W hrow=>by
      have cellB:∀ a v,a<2->(encMR (⟨m'.size,sA,m'.ids.length,sc⟩:MR))[a]? =some v->W.cell? ⟨gB,j*2+a,none⟩=some v:=fun a v ha hv=>by
       rw [hrow.cellAt (j*2+a) (by omega),flat_at encMR_len mr0 _ j a (by rw [List.length_map];omega) ha,e1];exact hv
      exact ⟨(hrow.lt gB rfl).2,cellB 0 _ (by omega) rfl,cellB 1 _ (by omega) rfl⟩
     obtain ⟨p2,p0,p1⟩:=HCB.out _ (S3.out.get 1 rfl);have hil':m'.ids.length<=9223372036854775807:=by have:=manE_len (HV.out m' hmem');omega
     have HWH2:=hid (rWhole_ok _ m' sA sc wr l4 hil' (HOK.out m' hmem') (HV.out m' hmem'));obtain ⟨a1,a2,HKA⟩:∃ a b,Hid (keyM m'=(a,b)):=⟨_,_,rfl⟩;rw [HKA.out] at HWH2;have HMEM2:=hid hmem';clear hM e1 ep1 ep2 l3 l4 hmem' hpj hpm hjj;go_wp2_with (go_at_call 10;(with_reducible refine HWH2.out.mono ?_);refine halt_ ?_)
     rintro e w4 ⟨rfl,hb4⟩;have S4:=hid ((S3.out.on hb4).newCell 36 #[.int .u64 a1,.int .i64 a2]);clear hb4 S3 p0 p1 p2 HWH2;go_upto_region 9 with fail
     obtain ⟨w5,HW⟩:∃ W,Hid (w4.alloc (.cells #[.int .u64 a1,.int .i64 a2] 36)=W):=⟨_,rfl⟩;obtain ⟨gZ,HGZ⟩:∃ x,Hid (w4.heap.size=x):=⟨_,rfl⟩;rw [HW.out,HGZ.out] at S4 |-; clear HW HGZ;have x0:=(S4.out.cell 0 rfl).cell 0;have x1:=(S4.out.cell 0 rfl).cell 1;have y0:=(S4.out.cell 1 rfl).cell 0;have y1:=(S4.out.cell 1 rfl).cell 1;by_cases hkk:(a1,a2)=(k1,k2)
     · injection hkk with h1 h2;have h1:=h1.symm;subst h1;have h2:=h2.symm;subst h2;have HKK:Hid (keyM m'=keyM m):=HKA.out.trans HKM.out.symm;go_upto_region 11 with fail
       clear x0 x1 y0 y1;obtain ⟨hgA,c0,c1⟩:=HCA.out _ (S4.out.1.holds (imOb _ rs ms) (.tail _ (.tail _ (.tail _ HM.out))));obtain ⟨hgB,p0,p1⟩:=HCB.out _ (S4.out.get 2 rfl);obtain ⟨v,hv⟩:∃ v,decide (m'.size=m.size/\m'.ids=m.ids)=v:=⟨_,rfl⟩;have HSM:=hid (fun (W:World) (hb:Below w5.heap.size w5 W)=>rSame_any _ _ m' m sA rA sc rc W ((HLM2.out _ (S4.out.1.holds (imOb _ rs ms) (.tail _ (.tail _ (.tail _ HM.out))))).on hb) ((HLM.out _ (S4.out.1.holds (imOb _ rs ms) (.tail _ (.tail _ (.tail _ HM.out))))).on hb) hil' hil);rw [hv] at HSM;refine wp_region_ext (by kernel_rfl) (by kernel_rfl) ?_;repeat (go_big_quiet_step ((go_at_call 24;exact ext_call (HSM.out _ (wext_below _)))))
       refine wpQuiet_nil ?_;intro w6 hb6;have S6:=hid (S4.out.on hb6);clear hb6 S4 c0 c1 p0 p1 HSM hgA hgB;cases v with
       | true=>
        have HMM:Hid (m∈Y.map (·.2)):=by
         have h1:=of_decide_eq_true hv
         have:m'=m:=by
          obtain ⟨s1,d1⟩:=m';obtain ⟨s2,d2⟩:=m;simp only at h1;rw [h1.1,h1.2]
         rw [Hid, <- this];exact HPM2.out
        have HLS:=hid (Less_any k1 k2 k1 k2 w6);rw [ltID_irr] at HLS;have x0:=(S6.out.cell 0 rfl).cell 0;have x1:=(S6.out.cell 0 rfl).cell 1;have y0:=(S6.out.cell 1 rfl).cell 0;have y1:=(S6.out.cell 1 rfl).cell 1;clear hv;go_wp2_with (go_at_call 71;(with_reducible refine HLS.out.mono ?_);refine halt_ ?_)
        rintro e w7 ⟨rfl,hb7⟩;have S7:=hid ((S6.out.on hb7).tail.tail);clear hb7 S6 x0 x1 y0 y1 HLS;have HCO:=hid (conM_same HY.out.1.1 HY.out.1.2 HMM.out);go_wp2_with fail
        go_roundw
        case rel=>exact ⟨k+1,Y,some ⟨gB,0,none⟩,bc,by omega,by go_num,rfl,⟨by rw [HTK.out];exact HCO.out,HY.out.2.1,HY.out.2.2⟩,S7.out⟩
        simp [intOf];omega
       | false=>
        have HNO:=hid (not_one HMEM2.out HMEM.out (HV.out _ HMEM2.out) (HV.out _ HMEM.out) HKK.out (of_decide_eq_false hv));clear hv;go_wp2_with fail
        go_ret2;exact .inr ⟨HNO.out,rfl,S6.out.tail.tail.tail⟩
     have HNK2:Hid (a1=k1->(a2==k2)=false):=fun e=>by rw [beq_eq_false_iff_ne];exact fun e2=>hkk (by rw [e,e2])
     have HNK3:Hid ((a1,a2)≠(k1,k2)):=hkk;clear hkk;by_cases h1:(a1==k1)=true
     · have hne:=HNK2.out (by rw [beq_iff_eq] at h1;exact h1);have HLS:=hid (Less_any a1 a2 k1 k2 w5);obtain ⟨v,hv⟩:∃ v,ltID (a1,a2) (k1,k2)=v:=⟨_,rfl⟩;rw [hv] at HLS;have HVL:=hid hv;clear hv;go_wp2_with (go_at_call 71;(with_reducible refine HLS.out.mono ?_);refine halt_ ?_)
       rintro e w7 ⟨rfl,hb7⟩;have S7:=hid (S4.out.on hb7);clear hb7 S4 x0 x1 y0 y1 HLS;cases v with
       | true=>
        have HLO2:Hid (∀ i,i<j+1->ltID (keyM ((Y.map (·.2)).getD i man0)) (keyM m)=true):=fun i hi=>by
         rcases Nat.lt_or_ge i j with h | h
         · exact HLO.out i h
         obtain rfl:i=j:=by omega
         rw [HE2.out,HKA.out,HKM.out];exact HVL.out
        go_wp2_with fail
        go_roundw
        case rel=>exact ⟨j+1,by omega,by go_num,rfl,HLO2.out,S7.out.tail⟩
        simp [intOf];omega
       | false=>
        have HHI:Hid (j<Y.length->ltID (keyM m) (keyM ((Y.map (·.2)).getD j man0))=true):=fun _=>by
         rw [HE2.out,HKM.out,HKA.out];exact ltI_tri HVL.out HNK3.out
        have SX:=hid S7.out.tail.tail;clear S7;obtain ⟨wS,HWS⟩:∃ W,Hid (w7=W):=⟨_,rfl⟩;rw [HWS.out] at SX |-; clear HWS
        have hbc:Y.length<=bc:=by
         rcases (SX.out.get 0 rfl:wS.ownsRow 0 33 2 (.slice (some ⟨gB,0,none⟩) Y.length bc) Y.length ((Y.map (·.1)).flatMap encMR)).2 with ⟨hv,h0⟩ | ⟨g,cap,cur,hv,_,_,hnc,_⟩
         · cases hv
         injection hv with e1 e2 e3;omega
        have HTL:Hid ((((Y.map (·.1)).take j).flatMap encMR).length=j*2):=by rw [Hid,flat_len encMR_len,List.length_take,List.length_map];congr 1;omega
        have HTD:Hid ((((Y.map (·.1)).drop j).flatMap encMR).length=(Y.length-j)*2):=by rw [Hid,flat_len encMR_len,List.length_drop,List.length_map]
        have HST:Hid (∀ W:World,W.ownsRow 0 33 2 (.slice (some ⟨gB,0,none⟩) Y.length bc) Y.length ((Y.map (·.1)).flatMap encMR)->∀ (a:Nat) (u:Value),(((Y.map (·.1)).take j).flatMap encMR)[a]? =some u->W.cell? ((⟨gB,0,none⟩:Addr).add a)=some u):=fun W h=>by
         have:=row_part encMR_len h 0 j (by omega);rw [List.drop_zero,Nat.zero_mul] at this;exact this
        have HSD:Hid (∀ W:World,W.ownsRow 0 33 2 (.slice (some ⟨gB,0,none⟩) Y.length bc) Y.length ((Y.map (·.1)).flatMap encMR)->∀ (a:Nat) (u:Value),(((Y.map (·.1)).drop j).flatMap encMR)[a]? =some u->W.cell? ((⟨gB,j*2,none⟩:Addr).add a)=some u):=fun W h=>by
         have:=row_part encMR_len h j (Y.length-j) (by omega);rw [List.take_of_length_le (by rw [List.length_drop,List.length_map];omega)] at this;exact this
        obtain ⟨i0,i2,i3⟩:=HCA.out _ (SX.out.1.holds (imOb _ rs ms) (.tail _ HM.out));have hjb:j<=bc:=by omega
        have hcl:j<bc:=by omega
        have hcn:¬ bc=j:=by omega
        go_wp2_with fail
        go_region_law ((try simp only [Act.put,List.getElem_toArray,List.getElem_cons_succ,List.getElem_cons_zero,List.setIfInBounds_toArray,List.set]);first
         | (refine step_rowA (t:=27) (e:=33) (size:=2) (bytes:=32) (i:=i1) (SX.out.drew.newRow 33 2) 0 rfl (by rfl) (.const (.slice none 0 0)) (.tmp 61) (by rfl) Tryz.underlying27 gi gz0 gz1 gz2 rfl (by omega) (by rfl) (some ⟨gB,0,none⟩) j bc (((Y.map (·.1)).take j).flatMap encMR) (by rfl) HTL.out (fun _=>⟨_,rfl,HST.out _ (SX.out.drew.get 0 rfl)⟩) (encMR_all _) (by unfold maxLen;omega) (by omega) ?_;intro v2 w2 s2;have S2a:Hid (SW b w0 (rowOb 33 2 v2 (0+j) ([]++(((Y.map (·.1)).take j).flatMap encMR))::rowOb 33 2 (.slice (some ⟨gB,0,none⟩) Y.length bc) Y.length ((Y.map (·.1)).flatMap encMR)::l) w2):=s2;clear s2;have HIM2:=hid (HCA.out _ (S2a.out.1.holds (imOb _ rs ms) (.tail _ (.tail _ HM.out))));have i0:=HIM2.out.1;have i2:=HIM2.out.2.1;have i3:=HIM2.out.2.2)
         | (refine step_rowA (t:=27) (e:=33) (size:=2) (bytes:=32) (i:=i1) ((SX.out.newCell 33 #[.int .i64 m.size,.slice rA m.ids.length rc]).drew.newRow 33 2) 0 rfl (by rfl) (.const (.slice none 0 0)) (.tmp 61) (by rfl) Tryz.underlying27 gi gz0 gz1 gz2 rfl (by omega) (by rfl) (some ⟨gB,0,none⟩) j bc (((Y.map (·.1)).take j).flatMap encMR) (by rfl) HTL.out (fun _=>⟨_,rfl,HST.out _ ((SX.out.newCell 33 #[.int .i64 m.size,.slice rA m.ids.length rc]).drew.get 1 rfl)⟩) (encMR_all _) (by unfold maxLen;omega) (by omega) ?_;intro v2 w2 s2;have S2b:Hid (SW b w0 (rowOb 33 2 v2 (0+j) ([]++(((Y.map (·.1)).take j).flatMap encMR))::cellOb wS.heap.size 33 #[.int .i64 m.size,.slice rA m.ids.length rc]::rowOb 33 2 (.slice (some ⟨gB,0,none⟩) Y.length bc) Y.length ((Y.map (·.1)).flatMap encMR)::l) w2):=s2;clear s2)
         | (refine step_rowA (t:=27) (e:=33) (size:=2) (bytes:=32) (i:=i1) (S2a.out.newCell 33 #[.int .i64 m.size,.slice rA m.ids.length rc]) 1 rfl (by rfl) (.tmp 62) (.tmp 67) (by rfl) Tryz.underlying27 gi gz0 gz1 gz2 rfl (by omega) (by rfl) (some ⟨w2.heap.size,0,none⟩) 1 1 [.int .i64 m.size,.slice rA m.ids.length rc] (by rfl) rfl (fun _=>⟨_,rfl,two_new _ _ _ _ _ rfl⟩) (encMR_one (⟨m.size,rA,m.ids.length,rc⟩:MR)) (by unfold maxLen;omega) (by omega) ?_;intro v3 w3 s3;have S3:Hid (SW b w0 (rowOb 33 2 v3 (0+j+1) ([]++(((Y.map (·.1)).take j).flatMap encMR)++[.int .i64 m.size,.slice rA m.ids.length rc])::rowOb 33 2 (.slice (some ⟨gB,0,none⟩) Y.length bc) Y.length ((Y.map (·.1)).flatMap encMR)::l) w3):=s3.tail;clear s3)
         | (refine step_rowA (t:=27) (e:=33) (size:=2) (bytes:=32) (i:=i1) S2b.out 0 rfl (by rfl) (.tmp 62) (.tmp 67) (by rfl) Tryz.underlying27 gi gz0 gz1 gz2 rfl (by omega) (by rfl) (some ⟨wS.heap.size,0,none⟩) 1 1 [.int .i64 m.size,.slice rA m.ids.length rc] (by rfl) rfl (fun _=>⟨_,rfl,cell_src (S2b.out.cell 1 rfl)⟩) (encMR_one (⟨m.size,rA,m.ids.length,rc⟩:MR)) (by unfold maxLen;omega) (by omega) ?_;intro v3 w3 s3;have S3:Hid (SW b w0 (rowOb 33 2 v3 (0+j+1) ([]++(((Y.map (·.1)).take j).flatMap encMR)++[.int .i64 m.size,.slice rA m.ids.length rc])::rowOb 33 2 (.slice (some ⟨gB,0,none⟩) Y.length bc) Y.length ((Y.map (·.1)).flatMap encMR)::l) w3):=SW.sub s3 (.cons_cons _ (.cons _ (List.Sublist.refl _)));clear s3)
         | (refine step_rowA (t:=27) (e:=33) (size:=2) (bytes:=32) (i:=i1) S3.out 0 rfl (by rfl) (.tmp 68) (.tmp 71) (by rfl) Tryz.underlying27 gi gz0 gz1 gz2 rfl (by omega) (by rfl) (some ⟨gB,j*2,none⟩) (Y.length-j) (bc-j) (((Y.map (·.1)).drop j).flatMap encMR) (by rfl) HTD.out (fun _=>⟨_,rfl,HSD.out _ (S3.out.get 1 rfl)⟩) (encMR_all _) (by unfold maxLen;omega) (by omega) ?_;intro v4 w4 s4;have S4:=hid s4;clear s4))
        all_goals (
         obtain ⟨Y',HY'⟩:∃ y,Hid (Y.take j++(((⟨m.size,rA,m.ids.length,rc⟩:MR),m):MP)::Y.drop j=y):=⟨_,rfl⟩;have HLEN:Hid (0+j+1+(Y.length-j)=Y'.length):=by rw [Hid, <- HY'.out,List.length_append,List.length_cons,List.length_take,List.length_drop];omega
         have HENC:Hid ([]++(((Y.map (·.1)).take j).flatMap encMR)++[.int .i64 m.size,.slice rA m.ids.length rc]++(((Y.map (·.1)).drop j).flatMap encMR)=(Y'.map (·.1)).flatMap encMR):=by rw [Hid, <- HY'.out];simp [List.map_append,List.flatMap_append,encMR, <- List.map_take, <- List.map_drop]
         obtain ⟨A4,c4,rfl⟩:=own_slice (S4.out.get 0 rfl);rw [HLEN.out,HENC.out] at S4;have S5:Hid (SW b w0 (rowOb 33 2 (.slice A4 Y'.length c4) Y'.length ((Y'.map (·.1)).flatMap encMR)::l) w4):=SW.sub S4.out (.cons_cons _ (.cons _ (List.Sublist.refl _)))
         have HCO:Hid ((ConM (ms.take (k+1)) (Y'.map (·.2))/\OneM (ms.take (k+1)))/\(∀ p∈Y',∃ j,j<ms.length/\p=(rs.getD j mr0,ms.getD j man0))/\(Y'=[]->A4=none)):=by
          refine ⟨?_,fun p hp=>?_,fun e=>?_⟩
          · have:=conM_ins HY.out.1.1 HY.out.1.2 HLO.out (fun h=>HHI.out (by rwa [List.length_map] at h));rw [HTK.out, <- HY'.out,List.map_append,List.map_cons,List.map_take,List.map_drop];exact this
          · rw [<- HY'.out] at hp;rcases List.mem_append.1 hp with hp | hp
            · exact HY.out.2.1 p (List.mem_of_mem_take hp)
            rcases List.mem_cons.1 hp with rfl | hp
            · exact ⟨k,hlt,by rw [HR.out,HMK.out]⟩
            exact HY.out.2.1 p (List.mem_of_mem_drop hp)
          rw [<- HY'.out] at e;simp at e
         clear S4;rw [HLEN.out];go_wp2_with fail
         go_roundw
         case rel=>exact ⟨k+1,Y',A4,c4,by omega,by go_num,rfl,HCO.out,S5.out⟩
         simp [intOf];omega)
     have hne:(a1==k1)=false:=by simpa using h1
     clear h1;have HLS:=hid (Less_any a1 a2 k1 k2 w5);obtain ⟨v,hv⟩:∃ v,ltID (a1,a2) (k1,k2)=v:=⟨_,rfl⟩;rw [hv] at HLS;have HVL:=hid hv;clear hv;go_wp2_with (go_at_call 71;(with_reducible refine HLS.out.mono ?_);refine halt_ ?_)
     rintro e w7 ⟨rfl,hb7⟩;have S7:=hid (S4.out.on hb7);clear hb7 S4 x0 x1 y0 y1 HLS;cases v with
     | true=>
      have HLO2:Hid (∀ i,i<j+1->ltID (keyM ((Y.map (·.2)).getD i man0)) (keyM m)=true):=fun i hi=>by
       rcases Nat.lt_or_ge i j with h | h
       · exact HLO.out i h
       obtain rfl:i=j:=by omega
       rw [HE2.out,HKA.out,HKM.out];exact HVL.out
      go_wp2_with fail
      go_roundw
      case rel=>exact ⟨j+1,by omega,by go_num,rfl,HLO2.out,S7.out.tail⟩
      simp [intOf];omega
     | false=>
      have HHI:Hid (j<Y.length->ltID (keyM m) (keyM ((Y.map (·.2)).getD j man0))=true):=fun _=>by
       rw [HE2.out,HKM.out,HKA.out];exact ltI_tri HVL.out HNK3.out
      have SX:=hid S7.out.tail.tail;clear S7;obtain ⟨wS,HWS⟩:∃ W,Hid (w7=W):=⟨_,rfl⟩;rw [HWS.out] at SX |-; clear HWS
      have hbc:Y.length<=bc:=by
       rcases (SX.out.get 0 rfl:wS.ownsRow 0 33 2 (.slice (some ⟨gB,0,none⟩) Y.length bc) Y.length ((Y.map (·.1)).flatMap encMR)).2 with ⟨hv,h0⟩ | ⟨g,cap,cur,hv,_,_,hnc,_⟩
       · cases hv
       injection hv with e1 e2 e3;omega
      have HTL:Hid ((((Y.map (·.1)).take j).flatMap encMR).length=j*2):=by rw [Hid,flat_len encMR_len,List.length_take,List.length_map];congr 1;omega
      have HTD:Hid ((((Y.map (·.1)).drop j).flatMap encMR).length=(Y.length-j)*2):=by rw [Hid,flat_len encMR_len,List.length_drop,List.length_map]
      have HST:Hid (∀ W:World,W.ownsRow 0 33 2 (.slice (some ⟨gB,0,none⟩) Y.length bc) Y.length ((Y.map (·.1)).flatMap encMR)->∀ (a:Nat) (u:Value),(((Y.map (·.1)).take j).flatMap encMR)[a]? =some u->W.cell? ((⟨gB,0,none⟩:Addr).add a)=some u):=fun W h=>by
       have:=row_part encMR_len h 0 j (by omega);rw [List.drop_zero,Nat.zero_mul] at this;exact this
      have HSD:Hid (∀ W:World,W.ownsRow 0 33 2 (.slice (some ⟨gB,0,none⟩) Y.length bc) Y.length ((Y.map (·.1)).flatMap encMR)->∀ (a:Nat) (u:Value),(((Y.map (·.1)).drop j).flatMap encMR)[a]? =some u->W.cell? ((⟨gB,j*2,none⟩:Addr).add a)=some u):=fun W h=>by
       have:=row_part encMR_len h j (Y.length-j) (by omega);rw [List.take_of_length_le (by rw [List.length_drop,List.length_map];omega)] at this;exact this
      obtain ⟨i0,i2,i3⟩:=HCA.out _ (SX.out.1.holds (imOb _ rs ms) (.tail _ HM.out));have hjb:j<=bc:=by omega
      have hcl:j<bc:=by omega
      have hcn:¬ bc=j:=by omega
      go_wp2_with fail
      go_region_law ((try simp only [Act.put,List.getElem_toArray,List.getElem_cons_succ,List.getElem_cons_zero,List.setIfInBounds_toArray,List.set]);first
       | (refine step_rowA (t:=27) (e:=33) (size:=2) (bytes:=32) (i:=i1) (SX.out.drew.newRow 33 2) 0 rfl (by rfl) (.const (.slice none 0 0)) (.tmp 61) (by rfl) Tryz.underlying27 gi gz0 gz1 gz2 rfl (by omega) (by rfl) (some ⟨gB,0,none⟩) j bc (((Y.map (·.1)).take j).flatMap encMR) (by rfl) HTL.out (fun _=>⟨_,rfl,HST.out _ (SX.out.drew.get 0 rfl)⟩) (encMR_all _) (by unfold maxLen;omega) (by omega) ?_;intro v2 w2 s2;have S2a:Hid (SW b w0 (rowOb 33 2 v2 (0+j) ([]++(((Y.map (·.1)).take j).flatMap encMR))::rowOb 33 2 (.slice (some ⟨gB,0,none⟩) Y.length bc) Y.length ((Y.map (·.1)).flatMap encMR)::l) w2):=s2;clear s2;have HIM2:=hid (HCA.out _ (S2a.out.1.holds (imOb _ rs ms) (.tail _ (.tail _ HM.out))));have i0:=HIM2.out.1;have i2:=HIM2.out.2.1;have i3:=HIM2.out.2.2)
       | (refine step_rowA (t:=27) (e:=33) (size:=2) (bytes:=32) (i:=i1) ((SX.out.newCell 33 #[.int .i64 m.size,.slice rA m.ids.length rc]).drew.newRow 33 2) 0 rfl (by rfl) (.const (.slice none 0 0)) (.tmp 61) (by rfl) Tryz.underlying27 gi gz0 gz1 gz2 rfl (by omega) (by rfl) (some ⟨gB,0,none⟩) j bc (((Y.map (·.1)).take j).flatMap encMR) (by rfl) HTL.out (fun _=>⟨_,rfl,HST.out _ ((SX.out.newCell 33 #[.int .i64 m.size,.slice rA m.ids.length rc]).drew.get 1 rfl)⟩) (encMR_all _) (by unfold maxLen;omega) (by omega) ?_;intro v2 w2 s2;have S2b:Hid (SW b w0 (rowOb 33 2 v2 (0+j) ([]++(((Y.map (·.1)).take j).flatMap encMR))::cellOb wS.heap.size 33 #[.int .i64 m.size,.slice rA m.ids.length rc]::rowOb 33 2 (.slice (some ⟨gB,0,none⟩) Y.length bc) Y.length ((Y.map (·.1)).flatMap encMR)::l) w2):=s2;clear s2)
       | (refine step_rowA (t:=27) (e:=33) (size:=2) (bytes:=32) (i:=i1) (S2a.out.newCell 33 #[.int .i64 m.size,.slice rA m.ids.length rc]) 1 rfl (by rfl) (.tmp 62) (.tmp 67) (by rfl) Tryz.underlying27 gi gz0 gz1 gz2 rfl (by omega) (by rfl) (some ⟨w2.heap.size,0,none⟩) 1 1 [.int .i64 m.size,.slice rA m.ids.length rc] (by rfl) rfl (fun _=>⟨_,rfl,two_new _ _ _ _ _ rfl⟩) (encMR_one (⟨m.size,rA,m.ids.length,rc⟩:MR)) (by unfold maxLen;omega) (by omega) ?_;intro v3 w3 s3;have S3:Hid (SW b w0 (rowOb 33 2 v3 (0+j+1) ([]++(((Y.map (·.1)).take j).flatMap encMR)++[.int .i64 m.size,.slice rA m.ids.length rc])::rowOb 33 2 (.slice (some ⟨gB,0,none⟩) Y.length bc) Y.length ((Y.map (·.1)).flatMap encMR)::l) w3):=s3.tail;clear s3)
       | (refine step_rowA (t:=27) (e:=33) (size:=2) (bytes:=32) (i:=i1) S2b.out 0 rfl (by rfl) (.tmp 62) (.tmp 67) (by rfl) Tryz.underlying27 gi gz0 gz1 gz2 rfl (by omega) (by rfl) (some ⟨wS.heap.size,0,none⟩) 1 1 [.int .i64 m.size,.slice rA m.ids.length rc] (by rfl) rfl (fun _=>⟨_,rfl,cell_src (S2b.out.cell 1 rfl)⟩) (encMR_one (⟨m.size,rA,m.ids.length,rc⟩:MR)) (by unfold maxLen;omega) (by omega) ?_;intro v3 w3 s3;have S3:Hid (SW b w0 (rowOb 33 2 v3 (0+j+1) ([]++(((Y.map (·.1)).take j).flatMap encMR)++[.int .i64 m.size,.slice rA m.ids.length rc])::rowOb 33 2 (.slice (some ⟨gB,0,none⟩) Y.length bc) Y.length ((Y.map (·.1)).flatMap encMR)::l) w3):=SW.sub s3 (.cons_cons _ (.cons _ (List.Sublist.refl _)));clear s3)
       | (refine step_rowA (t:=27) (e:=33) (size:=2) (bytes:=32) (i:=i1) S3.out 0 rfl (by rfl) (.tmp 68) (.tmp 71) (by rfl) Tryz.underlying27 gi gz0 gz1 gz2 rfl (by omega) (by rfl) (some ⟨gB,j*2,none⟩) (Y.length-j) (bc-j) (((Y.map (·.1)).drop j).flatMap encMR) (by rfl) HTD.out (fun _=>⟨_,rfl,HSD.out _ (S3.out.get 1 rfl)⟩) (encMR_all _) (by unfold maxLen;omega) (by omega) ?_;intro v4 w4 s4;have S4:=hid s4;clear s4))
      all_goals (
       obtain ⟨Y',HY'⟩:∃ y,Hid (Y.take j++(((⟨m.size,rA,m.ids.length,rc⟩:MR),m):MP)::Y.drop j=y):=⟨_,rfl⟩;have HLEN:Hid (0+j+1+(Y.length-j)=Y'.length):=by rw [Hid, <- HY'.out,List.length_append,List.length_cons,List.length_take,List.length_drop];omega
       have HENC:Hid ([]++(((Y.map (·.1)).take j).flatMap encMR)++[.int .i64 m.size,.slice rA m.ids.length rc]++(((Y.map (·.1)).drop j).flatMap encMR)=(Y'.map (·.1)).flatMap encMR):=by rw [Hid, <- HY'.out];simp [List.map_append,List.flatMap_append,encMR, <- List.map_take, <- List.map_drop]
       obtain ⟨A4,c4,rfl⟩:=own_slice (S4.out.get 0 rfl);rw [HLEN.out,HENC.out] at S4;have S5:Hid (SW b w0 (rowOb 33 2 (.slice A4 Y'.length c4) Y'.length ((Y'.map (·.1)).flatMap encMR)::l) w4):=SW.sub S4.out (.cons_cons _ (.cons _ (List.Sublist.refl _)))
       have HCO:Hid ((ConM (ms.take (k+1)) (Y'.map (·.2))/\OneM (ms.take (k+1)))/\(∀ p∈Y',∃ j,j<ms.length/\p=(rs.getD j mr0,ms.getD j man0))/\(Y'=[]->A4=none)):=by
        refine ⟨?_,fun p hp=>?_,fun e=>?_⟩
        · have:=conM_ins HY.out.1.1 HY.out.1.2 HLO.out (fun h=>HHI.out (by rwa [List.length_map] at h));rw [HTK.out, <- HY'.out,List.map_append,List.map_cons,List.map_take,List.map_drop];exact this
        · rw [<- HY'.out] at hp;rcases List.mem_append.1 hp with hp | hp
          · exact HY.out.2.1 p (List.mem_of_mem_take hp)
          rcases List.mem_cons.1 hp with rfl | hp
          · exact ⟨k,hlt,by rw [HR.out,HMK.out]⟩
          exact HY.out.2.1 p (List.mem_of_mem_drop hp)
        rw [<- HY'.out] at e;simp at e
       clear S4;rw [HLEN.out];go_wp2_with fail
       go_roundw
       case rel=>exact ⟨k+1,Y',A4,c4,by omega,by go_num,rfl,HCO.out,S5.out⟩
       simp [intOf];omega)
   have hjY:j=Y.length:=by omega
   by_cases hY0:Y=[]
   · have hB0:=HY.out.2.2 hY0;subst hY0;subst hB0;obtain rfl:j=0:=hjY
     have HNIL9:Hid (bc=0):=by
      rcases (S3.out.get 1 rfl:wr.ownsRow 0 33 2 (.slice none 0 bc) 0 []).2 with ⟨hv,_⟩ | ⟨g,cap,cur,hv,_⟩
      · injection hv
      cases hv
     obtain rfl:bc=0:=HNIL9.out;have HHI:Hid (0<([]:List MP).length->ltID (keyM m) (keyM ((([]:List MP).map (·.2)).getD 0 man0))=true):=fun h=>absurd h (Nat.lt_irrefl 0);have SX:Hid (SW b w0 (rowOb 33 2 (.slice none 0 0) 0 ([]:List Value)::l) wr):=S3.out.tail;obtain ⟨wS,HWS⟩:∃ W,Hid (wr=W):=⟨_,rfl⟩;rw [HWS.out] at SX |-; clear HWS S3 HLO;have HLO:Hid (∀ i,i<0->ltID (keyM ((([]:List MP).map (·.2)).getD i man0)) (keyM m)=true):=fun i hi=>absurd hi (Nat.not_lt_zero _);obtain ⟨i0,i2,i3⟩:=HCA.out _ (SX.out.1.holds (imOb _ rs ms) (.tail _ HM.out));go_wp2_with fail
     go_region_law ((try simp only [Act.put,List.getElem_toArray,List.getElem_cons_succ,List.getElem_cons_zero,List.setIfInBounds_toArray,List.set]);first
      | (refine step_rowA (t:=27) (e:=33) (size:=2) (bytes:=32) (i:=i1) (SX.out.drew.newRow 33 2) 0 rfl (by rfl) (.const (.slice none 0 0)) (.tmp 61) (by rfl) Tryz.underlying27 gi gz0 gz1 gz2 rfl (by omega) (by rfl) none 0 0 ([]:List Value) (by rfl) rfl (fun h=>absurd h (Nat.lt_irrefl 0)) (by intro u hu;cases hu) (by unfold maxLen;omega) (by omega) ?_;intro v2 w2 s2;have S2a:Hid (SW b w0 (rowOb 33 2 v2 (0+0) ([]++([]:List Value))::rowOb 33 2 (.slice none 0 0) 0 ([]:List Value)::l) w2):=s2;clear s2;have HIM2:=hid (HCA.out _ (S2a.out.1.holds (imOb _ rs ms) (.tail _ (.tail _ HM.out))));have i0:=HIM2.out.1;have i2:=HIM2.out.2.1;have i3:=HIM2.out.2.2)
      | (refine step_rowA (t:=27) (e:=33) (size:=2) (bytes:=32) (i:=i1) ((SX.out.newCell 33 #[.int .i64 m.size,.slice rA m.ids.length rc]).drew.newRow 33 2) 0 rfl (by rfl) (.const (.slice none 0 0)) (.tmp 61) (by rfl) Tryz.underlying27 gi gz0 gz1 gz2 rfl (by omega) (by rfl) none 0 0 ([]:List Value) (by rfl) rfl (fun h=>absurd h (Nat.lt_irrefl 0)) (by intro u hu;cases hu) (by unfold maxLen;omega) (by omega) ?_;intro v2 w2 s2;have S2b:Hid (SW b w0 (rowOb 33 2 v2 (0+0) ([]++([]:List Value))::cellOb wS.heap.size 33 #[.int .i64 m.size,.slice rA m.ids.length rc]::rowOb 33 2 (.slice none 0 0) 0 ([]:List Value)::l) w2):=s2;clear s2)
      | (refine step_rowA (t:=27) (e:=33) (size:=2) (bytes:=32) (i:=i1) (S2a.out.newCell 33 #[.int .i64 m.size,.slice rA m.ids.length rc]) 1 rfl (by rfl) (.tmp 62) (.tmp 67) (by rfl) Tryz.underlying27 gi gz0 gz1 gz2 rfl (by omega) (by rfl) (some ⟨w2.heap.size,0,none⟩) 1 1 [.int .i64 m.size,.slice rA m.ids.length rc] (by rfl) rfl (fun _=>⟨_,rfl,two_new _ _ _ _ _ rfl⟩) (encMR_one (⟨m.size,rA,m.ids.length,rc⟩:MR)) (by unfold maxLen;omega) (by omega) ?_;intro v3 w3 s3;have S3:Hid (SW b w0 (rowOb 33 2 v3 (0+0+1) ([]++([]:List Value)++[.int .i64 m.size,.slice rA m.ids.length rc])::rowOb 33 2 (.slice none 0 0) 0 ([]:List Value)::l) w3):=s3.tail;clear s3)
      | (refine step_rowA (t:=27) (e:=33) (size:=2) (bytes:=32) (i:=i1) S2b.out 0 rfl (by rfl) (.tmp 62) (.tmp 67) (by rfl) Tryz.underlying27 gi gz0 gz1 gz2 rfl (by omega) (by rfl) (some ⟨wS.heap.size,0,none⟩) 1 1 [.int .i64 m.size,.slice rA m.ids.length rc] (by rfl) rfl (fun _=>⟨_,rfl,cell_src (S2b.out.cell 1 rfl)⟩) (encMR_one (⟨m.size,rA,m.ids.length,rc⟩:MR)) (by unfold maxLen;omega) (by omega) ?_;intro v3 w3 s3;have S3:Hid (SW b w0 (rowOb 33 2 v3 (0+0+1) ([]++([]:List Value)++[.int .i64 m.size,.slice rA m.ids.length rc])::rowOb 33 2 (.slice none 0 0) 0 ([]:List Value)::l) w3):=SW.sub s3 (.cons_cons _ (.cons _ (List.Sublist.refl _)));clear s3)
      | (refine step_rowA (t:=27) (e:=33) (size:=2) (bytes:=32) (i:=i1) S3.out 0 rfl (by rfl) (.tmp 68) (.tmp 71) (by rfl) Tryz.underlying27 gi gz0 gz1 gz2 rfl (by omega) (by rfl) none 0 0 ([]:List Value) (by rfl) rfl (fun h=>absurd h (Nat.lt_irrefl 0)) (by intro u hu;cases hu) (by unfold maxLen;omega) (by omega) ?_;intro v4 w4 s4;have S4:=hid s4;clear s4))
     all_goals (
      obtain ⟨Y',HY'⟩:∃ y,Hid (([]:List MP)++(((⟨m.size,rA,m.ids.length,rc⟩:MR),m):MP)::([]:List MP)=y):=⟨_,rfl⟩;have HLEN:Hid (0+0+1+0=Y'.length):=by rw [Hid, <- HY'.out];rfl
      have HENC:Hid ([]++([]:List Value)++[.int .i64 m.size,.slice rA m.ids.length rc]++[]=(Y'.map (·.1)).flatMap encMR):=by rw [Hid, <- HY'.out];simp [List.map_append,List.flatMap_append,encMR, <- List.map_take, <- List.map_drop]
      obtain ⟨A4,c4,rfl⟩:=own_slice (S4.out.get 0 rfl);rw [HLEN.out,HENC.out] at S4;have S5:Hid (SW b w0 (rowOb 33 2 (.slice A4 Y'.length c4) Y'.length ((Y'.map (·.1)).flatMap encMR)::l) w4):=SW.sub S4.out (.cons_cons _ (.cons _ (List.Sublist.refl _)))
      have HCO:Hid ((ConM (ms.take (k+1)) (Y'.map (·.2))/\OneM (ms.take (k+1)))/\(∀ p∈Y',∃ j,j<ms.length/\p=(rs.getD j mr0,ms.getD j man0))/\(Y'=[]->A4=none)):=by
       refine ⟨?_,fun p hp=>?_,fun e=>?_⟩
       · have:=conM_ins HY.out.1.1 HY.out.1.2 HLO.out (fun h=>HHI.out (by rwa [List.length_map] at h));rw [HTK.out, <- HY'.out];exact this
       · rw [<- HY'.out] at hp;rcases List.mem_append.1 hp with hp | hp
         · cases hp
         rcases List.mem_cons.1 hp with rfl | hp
         · exact ⟨k,hlt,by rw [HR.out,HMK.out]⟩
         cases hp
       rw [<- HY'.out] at e;simp at e
      clear S4;rw [HLEN.out];go_wp2_with fail
      go_roundw
      case rel=>exact ⟨k+1,Y',A4,c4,by omega,by go_num,rfl,HCO.out,S5.out⟩
      simp [intOf];omega)
   have hYp:0<Y.length:=List.length_pos_iff.2 hY0;obtain rfl:j=Y.length:=hjY;obtain ⟨gB,cB,e7⟩:=own_some (S3.out.get 1 rfl) (by omega);injection e7 with e7 e8 e9;clear e8 e9;subst e7;have HHI:Hid (Y.length<Y.length->ltID (keyM m) (keyM ((Y.map (·.2)).getD Y.length man0))=true):=fun h=>absurd h (Nat.lt_irrefl _);have SX:=hid S3.out.tail;clear S3;obtain ⟨wS,HWS⟩:∃ W,Hid (wr=W):=⟨_,rfl⟩;rw [HWS.out] at SX |-; clear HWS
   have hbc:Y.length<=bc:=by
    rcases (SX.out.get 0 rfl:wS.ownsRow 0 33 2 (.slice (some ⟨gB,0,none⟩) Y.length bc) Y.length ((Y.map (·.1)).flatMap encMR)).2 with ⟨hv,h0⟩ | ⟨g,cap,cur,hv,_,_,hnc,_⟩
    · cases hv
    injection hv with e1 e2 e3;omega
   have HTL:Hid ((((Y.map (·.1)).take Y.length).flatMap encMR).length=Y.length*2):=by rw [Hid,flat_len encMR_len,List.length_take,List.length_map];congr 1;omega
   have HTD:Hid ((((Y.map (·.1)).drop Y.length).flatMap encMR).length=(Y.length-Y.length)*2):=by rw [Hid,flat_len encMR_len,List.length_drop,List.length_map]
   have HST:Hid (∀ W:World,W.ownsRow 0 33 2 (.slice (some ⟨gB,0,none⟩) Y.length bc) Y.length ((Y.map (·.1)).flatMap encMR)->∀ (a:Nat) (u:Value),(((Y.map (·.1)).take Y.length).flatMap encMR)[a]? =some u->W.cell? ((⟨gB,0,none⟩:Addr).add a)=some u):=fun W h=>by
    have:=row_part encMR_len h 0 Y.length (by omega);rw [List.drop_zero,Nat.zero_mul] at this;exact this
   have HSD:Hid (∀ W:World,W.ownsRow 0 33 2 (.slice (some ⟨gB,0,none⟩) Y.length bc) Y.length ((Y.map (·.1)).flatMap encMR)->∀ (a:Nat) (u:Value),(((Y.map (·.1)).drop Y.length).flatMap encMR)[a]? =some u->W.cell? ((⟨gB,Y.length*2,none⟩:Addr).add a)=some u):=fun W h=>by
    have:=row_part encMR_len h Y.length (Y.length-Y.length) (by omega);rw [List.take_of_length_le (by rw [List.length_drop,List.length_map];omega)] at this;exact this
   obtain ⟨i0,i2,i3⟩:=HCA.out _ (SX.out.1.holds (imOb _ rs ms) (.tail _ HM.out));have hjb:Y.length<=bc:=by omega
   by_cases hcq:bc=Y.length
   · subst hcq;have HDR:Hid (Y.drop Y.length=[]):=List.drop_eq_nil_of_le (Nat.le_refl _);go_wp2_with fail
     go_region_law ((try simp only [Act.put,List.getElem_toArray,List.getElem_cons_succ,List.getElem_cons_zero,List.setIfInBounds_toArray,List.set]);first
      | (refine step_rowA (t:=27) (e:=33) (size:=2) (bytes:=32) (i:=i1) (SX.out.drew.newRow 33 2) 0 rfl (by rfl) (.const (.slice none 0 0)) (.tmp 61) (by rfl) Tryz.underlying27 gi gz0 gz1 gz2 rfl (by omega) (by rfl) (some ⟨gB,0,none⟩) Y.length Y.length (((Y.map (·.1)).take Y.length).flatMap encMR) (by rfl) HTL.out (fun _=>⟨_,rfl,HST.out _ (SX.out.drew.get 0 rfl)⟩) (encMR_all _) (by unfold maxLen;omega) (by omega) ?_;intro v2 w2 s2;have S2a:Hid (SW b w0 (rowOb 33 2 v2 (0+Y.length) ([]++(((Y.map (·.1)).take Y.length).flatMap encMR))::rowOb 33 2 (.slice (some ⟨gB,0,none⟩) Y.length Y.length) Y.length ((Y.map (·.1)).flatMap encMR)::l) w2):=s2;clear s2;have HIM2:=hid (HCA.out _ (S2a.out.1.holds (imOb _ rs ms) (.tail _ (.tail _ HM.out))));have i0:=HIM2.out.1;have i2:=HIM2.out.2.1;have i3:=HIM2.out.2.2)
      | (refine step_rowA (t:=27) (e:=33) (size:=2) (bytes:=32) (i:=i1) ((SX.out.newCell 33 #[.int .i64 m.size,.slice rA m.ids.length rc]).drew.newRow 33 2) 0 rfl (by rfl) (.const (.slice none 0 0)) (.tmp 61) (by rfl) Tryz.underlying27 gi gz0 gz1 gz2 rfl (by omega) (by rfl) (some ⟨gB,0,none⟩) Y.length Y.length (((Y.map (·.1)).take Y.length).flatMap encMR) (by rfl) HTL.out (fun _=>⟨_,rfl,HST.out _ ((SX.out.newCell 33 #[.int .i64 m.size,.slice rA m.ids.length rc]).drew.get 1 rfl)⟩) (encMR_all _) (by unfold maxLen;omega) (by omega) ?_;intro v2 w2 s2;have S2b:Hid (SW b w0 (rowOb 33 2 v2 (0+Y.length) ([]++(((Y.map (·.1)).take Y.length).flatMap encMR))::cellOb wS.heap.size 33 #[.int .i64 m.size,.slice rA m.ids.length rc]::rowOb 33 2 (.slice (some ⟨gB,0,none⟩) Y.length Y.length) Y.length ((Y.map (·.1)).flatMap encMR)::l) w2):=s2;clear s2)
      | (refine step_rowA (t:=27) (e:=33) (size:=2) (bytes:=32) (i:=i1) (S2a.out.newCell 33 #[.int .i64 m.size,.slice rA m.ids.length rc]) 1 rfl (by rfl) (.tmp 62) (.tmp 67) (by rfl) Tryz.underlying27 gi gz0 gz1 gz2 rfl (by omega) (by rfl) (some ⟨w2.heap.size,0,none⟩) 1 1 [.int .i64 m.size,.slice rA m.ids.length rc] (by rfl) rfl (fun _=>⟨_,rfl,two_new _ _ _ _ _ rfl⟩) (encMR_one (⟨m.size,rA,m.ids.length,rc⟩:MR)) (by unfold maxLen;omega) (by omega) ?_;intro v3 w3 s3;have S3:Hid (SW b w0 (rowOb 33 2 v3 (0+Y.length+1) ([]++(((Y.map (·.1)).take Y.length).flatMap encMR)++[.int .i64 m.size,.slice rA m.ids.length rc])::rowOb 33 2 (.slice (some ⟨gB,0,none⟩) Y.length Y.length) Y.length ((Y.map (·.1)).flatMap encMR)::l) w3):=s3.tail;clear s3)
      | (refine step_rowA (t:=27) (e:=33) (size:=2) (bytes:=32) (i:=i1) S2b.out 0 rfl (by rfl) (.tmp 62) (.tmp 67) (by rfl) Tryz.underlying27 gi gz0 gz1 gz2 rfl (by omega) (by rfl) (some ⟨wS.heap.size,0,none⟩) 1 1 [.int .i64 m.size,.slice rA m.ids.length rc] (by rfl) rfl (fun _=>⟨_,rfl,cell_src (S2b.out.cell 1 rfl)⟩) (encMR_one (⟨m.size,rA,m.ids.length,rc⟩:MR)) (by unfold maxLen;omega) (by omega) ?_;intro v3 w3 s3;have S3:Hid (SW b w0 (rowOb 33 2 v3 (0+Y.length+1) ([]++(((Y.map (·.1)).take Y.length).flatMap encMR)++[.int .i64 m.size,.slice rA m.ids.length rc])::rowOb 33 2 (.slice (some ⟨gB,0,none⟩) Y.length Y.length) Y.length ((Y.map (·.1)).flatMap encMR)::l) w3):=SW.sub s3 (.cons_cons _ (.cons _ (List.Sublist.refl _)));clear s3)
      | (refine step_rowA (t:=27) (e:=33) (size:=2) (bytes:=32) (i:=i1) S3.out 0 rfl (by rfl) (.tmp 68) (.tmp 71) (by rfl) Tryz.underlying27 gi gz0 gz1 gz2 rfl (by omega) (by rfl) (some ⟨gB,0,none⟩) 0 0 ([]:List Value) (by rfl) rfl (fun h=>absurd h (Nat.lt_irrefl 0)) (by intro u hu;cases hu) (by unfold maxLen;omega) (by omega) ?_;intro v4 w4 s4;have S4:=hid s4;clear s4))
     all_goals (
      obtain ⟨Y',HY'⟩:∃ y,Hid (Y.take Y.length++(((⟨m.size,rA,m.ids.length,rc⟩:MR),m):MP)::Y.drop Y.length=y):=⟨_,rfl⟩;have HLEN:Hid (0+Y.length+1+0=Y'.length):=by rw [Hid, <- HY'.out,List.length_append,List.length_cons,List.length_take,List.length_drop];omega
      have HENC:Hid ([]++(((Y.map (·.1)).take Y.length).flatMap encMR)++[.int .i64 m.size,.slice rA m.ids.length rc]++[]=(Y'.map (·.1)).flatMap encMR):=by rw [Hid, <- HY'.out];simp [List.map_append,List.flatMap_append,encMR, <- List.map_take, <- List.map_drop,HDR.out]
      obtain ⟨A4,c4,rfl⟩:=own_slice (S4.out.get 0 rfl);rw [HLEN.out,HENC.out] at S4;have S5:Hid (SW b w0 (rowOb 33 2 (.slice A4 Y'.length c4) Y'.length ((Y'.map (·.1)).flatMap encMR)::l) w4):=SW.sub S4.out (.cons_cons _ (.cons _ (List.Sublist.refl _)))
      have HCO:Hid ((ConM (ms.take (k+1)) (Y'.map (·.2))/\OneM (ms.take (k+1)))/\(∀ p∈Y',∃ j,j<ms.length/\p=(rs.getD j mr0,ms.getD j man0))/\(Y'=[]->A4=none)):=by
       refine ⟨?_,fun p hp=>?_,fun e=>?_⟩
       · have:=conM_ins HY.out.1.1 HY.out.1.2 HLO.out (fun h=>HHI.out (by rwa [List.length_map] at h));rw [HTK.out, <- HY'.out,List.map_append,List.map_cons,List.map_take,List.map_drop];exact this
       · rw [<- HY'.out] at hp;rcases List.mem_append.1 hp with hp | hp
         · exact HY.out.2.1 p (List.mem_of_mem_take hp)
         rcases List.mem_cons.1 hp with rfl | hp
         · exact ⟨k,hlt,by rw [HR.out,HMK.out]⟩
         exact HY.out.2.1 p (List.mem_of_mem_drop hp)
       rw [<- HY'.out] at e;simp at e
      clear S4;rw [HLEN.out];go_wp2_with fail
      go_roundw
      case rel=>exact ⟨k+1,Y',A4,c4,by omega,by go_num,rfl,HCO.out,S5.out⟩
      simp [intOf];omega)
   have hcl:Y.length<bc:=by omega
   have hcn:¬ bc=Y.length:=hcq;have HDR:Hid (Y.drop Y.length=[]):=List.drop_eq_nil_of_le (Nat.le_refl _);have hdz:Y.length-Y.length=0:=by omega
   go_wp2_with fail
   go_region_law ((try simp only [Act.put,List.getElem_toArray,List.getElem_cons_succ,List.getElem_cons_zero,List.setIfInBounds_toArray,List.set]);first
    | (refine step_rowA (t:=27) (e:=33) (size:=2) (bytes:=32) (i:=i1) (SX.out.drew.newRow 33 2) 0 rfl (by rfl) (.const (.slice none 0 0)) (.tmp 61) (by rfl) Tryz.underlying27 gi gz0 gz1 gz2 rfl (by omega) (by rfl) (some ⟨gB,0,none⟩) Y.length bc (((Y.map (·.1)).take Y.length).flatMap encMR) (by rfl) HTL.out (fun _=>⟨_,rfl,HST.out _ (SX.out.drew.get 0 rfl)⟩) (encMR_all _) (by unfold maxLen;omega) (by omega) ?_;intro v2 w2 s2;have S2a:Hid (SW b w0 (rowOb 33 2 v2 (0+Y.length) ([]++(((Y.map (·.1)).take Y.length).flatMap encMR))::rowOb 33 2 (.slice (some ⟨gB,0,none⟩) Y.length bc) Y.length ((Y.map (·.1)).flatMap encMR)::l) w2):=s2;clear s2;have HIM2:=hid (HCA.out _ (S2a.out.1.holds (imOb _ rs ms) (.tail _ (.tail _ HM.out))));have i0:=HIM2.out.1;have i2:=HIM2.out.2.1;have i3:=HIM2.out.2.2)
    | (refine step_rowA (t:=27) (e:=33) (size:=2) (bytes:=32) (i:=i1) ((SX.out.newCell 33 #[.int .i64 m.size,.slice rA m.ids.length rc]).drew.newRow 33 2) 0 rfl (by rfl) (.const (.slice none 0 0)) (.tmp 61) (by rfl) Tryz.underlying27 gi gz0 gz1 gz2 rfl (by omega) (by rfl) (some ⟨gB,0,none⟩) Y.length bc (((Y.map (·.1)).take Y.length).flatMap encMR) (by rfl) HTL.out (fun _=>⟨_,rfl,HST.out _ ((SX.out.newCell 33 #[.int .i64 m.size,.slice rA m.ids.length rc]).drew.get 1 rfl)⟩) (encMR_all _) (by unfold maxLen;omega) (by omega) ?_;intro v2 w2 s2;have S2b:Hid (SW b w0 (rowOb 33 2 v2 (0+Y.length) ([]++(((Y.map (·.1)).take Y.length).flatMap encMR))::cellOb wS.heap.size 33 #[.int .i64 m.size,.slice rA m.ids.length rc]::rowOb 33 2 (.slice (some ⟨gB,0,none⟩) Y.length bc) Y.length ((Y.map (·.1)).flatMap encMR)::l) w2):=s2;clear s2)
    | (refine step_rowA (t:=27) (e:=33) (size:=2) (bytes:=32) (i:=i1) (S2a.out.newCell 33 #[.int .i64 m.size,.slice rA m.ids.length rc]) 1 rfl (by rfl) (.tmp 62) (.tmp 67) (by rfl) Tryz.underlying27 gi gz0 gz1 gz2 rfl (by omega) (by rfl) (some ⟨w2.heap.size,0,none⟩) 1 1 [.int .i64 m.size,.slice rA m.ids.length rc] (by rfl) rfl (fun _=>⟨_,rfl,two_new _ _ _ _ _ rfl⟩) (encMR_one (⟨m.size,rA,m.ids.length,rc⟩:MR)) (by unfold maxLen;omega) (by omega) ?_;intro v3 w3 s3;have S3:Hid (SW b w0 (rowOb 33 2 v3 (0+Y.length+1) ([]++(((Y.map (·.1)).take Y.length).flatMap encMR)++[.int .i64 m.size,.slice rA m.ids.length rc])::rowOb 33 2 (.slice (some ⟨gB,0,none⟩) Y.length bc) Y.length ((Y.map (·.1)).flatMap encMR)::l) w3):=s3.tail;clear s3)
    | (refine step_rowA (t:=27) (e:=33) (size:=2) (bytes:=32) (i:=i1) S2b.out 0 rfl (by rfl) (.tmp 62) (.tmp 67) (by rfl) Tryz.underlying27 gi gz0 gz1 gz2 rfl (by omega) (by rfl) (some ⟨wS.heap.size,0,none⟩) 1 1 [.int .i64 m.size,.slice rA m.ids.length rc] (by rfl) rfl (fun _=>⟨_,rfl,cell_src (S2b.out.cell 1 rfl)⟩) (encMR_one (⟨m.size,rA,m.ids.length,rc⟩:MR)) (by unfold maxLen;omega) (by omega) ?_;intro v3 w3 s3;have S3:Hid (SW b w0 (rowOb 33 2 v3 (0+Y.length+1) ([]++(((Y.map (·.1)).take Y.length).flatMap encMR)++[.int .i64 m.size,.slice rA m.ids.length rc])::rowOb 33 2 (.slice (some ⟨gB,0,none⟩) Y.length bc) Y.length ((Y.map (·.1)).flatMap encMR)::l) w3):=SW.sub s3 (.cons_cons _ (.cons _ (List.Sublist.refl _)));clear s3)
    | (refine step_rowA (t:=27) (e:=33) (size:=2) (bytes:=32) (i:=i1) S3.out 0 rfl (by rfl) (.tmp 68) (.tmp 71) (by rfl) Tryz.underlying27 gi gz0 gz1 gz2 rfl (by omega) (by rfl) (some ⟨gB,Y.length*2,none⟩) 0 (bc-Y.length) ([]:List Value) (by rfl) rfl (fun h=>absurd h (Nat.lt_irrefl 0)) (by intro u hu;cases hu) (by unfold maxLen;omega) (by omega) ?_;intro v4 w4 s4;have S4:=hid s4;clear s4))
   all_goals (
    obtain ⟨Y',HY'⟩:∃ y,Hid (Y.take Y.length++(((⟨m.size,rA,m.ids.length,rc⟩:MR),m):MP)::Y.drop Y.length=y):=⟨_,rfl⟩;have HLEN:Hid (0+Y.length+1+0=Y'.length):=by rw [Hid, <- HY'.out,List.length_append,List.length_cons,List.length_take,List.length_drop];omega
    have HENC:Hid ([]++(((Y.map (·.1)).take Y.length).flatMap encMR)++[.int .i64 m.size,.slice rA m.ids.length rc]++[]=(Y'.map (·.1)).flatMap encMR):=by rw [Hid, <- HY'.out];simp [List.map_append,List.flatMap_append,encMR, <- List.map_take, <- List.map_drop,HDR.out]
    obtain ⟨A4,c4,rfl⟩:=own_slice (S4.out.get 0 rfl);rw [HLEN.out,HENC.out] at S4;have S5:Hid (SW b w0 (rowOb 33 2 (.slice A4 Y'.length c4) Y'.length ((Y'.map (·.1)).flatMap encMR)::l) w4):=SW.sub S4.out (.cons_cons _ (.cons _ (List.Sublist.refl _)))
    have HCO:Hid ((ConM (ms.take (k+1)) (Y'.map (·.2))/\OneM (ms.take (k+1)))/\(∀ p∈Y',∃ j,j<ms.length/\p=(rs.getD j mr0,ms.getD j man0))/\(Y'=[]->A4=none)):=by
     refine ⟨?_,fun p hp=>?_,fun e=>?_⟩
     · have:=conM_ins HY.out.1.1 HY.out.1.2 HLO.out (fun h=>HHI.out (by rwa [List.length_map] at h));rw [HTK.out, <- HY'.out,List.map_append,List.map_cons,List.map_take,List.map_drop];exact this
     · rw [<- HY'.out] at hp;rcases List.mem_append.1 hp with hp | hp
       · exact HY.out.2.1 p (List.mem_of_mem_take hp)
       rcases List.mem_cons.1 hp with rfl | hp
       · exact ⟨k,hlt,by rw [HR.out,HMK.out]⟩
       exact HY.out.2.1 p (List.mem_of_mem_drop hp)
     rw [<- HY'.out] at e;simp at e
    clear S4;rw [HLEN.out];go_wp2_with fail
    go_roundw
    case rel=>exact ⟨k+1,Y',A4,c4,by omega,by go_num,rfl,HCO.out,S5.out⟩
    simp [intOf];omega)
 obtain rfl:k=ms.length:=by omega
 rw [List.take_length] at HY
 have S5:Hid (SW b w0 (imOb B (Y.map (·.1)) (Y.map (·.2))::l) wr):=by
  have hM:=S1.out.1.holds (imOb _ rs ms) (.tail _ HM.out);have hlk:∀ j,j<Y.length->∃ i,i<ms.length/\Y.getD j (mr0,man0)=(rs.getD i mr0,ms.getD i man0):=fun j hj=>HY.out.2.1 _ (getD_mem _ _ _ hj);have e1:∀ j,j<Y.length->(Y.map (·.1)).getD j mr0=(Y.getD j (mr0,man0)).1:=fun j hj=>by simp [List.getD_eq_getElem?_getD,List.getElem?_eq_getElem hj]
  have e2:∀ j,j<Y.length->(Y.map (·.2)).getD j man0=(Y.getD j (mr0,man0)).2:=fun j hj=>by simp [List.getD_eq_getElem?_getD,List.getElem?_eq_getElem hj]
  have h9:SW b w0 (rowOb 33 2 (.slice B (Y.map (·.2)).length bc) (Y.map (·.2)).length ((Y.map (·.1)).flatMap encMR)::msOb (Y.map (·.1)) (Y.map (·.2))::l) wr:=by
   rw [List.length_map];refine SW.front (pre:=[_,_]) (SW.again (o':=msOb (Y.map (·.1)) (Y.map (·.2))) S1.out (.tail _ HM.out) (fun _ h=>h) ⟨by simp,fun j hj=>?_⟩ (fun _ h=>h) (fun i hi=>?_)) [1,0] (n:=2) rfl (by decide)
   · have hj:j<Y.length:=by simpa using hj
     obtain ⟨i,hi,e⟩:=hlk j hj;rw [e1 j hj,e2 j hj,e];exact hM.2.2 i hi
   obtain ⟨j,hj,hp,o,ho⟩:=hi;have hj:j<Y.length:=by simpa using hj
   obtain ⟨i',hi',e⟩:=hlk j hj;rw [e2 j hj,e] at hp;rw [e1 j hj,e] at ho;exact .inr ⟨i',hi',hp,o,ho⟩
  exact SW.fuseIm h9
 clear S1;go_wp2_with fail
 go_ret2;exact .inl ⟨HY.out.1.2,Y,B,bc,HY.out.1.1,rfl,S5.out⟩
end
end Go.Proofs.YtmiknfneeipkeaaGreat
