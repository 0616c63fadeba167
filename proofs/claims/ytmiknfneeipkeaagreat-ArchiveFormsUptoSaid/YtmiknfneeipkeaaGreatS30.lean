/- Contracts of the walk, part 30. -/
import Derived.Test.YtmiknfneeipkeaaGreatS27
import Derived.Test.YtmiknfneeipkeaaGreatS29
open Go.Lib (hid)
namespace Go.Proofs.YtmiknfneeipkeaaGreat
open Go.RowKit Go.MapKept Go.ChangeMaps Go.Shelf Go.Sort
attribute [local go_sem] wext_cell
section
variable {b:Nat} {w0 w w':World} {l:List Ob}
abbrev StoP (ms:List Man) (T:List CH) (b:Nat) (w0:World) (l:List Ob) (e:Ending) (w':World):Prop:=
 (errM ms≠0/\e= .returned (.tuple #[.slice none 0 0,.int .i64 (errM ms)])/\SW b w0 l w')∨
 (errM ms=0/\¬ (OneM ms/\AllR (setR (idsOf ms)) T)/\e= .returned (.tuple #[.slice none 0 0,.int .i64 411])/\SW b w0 l w')∨
 (errM ms=0/\OneM ms/\AllR (setR (idsOf ms)) T/\∃ (ys:List Man) (d:BD),ConM ms ys/\e= .returned (.tuple #[vB d,.int .i64 0])/\SW b w0 (bufOb d (volB ys (selR (setR (idsOf ms)) T))::l) w')
set_option maxRecDepth 100000 in
set_option maxHeartbeats 8000000 in
theorem Store_any (h:SW b w0 l w) {A:Option Addr} {rs:List MR} {ms:List Man} (hm:imOb A rs ms∈l) (hn:ms.length<=600000) (hi:∀ m∈ms,m.ids.length<=9223372036854775807) (hok:∀ m∈ms,∀ i∈m.ids,okID i) {C:Option Addr} {T:List CH} (hc:cxOb C T∈l) (hT:∀ e∈T,okID e.1) (hTn:T.length<=9223372036854775807) (hpk:AllR (setR (idsOf ms)) T->(packP (selR (setR (idsOf ms)) T)).length<=1048576) (c d:Nat):
 Calls Tryz.prog 11 #[.slice A ms.length c,.slice C T.length d] w (StoP ms T b w0 l):=by
 have HM:=hid hm;have HC:=hid hc;have HCK:=hid (chunksOf_any h hm (by omega) hi c);go_enter Tryz.func11,Tryz.ntmps11;go_wp2_with (go_at_call 39;(with_reducible refine HCK.out.mono ?_);refine halt_ ?_)
 rintro e w1 (⟨hE,A1,c1,rfl,hc1,s1⟩ | ⟨hE,rfl,s1⟩)
 · simp only [List.nil_append] at hc1 s1;simp only [List.nil_append];have HE:=hid hE;have HPK0:=hid hpk;clear hpk;have HV:Hid (∀ m∈ms,manE m=0):=errM_each hE;obtain ⟨ids,HID⟩:∃ x,Hid (setR (idsOf ms)=x):=⟨_,rfl⟩;rw [HID.out] at s1 hc1 |-; have S1:=hid s1.rwRi;have HCO:=hid (contentsOf_any S1.out (.tail _ HM.out) HV.out (by omega) hok c);clear hE s1 HCK h;go_wp2_with (go_at_call 40;(with_reducible refine HCO.out.mono ?_);refine halt_ ?_)
   rintro e w2 (⟨hO,Y,D,dd,hcon,rfl,s2⟩ | ⟨hO,rfl,s2⟩)
   · have HO:=hid hO;have HCON:=hid hcon;have HASC:Hid (AscI ids):=by rw [Hid, <- HID.out];exact setR_strict _
     have HIK:Hid (∀ i∈ids,okID i/\1<=i.2/\i.2<=8192):=fun i hi=>by
      rw [<- HID.out,setR_mem] at hi;have hc:=chunk_of_err HE.out i hi;obtain ⟨m,hm1,hm2⟩:=List.mem_flatMap.1 hi;exact ⟨hok m hm1 i hm2,chunkB_sound hc⟩
     have HIL:Hid (ids.length<=700000000):=by
      rw [Hid, <- HID.out];have:=setR_lim HE.out;omega
     have HCH:=hid (choose_any s2 (.tail _ (.tail _ (.head _))) HASC.out (fun i hi=>(HIK.out i hi).1) HIL.out (fun i hi=>(HIK.out i hi).2.2) (.tail _ (.tail _ (.tail _ HC.out))) hT hTn c1 d);clear hO hcon s2 HCO;go_wp2_with (go_at_call 41;(with_reducible refine HCH.out.mono ?_);refine halt_ ?_)
     rintro e w3 (⟨hA,D2,q2,rfl,s3⟩ | ⟨hA,v2,rfl,s3⟩)
     · have HA:=hid hA
       have HPK:Hid ((packP (selR ids T)).length<=1048576):=by
        have h1:=HPK0.out;rw [HID.out] at h1;exact h1 hA
       have HEN:Hid (Calls Tryz.prog 42 #[.slice D2 ids.length q2] w3 (fun e w'=>∃ d,e= .returned (.tuple #[vB d,.int .i64 0])/\SW b w0 (bufOb d (packP (selR ids T))::rowOb 85 4 (.slice D Y.length dd) Y.length ((Y.map cnOf).flatMap encCN)::msOb (Y.map (·.1)) (Y.map (·.2))::l) w')):=by
        have h1:=s3.rowCx (C:=C) (T:=T) (.tail _ (.tail _ (.tail _ HC.out))) (selR_len ids T) (selR_mem hA);have h2:=encode_any h1 (.head _) (selR_ok hA (fun i hi=>(HIK.out i hi).2)) (selR_asc HASC.out hA) HPK.out (pack_cnt HPK.out) q2;rw [selR_len] at h2;refine h2.mono ?_;rintro e w' ⟨d,rfl,h⟩;exact ⟨d,rfl,SW.sub h (.cons_cons _ (.cons _ (.cons_cons _ (.cons_cons _ (.cons _ (List.Sublist.refl _))))))⟩
       clear hA s3 HCH;go_wp2_with (go_at_call 42;(with_reducible refine HEN.out.mono ?_);refine halt_ ?_)
       rintro e w4 ⟨dp,rfl,s4⟩;have S4:=hid s4;have S5:=hid (S4.out.newX #[.int .u8 83,.int .u8 89,.int .u8 65,.int .u8 82] (4,5) [83,89,65,82] 4 rfl (by decide) rfl)
       have HYN:Hid (Y.length<=600000):=by
        have h1:=conM_len HCON.out;rw [List.length_map] at h1;rw [Hid];omega
       have hyn:Y.length<=600000:=HYN.out;have HPU:Hid (Calls Tryz.prog 43 #[.slice (some ⟨w4.heap.size,0,none⟩) 4 4,.int .u64 (Y.length:Int)] (w4.alloc (.cells #[.int .u8 83,.int .u8 89,.int .u8 65,.int .u8 82] 5 (4,5))) (NewB ([83,89,65,82]++putU Y.length) (w4.alloc (.cells #[.int .u8 83,.int .u8 89,.int .u8 65,.int .u8 82] 5 (4,5))))):=(PutUint_big (some ⟨w4.heap.size,0,none⟩) 4 [83,89,65,82] Y.length (w4.alloc (.cells #[.int .u8 83,.int .u8 89,.int .u8 65,.int .u8 82] 5 (4,5))) ((S5.out.get 0 (o:=bxOb _ _) rfl).1.sb) (by decide) (by have:=HYN.out;omega));have hcv:=Lib.run_convert_bytes_const (P:=Tryz.prog) w4 40 5 #[.int .u8 83,.int .u8 89,.int .u8 65,.int .u8 82] 4 4 Tryz.underlying40 Tryz.underlying5;clear HEN s4;unfold vB;go_wp2_with (go_at_call 43;(with_reducible refine HPU.out.mono ?_);refine halt_ ?_)
       rintro e w5 ⟨d5,rfl,hr5,hn5,hb5⟩
       have S6:Hid (SW b w0 (bufOb d5 (volH Y.length ((Y.map (·.2)).take 0))::bufOb dp (packP (selR ids T))::rowOb 85 4 (.slice D Y.length dd) Y.length ((Y.map cnOf).flatMap encCN)::msOb (Y.map (·.1)) (Y.map (·.2))::l) w5):=by
        have h1:=SW.newBuT S5.out hb5 hr5 hn5;rw [Hid,List.take_zero,volH_nil];exact SW.sub h1 (.cons_cons _ (.cons _ (List.Sublist.refl _)))
       have HYE:Hid (∀ m∈Y.map (·.2),manE m=0):=fun m hm=>HV.out m ((HCON.out.2 m).1 hm);have HYO:Hid (∀ m∈Y.map (·.2),∀ i∈m.ids,okID i):=fun m hm=>hok m ((HCON.out.2 m).1 hm)
       have HVL:Hid (∀ k,(volH Y.length ((Y.map (·.2)).take k)).length<=12400000000):=fun k=>by
        have hy:=HYN.out;have h1:=volH_le (ys:=(Y.map (·.2)).take k) (fun m hm=>HYE.out m (List.mem_of_mem_take hm)) (fun m hm=>HYO.out m (List.mem_of_mem_take hm)) (by rw [List.length_take,List.length_map];omega) Y.length;have h2:=putU_ten (v:=Y.length) (by omega);rw [List.length_take,List.length_map] at h1;omega
       clear hr5 hn5 hb5 HPU S4 S5 hcv;unfold vB;go_wp2_with fail
       go_loopw [12,56] (fun s12 s56 wr=>∃ (k:Nat) (d:BD),k<=Y.length/\s56= .int .i64 (k:Int)/\s12= .slice d.A d.len d.cap/\SW b w0 (bufOb d (volH Y.length ((Y.map (·.2)).take k))::bufOb dp (packP (selR ids T))::rowOb 85 4 (.slice D Y.length dd) Y.length ((Y.map cnOf).flatMap encCN)::msOb (Y.map (·.1)) (Y.map (·.2))::l) wr) (fun _ s56 _=>Y.length-(intOf s56).toNat)
       case atStart=>exact ⟨0,d5,Nat.zero_le _,rfl,rfl,S6.out⟩
       obtain ⟨k,d,hk,rfl,rfl,hs⟩:=hrel;have S7:=hid hs;clear hs S6;by_cases hlt:k<Y.length
       · obtain ⟨⟨⟨z,rA,rn,rc⟩,m⟩,HY⟩:∃ p,Hid (Y.getD k (mr0,man0)=p):=⟨_,rfl⟩
         have e1:(Y.map (·.1)).getD k mr0=⟨z,rA,rn,rc⟩:=by
          have:(Y.map (·.1)).getD k mr0=(Y.getD k (mr0,man0)).1:=by simp [List.getD_eq_getElem?_getD,List.getElem?_eq_getElem hlt]
          rw [this,HY.out]
         have e2:(Y.map (·.2)).getD k man0=m:=by
          have:(Y.map (·.2)).getD k man0=(Y.getD k (mr0,man0)).2:=by simp [List.getD_eq_getElem?_getD,List.getElem?_eq_getElem hlt]
          rw [this,HY.out]
         have hmem:m∈Y.map (·.2):=by rw [<- e2];exact getD_mem _ _ _ (by rw [List.length_map];exact hlt)
         have HTK:Hid (volH Y.length ((Y.map (·.2)).take (k+1))=volH Y.length ((Y.map (·.2)).take k)++(putU (manB m).length++manB m)):=by
          rw [Hid,take_snoc _ man0 _ (by rw [List.length_map];exact hlt),e2,volH_snoc]
         have hM:=(S7.out.1.holds (msOb (Y.map (·.1)) (Y.map (·.2))) (.tail _ (.tail _ (.tail _ (.head _))))).2 k (by rw [List.length_map];exact hlt);rw [e1,e2] at hM;obtain ⟨l1,l2,l3,l4⟩:=hM;simp only at l1 l2 l3 l4;subst l1 l2;have HR:=hid l4
         have hcn:(Y.map cnOf).getD k cn0=(keyM m,⟨m.size,rA,m.ids.length,rc⟩):=by
          have:(Y.map cnOf).getD k cn0=cnOf (Y.getD k (mr0,man0)):=by simp [List.getD_eq_getElem?_getD,List.getElem?_eq_getElem hlt]
          rw [this,HY.out,cnOf]
         obtain ⟨⟨a1,a2⟩,hkm⟩:∃ a,keyM m=a:=⟨_,rfl⟩;rw [hkm] at hcn;obtain ⟨gD,cD,e7⟩:=own_some (S7.out.get 2 rfl) (by omega);injection e7 with e7 e8 e9;clear e8 e9;subst e7;have hrow:wr.ownsRow 0 85 4 (.slice (some ⟨gD,0,none⟩) Y.length dd) Y.length ((Y.map cnOf).flatMap encCN):=S7.out.get 2 rfl
         have cellB:∀ a v,a<4->(encCN ((a1,a2),(⟨m.size,rA,m.ids.length,rc⟩:MR)))[a]? =some v->wr.cell? ⟨gD,k*4+a,none⟩=some v:=fun a v ha hv=>by
          rw [hrow.cellAt (k*4+a) (by omega),flat_at encCN_len cn0 _ k a (by rw [List.length_map];omega) ha,hcn];exact hv
         have p0:wr.cell? ⟨gD,k*4,none⟩=some (.int .u64 a1):=cellB 0 _ (by omega) rfl;have p1:wr.cell? ⟨gD,k*4+1,none⟩=some (.int .i64 a2):=cellB 1 _ (by omega) rfl;have p2:wr.cell? ⟨gD,k*4+2,none⟩=some (.int .i64 m.size):=cellB 2 _ (by omega) rfl;have p3:wr.cell? ⟨gD,k*4+3,none⟩=some (.slice rA m.ids.length rc):=cellB 3 _ (by omega) rfl;have S8:=hid (S7.out.newCell 85 #[.int .u64 a1,.int .i64 a2,.int .i64 m.size,.slice rA m.ids.length rc]);have HME:=hid (manEnc_any _ m rA rc _ (HR.out.on (bel1q wr (.cells #[.int .u64 a1,.int .i64 a2,.int .i64 m.size,.slice rA m.ids.length rc] 85))) (HYE.out m hmem) (HYO.out m hmem));have HBL:Hid ((manB m).length<=20500):=manB_len (HYE.out m hmem) (HYO.out m hmem);clear cellB hcn hkm hrow e1 e2 hmem l3 l4;have hrb:RB wr d (volH Y.length ((Y.map (·.2)).take k)):=S7.out.get 0 (o:=bufOb d _) rfl;have hd9:d.len=(volH Y.length ((Y.map (·.2)).take k)).length:=hrb.1.symm;have HDL:=hid hd9;clear hd9 hrb;go_wp2_with (go_at_call 44;(with_reducible refine HME.out.mono ?_);refine halt_ ?_)
         rintro e w6 d6 rfl hbf;have R6:=hid hbf.rb;have S9:=hid (S8.out.on hbf.bl);have HD6:Hid ((manB m).length=d6.len):=hbf.rb.1;have hd6:d6.len<=20500:=by rw [<- HD6.out];exact HBL.out
         have HPB:Hid (Calls Tryz.prog 43 #[.slice d.A d.len d.cap,.int .u64 (d6.len:Int)] w6 (NewB (volH Y.length ((Y.map (·.2)).take k)++putU d6.len) w6)):=by
          have h1:=PutUint_big d.A d.cap (volH Y.length ((Y.map (·.2)).take k)) d6.len w6 ((S9.out.get 1 (o:=bufOb d (volH Y.length ((Y.map (·.2)).take k))) rfl:RB w6 d _).src) (by have:=HVL.out k;omega) (by omega);rw [<- HDL.out] at h1;exact h1
         clear hbf S7 S8 HME p0 p1 p2 p3;unfold vB;go_wp2_with (go_at_call 43;(with_reducible refine HPB.out.mono ?_);refine halt_ ?_)
         rintro e w7 ⟨d7,rfl,hr7,hn7,hb7⟩;have S10:=hid (SW.newBuT S9.out hb7 hr7 hn7);have R7:=hid (R6.out.on hb7)
         have hbd:(volH Y.length ((Y.map (·.2)).take k)++putU d6.len).length+d6.len<=1099511627776:=by
          have h1:=HVL.out (k+1);rw [HTK.out,List.length_append,List.length_append,HD6.out] at h1;rw [List.length_append];omega
         clear hr7 hn7 hb7 S9 HPB R6;unfold vB;go_wp2_with (at_builtin;refine halt_q ?_)
         refine wpList_bufS S10.out rfl _ _ rfl rfl d6.A d6.len d6.cap (manB m) rfl R7.out.1 R7.out.src hbd ?_;intro d8 w8 s8
         have S11:Hid (SW b w0 (bufOb d8 (volH Y.length ((Y.map (·.2)).take (k+1)))::bufOb dp (packP (selR ids T))::rowOb 85 4 (.slice (some ⟨gD,0,none⟩) Y.length dd) Y.length ((Y.map cnOf).flatMap encCN)::msOb (Y.map (·.1)) (Y.map (·.2))::l) w8):=by
          rw [Hid,HTK.out,HD6.out, <- List.append_assoc];exact SW.sub s8 (.cons_cons _ (.cons _ (.cons _ (List.Sublist.refl _))))
         clear s8 S10 R7 hbd;unfold vB;go_wp2_with fail
         go_roundw
         case rel=>exact ⟨k+1,d8,by omega,by go_num,rfl,S11.out⟩
         simp [intOf];omega
       obtain rfl:k=Y.length:=by omega
       have HTL:Hid ((Y.map (·.2)).take Y.length=Y.map (·.2)):=by
        have h1:(Y.map (·.2)).length=Y.length:=List.length_map ..; rw [Hid, <- h1,List.take_length]
       have hvl:=HVL.out Y.length;rw [HTL.out] at S7 hvl;have RP:Hid (RB wr dp (packP (selR ids T))):=S7.out.get 1 (o:=bufOb dp (packP (selR ids T))) rfl
       have hbd:(volH Y.length (Y.map (·.2))).length+dp.len<=1099511627776:=by
        have h1:=RP.out.1;have h2:=HPK.out;omega
       go_wp2_with (at_builtin;refine halt_q ?_)
       refine wpList_bufS S7.out rfl _ _ rfl rfl dp.A dp.len dp.cap (packP (selR ids T)) rfl RP.out.1 RP.out.src hbd ?_;intro d8 w8 s8
       have S8:Hid (SW b w0 (bufOb d8 (volB (Y.map (·.2)) (selR (setR (idsOf ms)) T))::l) w8):=by
        rw [Hid,HID.out,volB,List.length_map];exact SW.sub s8 (.cons_cons _ (.cons _ (.cons _ (.cons _ (List.Sublist.refl _)))))
       have HA2:Hid (AllR (setR (idsOf ms)) T):=by rw [Hid,HID.out];exact HA.out
       clear s8 S7 RP;unfold vB;go_wp2_with fail
       go_ret2;exact .inr (.inr ⟨HE.out,HO.out,HA2.out,Y.map (·.2),d8,HCON.out,rfl,S8.out⟩)
     have HNO:Hid (¬ (OneM ms/\AllR (setR (idsOf ms)) T)):=fun h=>hA (by rw [<- HID.out];exact h.2);have S3:=hid s3.tail.tail.tail;clear hA s3 HCH;go_wp2_with fail
     go_ret2;exact .inr (.inl ⟨HE.out,HNO.out,rfl,S3.out⟩)
   have HO:Hid (¬ (OneM ms/\AllR (setR (idsOf ms)) T)):=fun h=>hO h.1;have S2:=hid s2.tail;clear hO s2 HCO;go_wp2_with fail
   go_ret2;exact .inr (.inl ⟨HE.out,HO.out,rfl,S2.out⟩)
 have hbe:(errM ms !=0)=true:=by rw [bne_iff_ne];exact hE
 have HE:=hid hE;have S1:=hid s1;clear hE s1 HCK h;go_wp2_with fail
 go_ret2;exact .inl ⟨HE.out,rfl,S1.out⟩
end
end Go.Proofs.YtmiknfneeipkeaaGreat
