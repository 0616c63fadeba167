/- Contracts of the walk, part 35. -/
import Derived.Test.YtmiknfneeipkeaaGreatS28
import Derived.Test.YtmiknfneeipkeaaGreatS34
import Derived.Test.YtmiknfneeipkeaaGreatS04
import Derived.Test.YtmiknfneeipkeaaGreatS33
open Go.Lib (hid)
namespace Go.Proofs.YtmiknfneeipkeaaGreat
open Go.RowKit Go.MapKept Go.ChangeMaps Go.Shelf Go.Sort
attribute [local go_sem] wext_cell
section
variable {b:Nat} {w0 w w':World} {l:List Ob}
abbrev RfrP (bs:List UInt8) (k:Nat) (S:List CH) (D:Option Addr) (dc:Nat) (b:Nat) (w0:World) (l:List Ob) (e:Ending) (w':World):Prop:=
 (∃ (sm sz:Nat) (cs:List UInt8) (k':Nat) (d:BD),frP bs k (rdLast S)=some (((((sm:Int),(sz:Int)):ID),cs),k')/\k<k'/\k'<=bs.length/\okID ((sm:Int),(sz:Int))/\e= .returned (.tuple #[.agg #[.int .u64 (sm:Int),.int .i64 (sz:Int),vB d],.int .i64 (k':Int),.int .i64 0])/\SW b w0 (bufOb d cs::rowOb 42 3 (.slice D S.length dc) S.length (S.flatMap encCH)::l) w')∨
 (frP bs k (rdLast S)=none/\∃ q:Int,q≠0/\e= .returned (.tuple #[.agg #[.int .u64 0,.int .i64 0,.slice none 0 0],.int .i64 0,.int .i64 q])/\SW b w0 (rowOb 42 3 (.slice D S.length dc) S.length (S.flatMap encCH)::l) w')
set_option maxRecDepth 100000 in
set_option maxHeartbeats 16000000 in
theorem rFrm_any {D:Option Addr} {dc:Nat} {S:List CH} (h:SW b w0 (rowOb 42 3 (.slice D S.length dc) S.length (S.flatMap encCH)::l) w) {A:Option Addr} {c k1 k:Nat} {bs:List UInt8} (hr:rsOb A bs∈l) (hv:(A=none->c=0)/\bs.length<=c/\bs.length<=9223372036854775807) (hk1:k=k1+1) (hk:k<=bs.length) (hb:bs.length<=1048576) (hS:S.length<=bs.length):
 Calls Tryz.prog 155 #[.slice A bs.length c,.int .i64 (k1:Int),.slice D S.length dc] w (RfrP bs k S D dc b w0 l):=by
 have HVV:=hid hv;have HR:=hid hr;have S0:=hid (h.newCellAt 42 #[.int .u64 0,.int .i64 0,.slice none 0 0] (H:=w.heap.size) rfl);have hz1:(k1:Int)+1=(k:Int):=by omega
 have HZ1:=hid hz1;have hk1b:k1<=1048576:=by omega
 clear h hr hv hk1 hz1;go_enter Tryz.func155,Tryz.ntmps155;go_upto_region 1 with fail
 obtain ⟨gr,HGR⟩:∃ x,Hid (w.heap.size=x):=⟨_,rfl⟩;obtain ⟨w1,HW1⟩:∃ W,Hid (w.alloc (.cells #[.int .u64 0,.int .i64 0,.slice none 0 0] 42)=W):=⟨_,rfl⟩;rw [HGR.out,HW1.out] at S0;rw [HGR.out,HW1.out];clear HW1 HGR
 have HT1:Hid (Calls Tryz.prog 116 #[.slice A bs.length c,.int .i64 ((k1:Int)+1)] w1 (UintP bs k w1)):=by
  rw [Hid,HZ1.out];exact rTake_any A c bs k w1 (S0.out.view (.tail _ (.tail _ HR.out)) HVV.out) hk
 go_wp2_with (go_at_call 116;(with_reducible refine HT1.out.mono ?_);refine halt_ ?_)
 rintro e w2 ⟨rfl,⟨sz,n1,ht1,rfl⟩ | ⟨ht,q,hq,rfl⟩⟩
 · have hn1:=takeU_le _ _ _ _ _ ht1;rw [List.length_drop] at hn1;have hsz64:=takeU_lt _ _ _ _ _ (by omega) (by decide) ht1;clear HT1;have HT1:=hid ht1;clear ht1;obtain ⟨K1,HK1⟩:∃ x,Hid (k+n1=x):=⟨_,rfl⟩;have hkk:k+n1<=bs.length:=by omega
   rw [HK1.out] at hkk;rw [HK1.out];have HT2C:=hid (rTake_any A c bs K1 w2 (S0.out.view (.tail _ (.tail _ HR.out)) HVV.out) hkk);go_wp2_with (go_at_call 116;(with_reducible refine HT2C.out.mono ?_);refine halt_ ?_)
   rintro e w3 ⟨rfl,⟨sm,n2,ht2,rfl⟩ | ⟨ht,q,hq,rfl⟩⟩
   · have hn2:=takeU_le _ _ _ _ _ ht2;rw [List.length_drop] at hn2;have hsm64:=takeU_lt _ _ _ _ _ (by omega) (by decide) ht2;rw [<- HK1.out] at ht2 hn2;have HT2:=hid ht2;clear ht2 HT2C;have hk2:k+n1+n2<=bs.length:=by omega
     obtain ⟨K,HK⟩:∃ x,Hid (k+n1+n2=x):=⟨_,rfl⟩;have HKK:Hid (K1+n2=K):=by rw [Hid, <- HK1.out,HK.out]
     rw [HK.out] at hk2;rw [HKK.out];have hKk:k<K:=by have:=HK.out;omega
     by_cases hlo:sz<1
     · have HN:Hid (frP bs k (rdLast S)=none):=by rw [Hid,frP,HT1.out];simp only;rw [HT2.out];simp only;rw [if_pos (.inl hlo)]
       have hz0:sz=0:=by omega
       subst hz0;have hd1:decide (((0:Nat):Int)<1)=true:=by decide
       clear hn1 hn2 hlo;have r0:=(S0.out.cell 0 rfl).cell 0;have r1:=(S0.out.cell 0 rfl).cell 1;have r2:=(S0.out.cell 0 rfl).cell 2;have rz:=fun o=>(S0.out.cell 0 rfl).frozen o;go_wp2_with fail
       have S9:=hid (((S0.out.setAt 0 rfl 0 (.int .u64 0)).setAt 0 rfl 1 (.int .i64 0)).setAt 0 rfl 2 (.slice none 0 0));have e0:=(S9.out.cell 0 rfl).cell 0;have e1:=(S9.out.cell 0 rfl).cell 1;have e2:=(S9.out.cell 0 rfl).cell 2;refine bodyPost_ret (v:=.tuple #[.agg #[.int .u64 0,.int .i64 0,.slice none 0 0],.int .i64 0,.int .i64 293]) (by simp [results,Tryz.results155,go_sem,e0,e1,e2,Result.andThen]) rfl ?_;exact .inr ⟨HN.out,293,by decide,rfl,S9.out.tail⟩
     by_cases hhi:8192<sz
     · have HN:Hid (frP bs k (rdLast S)=none):=by rw [Hid,frP,HT1.out];simp only;rw [HT2.out];simp only;rw [if_pos (.inr (.inl hhi))]
       have hd1:decide ((sz:Int)<1)=false:=decide_eq_false (by omega);have hd2:decide (sz<1)=false:=decide_eq_false hlo;have hd3:decide ((8192:Int)<(sz:Int))=true:=decide_eq_true (by omega);have hd4:decide (8192<sz)=true:=decide_eq_true hhi;have hz0:sz≠0:=by omega
       have hz1:(sz:Int)≠0:=by omega
       clear hn1 hn2;have r0:=(S0.out.cell 0 rfl).cell 0;have r1:=(S0.out.cell 0 rfl).cell 1;have r2:=(S0.out.cell 0 rfl).cell 2;have rz:=fun o=>(S0.out.cell 0 rfl).frozen o;go_wp2_with fail
       have S9:=hid (((S0.out.setAt 0 rfl 0 (.int .u64 0)).setAt 0 rfl 1 (.int .i64 0)).setAt 0 rfl 2 (.slice none 0 0));have e0:=(S9.out.cell 0 rfl).cell 0;have e1:=(S9.out.cell 0 rfl).cell 1;have e2:=(S9.out.cell 0 rfl).cell 2;refine bodyPost_ret (v:=.tuple #[.agg #[.int .u64 0,.int .i64 0,.slice none 0 0],.int .i64 0,.int .i64 293]) (by simp [results,Tryz.results155,go_sem,e0,e1,e2,Result.andThen]) rfl ?_;exact .inr ⟨HN.out,293,by decide,rfl,S9.out.tail⟩
     have hd1:decide ((sz:Int)<1)=false:=decide_eq_false (by omega);have hd2:decide (sz<1)=false:=decide_eq_false hlo;have hd3:decide ((8192:Int)<(sz:Int))=false:=decide_eq_false (by omega);have hd4:decide (8192<sz)=false:=decide_eq_false hhi;have hz0:sz≠0:=by omega
     have hz1:(sz:Int)≠0:=by omega
     have hwz:IntKind.i64.wrap (sz:Int)=(sz:Int):=IntWalk.i64_in _ (by omega);by_cases hfit:bs.length<K+sz
     · have HN:Hid (frP bs k (rdLast S)=none):=by rw [Hid,frP,HT1.out];simp only;rw [HT2.out];simp only;rw [if_pos (.inr (.inr (by rw [HK.out];exact hfit)))]
       have hd5:decide ((bs.length:Int)-(K:Int)<(sz:Int))=true:=decide_eq_true (by omega);clear hn1 hn2;have r0:=(S0.out.cell 0 rfl).cell 0;have r1:=(S0.out.cell 0 rfl).cell 1;have r2:=(S0.out.cell 0 rfl).cell 2;have rz:=fun o=>(S0.out.cell 0 rfl).frozen o;go_wp2_with fail
       have S9:=hid (((S0.out.setAt 0 rfl 0 (.int .u64 0)).setAt 0 rfl 1 (.int .i64 0)).setAt 0 rfl 2 (.slice none 0 0));have e0:=(S9.out.cell 0 rfl).cell 0;have e1:=(S9.out.cell 0 rfl).cell 1;have e2:=(S9.out.cell 0 rfl).cell 2;refine bodyPost_ret (v:=.tuple #[.agg #[.int .u64 0,.int .i64 0,.slice none 0 0],.int .i64 0,.int .i64 293]) (by simp [results,Tryz.results155,go_sem,e0,e1,e2,Result.andThen]) rfl ?_;exact .inr ⟨HN.out,293,by decide,rfl,S9.out.tail⟩
     have hd5:decide ((bs.length:Int)-(K:Int)<(sz:Int))=false:=decide_eq_false (by omega)
     obtain ⟨g,o,HAo⟩:∃ g o,A=some ⟨g,o,none⟩:=by
      cases A with
      | none=>
       have h1:=(S0.out.view (.tail _ (.tail _ HR.out)) HVV.out).1.1 rfl;omega
      | some ad=>
       obtain ⟨g,o,rfl,_⟩:=(S0.out.view (.tail _ (.tail _ HR.out)) HVV.out).1.2 ad rfl (by omega);exact ⟨g,o,rfl⟩
     subst HAo;have HVW:=hid ((S0.out.view (.tail _ (.tail _ HR.out)) HVV.out).1);obtain ⟨cs,HCS⟩:∃ x,Hid ((bs.drop K).take sz=x):=⟨_,rfl⟩;have HCL:Hid (cs.length=sz):=by rw [Hid, <- HCS.out,List.length_take,List.length_drop];omega
     have HSRC:Hid (RS w3 (some ⟨g,o+K,none⟩) cs):=by
      rw [Hid, <- HCS.out];exact HVW.out.sub K sz (by omega)
     have hKc:K+sz<=c:=by have:=HVV.out.2.1;omega
     have hKn:¬ c=K:=by omega
     have hbl:bs.length<=c:=HVV.out.2.1;clear hn1 hn2 HVW;go_upto_region 7 with fail
     have SN:Hid (SW b w0 (bufOb ⟨none,0,0⟩ []::cellOb gr 42 #[.int .u64 0,.int .i64 0,.slice none 0 0]::rowOb 42 3 (.slice D S.length dc) S.length (S.flatMap encCH)::l) w3):=SW.newBuT S0.out (Below.refl _ _) ⟨rfl,Nat.le_refl _,(fun _=>rfl),(fun ad e=>by cases e)⟩ (fun g hg=>by cases hg);go_wp2_with (at_builtin;refine halt_ ?_)
     refine wpList_bufS SN.out rfl (.const (.slice none 0 0)) (.tmp 62) rfl rfl (some ⟨g,o+K,none⟩) (K+sz-K) (c-K) cs (by rfl) (by rw [HCL.out];omega) HSRC.out.sb (by simp only [List.length_nil];omega) ?_;intro d w4 s4;have S4:=hid s4;have HRBd:Hid (RB w4 d cs):=S4.out.get 0 (o:=bufOb d cs) rfl;have HDL:Hid (cs.length=d.len):=HRBd.out.1;unfold vB;have S5:=hid (S4.out.newCell 42 #[.int .u64 (sm:Int),.int .i64 (sz:Int),.slice d.A d.len d.cap]);clear s4 SN S0 HRBd;go_upto_region 8 with fail
     obtain ⟨w5,HW⟩:∃ W,Hid (w4.alloc (.cells #[.int .u64 (sm:Int),.int .i64 (sz:Int),.slice d.A d.len d.cap] 42)=W):=⟨_,rfl⟩;obtain ⟨gc,HGC⟩:∃ x,Hid (w4.heap.size=x):=⟨_,rfl⟩;rw [HW.out,HGC.out] at S5;rw [HW.out,HGC.out];have HRB5:Hid (RB w5 d cs):=S5.out.get 1 (o:=bufOb d cs) rfl;have HRI:=hid (rRight_any (sm:Int) (sz:Int) ⟨d,cs⟩ w5 ⟨SB.rs HRB5.out.src,HRB5.out.1.symm,HRB5.out.2.1⟩ (by rw [HCL.out];omega));simp only [HDL.out] at HRI;have c0:=(S5.out.cell 0 rfl).cell 0;have c1:=(S5.out.cell 0 rfl).cell 1;have c2:=(S5.out.cell 0 rfl).cell 2;clear HW HGC S4;by_cases hok:fpOf cs=((sm:Int),(sz:Int))
     · have hokc:okCH (((sm:Int),(sz:Int)),⟨d,cs⟩)=true:=decide_eq_true ⟨by simp only;omega,by simp only;omega,hok⟩;rw [hokc] at HRI;have HOK:=hid hok;clear hok hokc;go_wp2_with (go_at_call 72;(with_reducible refine HRI.out.mono ?_);refine halt_ ?_)
       rintro e w6 ⟨rfl,hb6⟩;have S6:=hid (S5.out.on hb6);clear hb6 S5 HRI HRB5 c0 c1 c2;have c0:=(S6.out.cell 0 rfl).cell 0;have c1:=(S6.out.cell 0 rfl).cell 1;obtain ⟨tb,HTB⟩:∃ x,Hid ((rdLast S).any (fun x=>decide (0<=cmpID x ((sm:Int),(sz:Int))))=x):=⟨_,rfl⟩;go_upto_region 11 with fail
       go_cut [84] from 72 to 84 (fun s84 w'=>s84= .bool tb/\SW b w0 (cellOb gc 42 #[.int .u64 (sm:Int),.int .i64 (sz:Int),.slice d.A d.len d.cap]::bufOb d cs::cellOb gr 42 #[.int .u64 0,.int .i64 0,.slice none 0 0]::rowOb 42 3 (.slice D S.length dc) S.length (S.flatMap encCH)::l) w')
       case first=>
        by_cases hS0:S.length=0
        · have hd6:decide ((0:Int)<=(S.length:Int)-1)=false:=decide_eq_false (by omega);have hd7:decide ((1:Int)<=(S.length:Int))=false:=decide_eq_false (by omega);have hd8:decide (1<=S.length)=false:=decide_eq_false (by omega);have hd9:decide (0<S.length)=false:=decide_eq_false (by omega)
          have HTF:Hid (tb=false):=by
           rw [Hid, <- HTB.out,List.eq_nil_of_length_eq_zero hS0];rfl
          clear hS0;refine wp_region_ext (by kernel_rfl) (by kernel_rfl) ?_;repeat (go_big_quiet_step (fail))
          refine wpQuiet_nil ?_;intro w7 hb7;have S7:=hid (S6.out.on hb7);go_wp2_with fail
          go_meet;exact ⟨by rw [HTF.out],S7.out⟩
        have hd6:decide ((0:Int)<=(S.length:Int)-1)=true:=decide_eq_true (by omega);have hd7:decide ((1:Int)<=(S.length:Int))=true:=decide_eq_true (by omega);have hd8:decide (1<=S.length)=true:=decide_eq_true (by omega);have hd9:decide (0<S.length)=true:=decide_eq_true (by omega);obtain ⟨gD,d7,hD7⟩:=own_some (S6.out.get 3 rfl) hS0;injection hD7 with e1 e2 e3;subst e1;subst e3;clear e2;obtain ⟨⟨⟨p1,p2⟩,pe⟩,hpe⟩:∃ e,S.getD (S.length-1) ch0=e:=⟨_,rfl⟩;have hrow:w6.ownsRow 0 42 3 (.slice (some ⟨gD,0,none⟩) S.length dc) S.length (S.flatMap encCH):=S6.out.get 3 rfl
        have p0:w6.cell? ⟨gD,(S.length-1)*3,none⟩=some (.int .u64 p1):=by
         have h1:=hrow.cellAt ((S.length-1)*3) (by omega);rw [h1];have h2:=flat_at encCH_len ch0 S (S.length-1) 0 (by omega) (by omega);rw [Nat.add_zero,hpe] at h2;exact h2
        have p3:w6.cell? ⟨gD,(S.length-1)*3+1,none⟩=some (.int .i64 p2):=by
         have h1:=hrow.cellAt ((S.length-1)*3+1) (by omega);rw [h1];have h2:=flat_at encCH_len ch0 S (S.length-1) 1 (by omega) (by omega);rw [hpe] at h2;exact h2
        have ek:((S.length:Int)-1).toNat=S.length-1:=by omega
        have hl2:=(S6.out.cell 0 rfl).lt;have hl3:gD<w6.heap.size:=(hrow.lt gD rfl).2
        have hTB:decide (0<=cmpID (p1,p2) ((sm:Int),(sz:Int)))=tb:=by
         rw [<- HTB.out]
         have h1:S.getLast? =some ((p1,p2),pe):=by
          rw [List.getLast?_eq_getElem?, <- hpe,List.getD_eq_getElem?_getD,List.getElem?_eq_getElem (by omega)];rfl
         simp only [rdLast,h1,Option.map_some,Option.any_some]
        obtain ⟨v,HVV2⟩:∃ v,Hid (ltID (p1,p2) ((sm:Int),(sz:Int))=v):=⟨_,rfl⟩
        have HTV:Hid ((!v)=tb):=by
         rw [Hid, <- hTB, <- HVV2.out];cases hc:ltID (p1,p2) ((sm:Int),(sz:Int)) with
         | true=>
          have:=cmpID_lt hc;rw [decide_eq_false (by omega)];rfl
         | false=>
          have:=cmpID_ge hc;rw [decide_eq_true (by omega)];rfl
        have HCM:=hid (fun W=>Less_any p1 p2 (sm:Int) (sz:Int) W);rw [HVV2.out] at HCM;clear hpe hrow hTB;refine wp_region_ext (by kernel_rfl) (by kernel_rfl) ?_;repeat (go_big_quiet_step ((go_at_call 71;exact ext_call (HCM.out _))))
        refine wpQuiet_nil ?_;intro w7 hb7;have S7:=hid (S6.out.on hb7);go_wp2_with fail
        go_meet;exact ⟨by rw [<- HTV.out],S7.out⟩
       obtain ⟨rfl,hs⟩:=hcut;have S7:=hid hs;clear hs S6 c0 c1;cases tb with
       | true=>
        have HN:Hid (frP bs k (rdLast S)=none):=by rw [Hid,frP,HT1.out];simp only;rw [HT2.out];simp only;rw [HK.out,HCS.out,if_neg (by omega),if_neg (by rw [HOK.out];simp),if_pos HTB.out]
        have r0:=(S7.out.cell 2 rfl).cell 0;have r1:=(S7.out.cell 2 rfl).cell 1;have r2:=(S7.out.cell 2 rfl).cell 2;have rz:=fun o=>(S7.out.cell 2 rfl).frozen o;go_wp2_with fail
        have S9:=hid (((S7.out.setAt 2 rfl 0 (.int .u64 0)).setAt 2 rfl 1 (.int .i64 0)).setAt 2 rfl 2 (.slice none 0 0));have e0:=(S9.out.cell 2 rfl).cell 0;have e1:=(S9.out.cell 2 rfl).cell 1;have e2:=(S9.out.cell 2 rfl).cell 2;refine bodyPost_ret (v:=.tuple #[.agg #[.int .u64 0,.int .i64 0,.slice none 0 0],.int .i64 0,.int .i64 291]) (by simp [results,Tryz.results155,go_sem,e0,e1,e2,Result.andThen]) rfl ?_;exact .inr ⟨HN.out,291,by decide,rfl,S9.out.tail.tail.tail⟩
       | false=>
        have HY:Hid (frP bs k (rdLast S)=some (((((sm:Int),(sz:Int)):ID),cs),K+sz)):=by rw [Hid,frP,HT1.out];simp only;rw [HT2.out];simp only;rw [HK.out,HCS.out,if_neg (by omega),if_neg (by rw [HOK.out];simp),if_neg (by rw [HTB.out];simp)]
        have r0:=(S7.out.cell 2 rfl).cell 0;have r1:=(S7.out.cell 2 rfl).cell 1;have r2:=(S7.out.cell 2 rfl).cell 2;have rz:=fun o=>(S7.out.cell 2 rfl).frozen o;have c0:=(S7.out.cell 0 rfl).cell 0;have c1:=(S7.out.cell 0 rfl).cell 1;have c2:=(S7.out.cell 0 rfl).cell 2;have S9:=hid (((S7.out.setAt 2 rfl 0 (.int .u64 (sm:Int))).setAt 2 rfl 1 (.int .i64 (sz:Int))).setAt 2 rfl 2 (.slice d.A d.len d.cap));have e0:=(S9.out.cell 2 rfl).cell 0;have e1:=(S9.out.cell 2 rfl).cell 1;have e2:=(S9.out.cell 2 rfl).cell 2;have SL:Hid (SW b w0 (bufOb d cs::rowOb 42 3 (.slice D S.length dc) S.length (S.flatMap encCH)::l) _):=SW.sub S9.out (.cons _ (.cons_cons _ (.cons _ (.cons_cons _ (List.Sublist.refl _)))));clear S7 S9;go_wp2_with fail
        refine bodyPost_ret (v:=.tuple #[.agg #[.int .u64 (sm:Int),.int .i64 (sz:Int),.slice d.A d.len d.cap],.int .i64 ((K:Int)+(sz:Int)),.int .i64 0]) (by simp [results,Tryz.results155,go_sem,e0,e1,e2,Result.andThen]) rfl ?_;exact .inl ⟨sm,sz,cs,K+sz,d,HY.out,by omega,by omega,by have:=okID_fp cs (by rw [HCL.out];omega);rw [HOK.out] at this;exact this,by rw [Int.natCast_add];rfl,SL.out⟩
     have hokc:okCH (((sm:Int),(sz:Int)),⟨d,cs⟩)=false:=decide_eq_false (fun h=>hok h.2.2);have HN:Hid (frP bs k (rdLast S)=none):=by rw [Hid,frP,HT1.out];simp only;rw [HT2.out];simp only;rw [HK.out,HCS.out,if_neg (by omega),if_pos hok]
     rw [hokc] at HRI;clear hok hokc;go_wp2_with (go_at_call 72;(with_reducible refine HRI.out.mono ?_);refine halt_ ?_)
     rintro e w6 ⟨rfl,hb6⟩;have S6:=hid (S5.out.on hb6);clear hb6 S5 HRI HRB5 c0 c1 c2;have r0:=(S6.out.cell 2 rfl).cell 0;have r1:=(S6.out.cell 2 rfl).cell 1;have r2:=(S6.out.cell 2 rfl).cell 2;have rz:=fun o=>(S6.out.cell 2 rfl).frozen o;go_wp2_with fail
     have S9:=hid (((S6.out.setAt 2 rfl 0 (.int .u64 0)).setAt 2 rfl 1 (.int .i64 0)).setAt 2 rfl 2 (.slice none 0 0));have e0:=(S9.out.cell 2 rfl).cell 0;have e1:=(S9.out.cell 2 rfl).cell 1;have e2:=(S9.out.cell 2 rfl).cell 2;refine bodyPost_ret (v:=.tuple #[.agg #[.int .u64 0,.int .i64 0,.slice none 0 0],.int .i64 0,.int .i64 290]) (by simp [results,Tryz.results155,go_sem,e0,e1,e2,Result.andThen]) rfl ?_;exact .inr ⟨HN.out,290,by decide,rfl,S9.out.tail.tail.tail⟩
   have hqn:(q !=0)=true:=by rw [bne_iff_ne];exact hq
   have HN:Hid (frP bs k (rdLast S)=none):=by rw [Hid,frP,HT1.out];simp only;rw [HK1.out,ht]
   clear ht hq HT2C hn1;have r0:=(S0.out.cell 0 rfl).cell 0;have r1:=(S0.out.cell 0 rfl).cell 1;have r2:=(S0.out.cell 0 rfl).cell 2;have rz:=fun o=>(S0.out.cell 0 rfl).frozen o;go_wp2_with fail
   have S9:=hid (((S0.out.setAt 0 rfl 0 (.int .u64 0)).setAt 0 rfl 1 (.int .i64 0)).setAt 0 rfl 2 (.slice none 0 0));have e0:=(S9.out.cell 0 rfl).cell 0;have e1:=(S9.out.cell 0 rfl).cell 1;have e2:=(S9.out.cell 0 rfl).cell 2;refine bodyPost_ret (v:=.tuple #[.agg #[.int .u64 0,.int .i64 0,.slice none 0 0],.int .i64 0,.int .i64 293]) (by simp [results,Tryz.results155,go_sem,e0,e1,e2,Result.andThen]) rfl ?_;exact .inr ⟨HN.out,293,by decide,rfl,S9.out.tail⟩
 have hqn:(q !=0)=true:=by rw [bne_iff_ne];exact hq
 have HN:Hid (frP bs k (rdLast S)=none):=by rw [Hid,frP,ht]
 clear ht hq HT1;have r0:=(S0.out.cell 0 rfl).cell 0;have r1:=(S0.out.cell 0 rfl).cell 1;have r2:=(S0.out.cell 0 rfl).cell 2;have rz:=fun o=>(S0.out.cell 0 rfl).frozen o;go_wp2_with fail
 have S9:=hid (((S0.out.setAt 0 rfl 0 (.int .u64 0)).setAt 0 rfl 1 (.int .i64 0)).setAt 0 rfl 2 (.slice none 0 0));have e0:=(S9.out.cell 0 rfl).cell 0;have e1:=(S9.out.cell 0 rfl).cell 1;have e2:=(S9.out.cell 0 rfl).cell 2;refine bodyPost_ret (v:=.tuple #[.agg #[.int .u64 0,.int .i64 0,.slice none 0 0],.int .i64 0,.int .i64 293]) (by simp [results,Tryz.results155,go_sem,e0,e1,e2,Result.andThen]) rfl ?_;exact .inr ⟨HN.out,293,by decide,rfl,S9.out.tail⟩
end
end Go.Proofs.YtmiknfneeipkeaaGreat
namespace Go.Proofs.YtmiknfneeipkeaaGreat
open Go.RowKit Go.MapKept Go.ChangeMaps Go.Shelf Go.Sort
attribute [local go_sem] wext_cell
theorem pre_four (M bs:List UInt8) (hM:M.length=4):(List.take 4 bs==M)=decide (M <+: bs):=by
 by_cases h:M <+: bs
 · rw [decide_eq_true h,beq_iff_eq];have:=List.prefix_iff_eq_take.1 h;rw [hM] at this;exact this.symm
 rw [decide_eq_false h,beq_eq_false_iff_ne];exact fun e=>h (by rw [<- e];exact List.take_prefix _ _)
set_option maxRecDepth 100000 in
set_option maxHeartbeats 4000000 in
theorem rBegins_any (A:Option Addr) (c:Nat) (bs:List UInt8) (w:World) (h:Vw w A c bs):Calls Tryz.prog 153 #[.slice A bs.length c] w (fun e w'=>e= .returned (.bool (decide (packM <+: bs)))/\w'=w):=by
 have H:=hid h;have hl:=h.2.2.2;have hc:=h.2.2.1;clear h;by_cases h4:4<=bs.length
 · have hd:decide ((4:Int)<=(bs.length:Int))=true:=decide_eq_true (by omega);have hd2:decide (4<=bs.length)=true:=decide_eq_true (by omega);have h4c:4<=c:=by omega
   have HV:=hid (H.out.take 4 h4);have HC:=hid (conv_str (HV.out.1.sb) 4 c (by rw [List.length_take];omega));have hcv:(convert 40 9 (.slice A 4 c)).run Tryz.prog w= .ok (.string ⟨(bs.take 4).toArray⟩) w:=HC.out;go_enter Tryz.func153,Tryz.ntmps153;go_wp2_with fail
   go_ret;exact ⟨by rw [<- pre_four packM bs rfl];rfl,rfl⟩
 have hd:decide ((4:Int)<=(bs.length:Int))=false:=decide_eq_false (by omega);have hd2:decide (4<=bs.length)=false:=decide_eq_false (by omega)
 have HN:Hid (decide (packM <+: bs)=false):=decide_eq_false (fun h=>by
  have:=h.length_le;have e:packM.length=4:=rfl;omega)
 go_enter Tryz.func153,Tryz.ntmps153;go_wp2_with fail
 go_ret;exact ⟨by rw [HN.out];rfl,rfl⟩
def salP (bs:List UInt8):Nat->Nat->List PC->List PC×Nat
 | 0,k,acc=>(acc,k)
 | f+1,k,acc=>if k<bs.length/\bs.getD k 0=1 then match frP bs (k+1) (acc.getLast?.map (·.1)) with
  | some (c,j)=>salP bs f j (acc++[c])
  | none=>(acc,k)
  else (acc,k)
theorem frP_lt {bs:List UInt8} {k:Nat} {last:Option ID} {c:PC} {j:Nat} (h:frP bs k last=some (c,j)):k<j:=by
 rw [frP] at h;split at h
 · cases h
 rename_i sz n1 h1
 have:=takeU_le _ _ _ _ _ h1;split at h
 · cases h
 split at h
 · cases h
 split at h
 · cases h
 split at h
 · cases h
 injection h with h;injection h with _ h;omega
theorem salP_frs (bs:List UInt8):∀ (f k:Nat) (acc:List PC),bs.length<k+f->frsP bs f k acc=(if (salP bs f k acc).2<bs.length/\bs.getD (salP bs f k acc).2 0=0 then some ((salP bs f k acc).1,(salP bs f k acc).2+1) else none)/\((salP bs f k acc).2<bs.length->bs.getD (salP bs f k acc).2 0=1->frP bs ((salP bs f k acc).2+1) ((salP bs f k acc).1.getLast?.map (·.1))=none):=by
 intro f;induction f with
 | zero=>
  intro k acc hf;have e:salP bs 0 k acc=(acc,k):=rfl;rw [e,frsP];exact ⟨by rw [if_neg (by simp only;omega)],fun h=>by simp only at h;omega⟩
 | succ f ih=>
  intro k acc hf;by_cases hk:bs.length<=k
  · have e:salP bs (f+1) k acc=(acc,k):=by rw [salP,if_neg (by omega)]
    rw [e,frsP,if_pos hk];exact ⟨by rw [if_neg (by simp only;omega)],fun h=>by simp only at h;omega⟩
  by_cases h0:bs.getD k 0=0
  · have e:salP bs (f+1) k acc=(acc,k):=by rw [salP,if_neg (by rw [h0];rintro ⟨_,h⟩;cases h)]
    rw [e,frsP,if_neg hk,if_pos h0];exact ⟨by rw [if_pos ⟨by simp only;omega,h0⟩],fun _ h=>by simp only at h;rw [h0] at h;cases h⟩
  by_cases h1:bs.getD k 0=1
  · cases hfr:frP bs (k+1) (acc.getLast?.map (·.1)) with
    | some p=>
     obtain ⟨c,j⟩:=p;have:=frP_lt hfr;have e:salP bs (f+1) k acc=salP bs f j (acc++[c]):=by rw [salP,if_pos ⟨by omega,h1⟩,hfr]
     rw [e,frsP,if_neg hk,if_neg h0,if_pos h1,hfr];exact ih j (acc++[c]) (by omega)
    | none=>
     have e:salP bs (f+1) k acc=(acc,k):=by rw [salP,if_pos ⟨by omega,h1⟩,hfr]
     rw [e,frsP,if_neg hk,if_neg h0,if_pos h1,hfr];exact ⟨by rw [if_neg (by rintro ⟨_,h⟩;exact h0 h)],fun _ _=>rfl⟩
  have e:salP bs (f+1) k acc=(acc,k):=by rw [salP,if_neg (by rintro ⟨_,h⟩;exact h1 h)]
  rw [e,frsP,if_neg hk,if_neg h0,if_neg h1];exact ⟨by rw [if_neg (by rintro ⟨_,h⟩;exact h0 h)],fun _ h=>absurd h h1⟩
section
variable {b:Nat} {w0 w w':World} {l:List Ob}
abbrev SalPP (bs:List UInt8) (b:Nat) (w0:World) (l:List Ob) (e:Ending) (w':World):Prop:=
 (∃ (S:List CH) (D:Option Addr) (dc k:Nat),salP bs (bs.length+1) 4 []=(pcs S,k)/\4<=k/\k<=bs.length/\S.length<=k/\(∀ x∈S,okID x.1)/\e= .returned (.tuple #[.slice D S.length dc,.int .i64 (k:Int)])/\SW b w0 (rowOb 42 3 (.slice D S.length dc) S.length (S.flatMap encCH)::bsOb S::l) w')
set_option maxRecDepth 100000 in
set_option maxHeartbeats 8000000 in
theorem rSalvage_any (h:SW b w0 l w) {A:Option Addr} {c:Nat} {bs:List UInt8} (hr:rsOb A bs∈l) (hv:(A=none->c=0)/\bs.length<=c/\bs.length<=9223372036854775807) (hp:packM <+: bs) (hb:bs.length<=1048576):
 Calls Tryz.prog 154 #[.slice A bs.length c] w (SalPP bs b w0 l):=by
 have S0:Hid (SW b w0 (rowOb 42 3 (.slice none 0 0) 0 []::bsOb []::l) w):=by
  have h1:SW b w0 (bsOb []::rowOb 42 3 (.slice none 0 0) 0 []::l) w:=SW.bufsBs (SW.noBufs (h.newRow 42 3)) (fun e he=>by cases he);exact SW.front (pre:=[_,_]) h1 [1,0] (n:=2) rfl (by decide)
 have HR:=hid hr;have HVV:=hid hv
 have h4:4<=bs.length:=by
  have:=hp.length_le;have e:packM.length=4:=rfl;omega
 have HBG:=hid (rBegins_any A c bs w (h.view hr hv));rw [decide_eq_true hp] at HBG;obtain ⟨i1,gi,gz0,gz1,gz2⟩:=info_parts info42;clear h hr hv hp;go_enter Tryz.func154,Tryz.ntmps154;go_wp2_with (go_at_call 153;(with_reducible refine HBG.out.mono ?_);refine halt_ ?_)
 rintro e w1 ⟨rfl,rfl⟩;clear HBG;go_wp2_with fail
 go_loopw [4,5] (fun s4 s5 wr=>∃ (f k:Nat) (S:List CH) (D:Option Addr) (dc:Nat),bs.length<k+f/\4<=k/\k<=bs.length/\S.length<=k/\s4= .slice D S.length dc/\s5= .int .i64 (k:Int)/\Hid (∀ x∈S,okID x.1)/\Hid (salP bs (bs.length+1) 4 []=salP bs f k (pcs S))/\SW b w0 (rowOb 42 3 (.slice D S.length dc) S.length (S.flatMap encCH)::bsOb S::l) wr) (fun _ s5 _=>bs.length-(intOf s5).toNat)
 case atStart=>exact ⟨bs.length+1,4,[],none,0,by omega,Nat.le_refl _,h4,by simp,rfl,rfl,(fun x hx=>by cases hx),rfl,S0.out⟩
 obtain ⟨f,k,S,D,dc,hf,hk4,hk,hSk,rfl,rfl,HOK,HF,hs⟩:=hrel;have S1:=hid hs;clear hs S0;by_cases hlt:k<bs.length
 · obtain ⟨g,o,HAo⟩:∃ g o,A=some ⟨g,o,none⟩:=by
    cases A with
    | none=>
     have h1:=(S1.out.view (.tail _ (.tail _ HR.out)) HVV.out).1.1 rfl;omega
    | some ad=>
     obtain ⟨g,o,rfl,_⟩:=(S1.out.view (.tail _ (.tail _ HR.out)) HVV.out).1.2 ad rfl (by omega);exact ⟨g,o,rfl⟩
   subst HAo;obtain ⟨x,HX⟩:∃ x,Hid (bs.getD k 0=x):=⟨_,rfl⟩;obtain ⟨y,HY⟩:∃ y,Hid (x.toNat=y):=⟨_,rfl⟩
   have hcl:wr.cell? ⟨g,o+k,none⟩=some (.int .u8 ((y:Nat):Int)):=by
    obtain ⟨g',o',e1,hc⟩:=(S1.out.view (.tail _ (.tail _ HR.out)) HVV.out).1.2 _ rfl (by omega);injection e1 with e1 e2;subst e1;subst e2;have:=hc k hlt;rw [HX.out] at this;rw [this, <- HY.out];rfl
   obtain ⟨f,rfl⟩:∃ f',f=f'+1:=⟨f-1,by omega⟩
   have HSA:Hid (salP bs (f+1) k (pcs S)=if k<bs.length/\x=1 then match frP bs (k+1) (rdLast S) with
    | some (c,j)=>salP bs f j (pcs S++[c])
    | none=>(pcs S,k)
    else (pcs S,k)):=by rw [Hid,salP,HX.out,pcs_last]
   by_cases hy:y=1
   · have hx1:x=1:=UInt8.toNat_inj.1 (by rw [HY.out,hy];rfl);subst hy;have HFR:=hid (rFrm_any (k1:=k) (k:=k+1) S1.out (.tail _ HR.out) HVV.out rfl (by omega) hb (by omega));clear HX HY;go_wp2_with (go_at_call 155;(with_reducible refine HFR.out.mono ?_);refine halt_ ?_)
     rintro e w2 (⟨sm,sz,cs,k',d,hfr,hk1,hk2,hok,rfl,t2⟩ | ⟨hfr,q,hq,rfl,t2⟩)
     · have hbd:RB w2 d cs:=t2.get 0 (o:=bufOb d cs) rfl;have HDL:Hid (cs.length=d.len):=hbd.1;have S2:=hid ((t2.newCell 42 #[.int .u64 (sm:Int),.int .i64 (sz:Int),.slice d.A d.len d.cap]));have S3:Hid (SW b w0 (bsOb (S++[(((sm:Int),(sz:Int)),(⟨d,cs⟩:BS))])::rowOb 42 3 (.slice D S.length dc) S.length (S.flatMap encCH)::cellOb w2.heap.size 42 #[.int .u64 (sm:Int),.int .i64 (sz:Int),.slice d.A d.len d.cap]::l) _):=SW.bsSnoc (SW.front (pre:=[_,_,_,_]) S2.out [1,3,2,0] (n:=4) rfl (by decide)) _
       have HNX:Hid (salP bs (bs.length+1) 4 []=salP bs f k' (pcs (S++[(((sm:Int),(sz:Int)),(⟨d,cs⟩:BS))]))):=by
        rw [Hid,HF.out,HSA.out,if_pos ⟨hlt,hx1⟩,hfr,pcs_snoc]
       have HOK2:Hid (∀ x∈S++[(((sm:Int),(sz:Int)),(⟨d,cs⟩:BS))],okID x.1):=fun x hx=>by
        rcases List.mem_append.1 hx with h | h
        · exact HOK.out x h
        rw [List.mem_singleton.1 h];exact hok
       clear hfr t2 S1 HFR S2 hx1 hok hbd HF HSA HOK;unfold vB;go_upto_region 8 with fail
       obtain ⟨w3,HW⟩:∃ W,Hid (w2.alloc (.cells #[.int .u64 (sm:Int),.int .i64 (sz:Int),.slice d.A d.len d.cap] 42)=W):=⟨_,rfl⟩;obtain ⟨gc,HGC⟩:∃ x,Hid (w2.heap.size=x):=⟨_,rfl⟩;rw [HW.out,HGC.out] at S3;rw [HW.out,HGC.out];have c0:=(S3.out.cell 2 rfl).cell 0;have c1:=(S3.out.cell 2 rfl).cell 1;have c2:=(S3.out.cell 2 rfl).cell 2;have S4:=hid (S3.out.newCell 42 #[.int .u64 (sm:Int),.int .i64 (sz:Int),.slice d.A d.len d.cap]);clear HW HGC;go_wp2_with (at_builtin;(refine wpList_rowS (t:=23) (e:=42) (size:=3) (bytes:=40) (i:=i1) S4.out 2 rfl (by rfl) (.tmp 33) (.tmp 35) (by rfl) Tryz.underlying23 gi gz0 gz1 gz2 rfl (by omega) (by rfl) ⟨w3.heap.size,0,none⟩ 1 [.int .u64 (sm:Int),.int .i64 (sz:Int),.slice d.A d.len d.cap] (by rfl) rfl (mthree_new _ _ _ _ _ _ rfl) (by have:=encCH_one (((sm:Int),(sz:Int)),(⟨d,cs⟩:BS));simp only [encCH,vBS,HDL.out] at this;exact this) (by unfold maxLen;omega) (by omega) ?_);refine halt_ ?_)
       intro v8 w8 s8;obtain ⟨g8,c8,rfl⟩:=own_some (s8.get 2 rfl) (by omega);have HLN:Hid ((S++[(((sm:Int),(sz:Int)),(⟨d,cs⟩:BS))]).length=S.length+1):=by rw [Hid,List.length_append];rfl
       have S8:Hid (SW b w0 (rowOb 42 3 (.slice (some ⟨g8,0,none⟩) (S++[(((sm:Int),(sz:Int)),(⟨d,cs⟩:BS))]).length c8) (S++[(((sm:Int),(sz:Int)),(⟨d,cs⟩:BS))]).length ((S++[(((sm:Int),(sz:Int)),(⟨d,cs⟩:BS))]).flatMap encCH)::bsOb (S++[(((sm:Int),(sz:Int)),(⟨d,cs⟩:BS))])::l) w8):=by
        rw [Hid,HLN.out,List.flatMap_append];simp only [List.flatMap_cons,List.flatMap_nil,List.append_nil,encCH,vBS,HDL.out];exact SW.few (pre:=[_,_,_,_]) s8 [2,1] (n:=4) rfl (by decide) (by decide)
       clear s8 S3 S4 c0 c1 c2;go_wp2_with fail
       go_roundw
       case rel=>exact ⟨f,k',S++[(((sm:Int),(sz:Int)),(⟨d,cs⟩:BS))],some ⟨g8,0,none⟩,c8,by omega,by omega,hk2,by rw [HLN.out];omega,by rw [HLN.out],rfl,HOK2,HNX,S8.out⟩
       simp [intOf];omega
     have hqn:(q !=0)=true:=by rw [bne_iff_ne];exact hq
     have HE:Hid (salP bs (bs.length+1) 4 []=(pcs S,k)):=by rw [Hid,HF.out,HSA.out,if_pos ⟨hlt,hx1⟩,hfr]
     have S2:=hid (t2.newCell 42 #[.int .u64 0,.int .i64 0,.slice none 0 0]);clear hfr hq t2 S1 HFR hx1;go_wp2_with fail
     go_ret2;exact ⟨S,D,dc,k,HE.out,hk4,hk,hSk,HOK.out,rfl,S2.out.tail⟩
   have hyb:((y:Int)==1)=false:=by rw [beq_eq_false_iff_ne];omega
   have hyb2:(y==1)=false:=by rw [beq_eq_false_iff_ne];omega
   have HE:Hid (salP bs (bs.length+1) 4 []=(pcs S,k)):=by
    rw [Hid,HF.out,HSA.out,if_neg];rintro ⟨_,h⟩;exact hy (by rw [<- HY.out,h];rfl)
   clear hy;go_wp2_with fail
   go_ret2;exact ⟨S,D,dc,k,HE.out,hk4,hk,hSk,HOK.out,rfl,S1.out⟩
 obtain rfl:k=bs.length:=by omega
 have HE:Hid (salP bs (bs.length+1) 4 []=(pcs S,bs.length)):=by
  rw [Hid,HF.out];cases f with
  | zero=>rfl
  | succ f=>rw [salP,if_neg (by omega)]
 go_wp2_with fail
 go_ret2;exact ⟨S,D,dc,bs.length,HE.out,hk4,hk,hSk,HOK.out,rfl,S1.out⟩
end
end Go.Proofs.YtmiknfneeipkeaaGreat
namespace Go.Proofs.YtmiknfneeipkeaaGreat
open Go.RowKit Go.MapKept Go.ChangeMaps Go.Shelf Go.Sort
attribute [local go_sem] wext_cell
section
variable {b:Nat} {w0 w w':World} {l:List Ob}
set_option maxRecDepth 100000 in
set_option maxHeartbeats 16000000 in
theorem rPackDec_any (h:SW b w0 l w) {A:Option Addr} {c:Nat} {bs:List UInt8} (hr:rsOb A bs∈l) (hv:(A=none->c=0)/\bs.length<=c/\bs.length<=9223372036854775807):
 Calls Tryz.prog 118 #[.slice A bs.length c] w (DecPP bs b w0 l):=by
 have S0:=hid h;have HR:=hid hr;have HVV:=hid hv;clear h hr hv;by_cases hb:1048576<bs.length
 · have HN:Hid (decP bs=none):=by rw [Hid,decP,if_pos hb]
   have hd1:decide ((1048576:Int)<(bs.length:Int))=true:=decide_eq_true (by omega);have hd2:decide (1048576<bs.length)=true:=decide_eq_true hb;go_enter Tryz.func118,Tryz.ntmps118;go_wp2_with fail
   go_ret2;exact .inr ⟨HN.out,⟨_,292,by decide,rfl⟩,S0.out⟩
 have hd1:decide ((1048576:Int)<(bs.length:Int))=false:=decide_eq_false (by omega);have hd2:decide (1048576<bs.length)=false:=decide_eq_false hb;have HBG:=hid (rBegins_any A c bs w (S0.out.view HR.out HVV.out));by_cases hp:packM <+: bs
 · rw [decide_eq_true hp] at HBG;have HP:=hid hp;have HSV:=hid (rSalvage_any S0.out HR.out HVV.out hp (by omega));clear hp;go_enter Tryz.func118,Tryz.ntmps118;go_wp2_with (go_at_call 153;(with_reducible refine HBG.out.mono ?_);refine halt_ ?_)
   rintro e w1 ⟨rfl,rfl⟩;go_wp2_with (go_at_call 154;(with_reducible refine HSV.out.mono ?_);refine halt_ ?_)
   rintro e w2 ⟨S,D,dc,k,hsl,hk4,hk,hSk,hok,rfl,t2⟩;obtain ⟨g1,g2⟩:=salP_frs bs (bs.length+1) 4 [] (by omega);rw [hsl] at g1 g2;simp only at g1 g2;have HOK:=hid hok;have S2:=hid t2
   have HDC:Hid (decP bs=if k<bs.length/\bs.getD k 0=0 then (if endP bs (k+1) S.length=true then some (pcs S) else none) else none):=by
    rw [Hid,decP,if_neg hb,if_pos HP.out,g1];by_cases hc:k<bs.length/\bs.getD k 0=0
    · rw [if_pos hc,if_pos hc];simp only;rw [pcs_len]
    rw [if_neg hc,if_neg hc]
   have HG2:=hid g2;clear g1 g2 hsl hok t2 HSV HBG S0 hd1 hd2;by_cases hlt:k<bs.length
   · obtain ⟨g,o,HAo⟩:∃ g o,A=some ⟨g,o,none⟩:=by
      cases A with
      | none=>
       have h1:=(S2.out.view (.tail _ (.tail _ HR.out)) HVV.out).1.1 rfl;omega
      | some ad=>
       obtain ⟨g,o,rfl,_⟩:=(S2.out.view (.tail _ (.tail _ HR.out)) HVV.out).1.2 ad rfl (by omega);exact ⟨g,o,rfl⟩
     subst HAo;obtain ⟨x,HX⟩:∃ x,Hid (bs.getD k 0=x):=⟨_,rfl⟩;obtain ⟨y,HY⟩:∃ y,Hid (x.toNat=y):=⟨_,rfl⟩
     have hcl:w2.cell? ⟨g,o+k,none⟩=some (.int .u8 ((y:Nat):Int)):=by
      obtain ⟨g',o',e1,hc⟩:=(S2.out.view (.tail _ (.tail _ HR.out)) HVV.out).1.2 _ rfl (by omega);injection e1 with e1 e2;subst e1;subst e2;have:=hc k hlt;rw [HX.out] at this;rw [this, <- HY.out];rfl
     have hke:((k:Int)==(bs.length:Int))=false:=by rw [beq_eq_false_iff_ne];omega
     have hke2:(k==bs.length)=false:=by rw [beq_eq_false_iff_ne];omega
     by_cases hy0:y=0
     · have hx0:x=0:=UInt8.toNat_inj.1 (by rw [HY.out,hy0];rfl)
       have HD2:Hid (decP bs=if endP bs (k+1) S.length=true then some (pcs S) else none):=by
        rw [Hid,HDC.out,HX.out,if_pos ⟨hlt,hx0⟩]
       subst hy0;simp only [Int.natCast_zero] at hcl;clear hx0 HX HY HDC HG2;obtain ⟨k1,HK1⟩:∃ x,Hid (k+1=x):=⟨_,rfl⟩;have hk1:k1<=bs.length:=by have:=HK1.out;omega
       have HZ1:Hid ((k:Int)+1=(k1:Int)):=by have:=HK1.out;rw [Hid];omega
       rw [HK1.out] at HD2
       have HT1:Hid (Calls Tryz.prog 116 #[.slice (some ⟨g,o,none⟩) bs.length c,.int .i64 ((k:Int)+1)] w2 (UintP bs k1 w2)):=by
        rw [Hid,HZ1.out];exact rTake_any _ c bs k1 w2 (S2.out.view (.tail _ (.tail _ HR.out)) HVV.out) hk1
       go_wp2_with (go_at_call 116;(with_reducible refine HT1.out.mono ?_);refine halt_ ?_)
       rintro e w3 ⟨rfl,⟨cnt,n1,ht,rfl⟩ | ⟨ht,q,hq,rfl⟩⟩
       · have hnl:=takeU_le _ _ _ _ _ ht;rw [List.length_drop] at hnl;have hc64:=takeU_lt _ _ _ _ _ (by omega) (by decide) ht;clear HT1;have HT1:=hid ht;clear ht;obtain ⟨k2,HK2⟩:∃ x,Hid (k1+n1=x):=⟨_,rfl⟩;have hk2:k2<=bs.length:=by have:=HK2.out;omega
         rw [HK2.out];clear hnl;have HT2C:=hid (rTake_any _ c bs k2 w3 (S2.out.view (.tail _ (.tail _ HR.out)) HVV.out) hk2);go_wp2_with (go_at_call 116;(with_reducible refine HT2C.out.mono ?_);refine halt_ ?_)
         rintro e w4 ⟨rfl,⟨sm,n2,ht,rfl⟩ | ⟨ht,q,hq,rfl⟩⟩
         · have hnl:=takeU_le _ _ _ _ _ ht;rw [List.length_drop] at hnl;have hs64:=takeU_lt _ _ _ _ _ (by omega) (by decide) ht;obtain ⟨k3,HK3⟩:∃ x,Hid (k2+n2=x):=⟨_,rfl⟩;have hk3:k3<=bs.length:=by have:=HK3.out;omega
           have HEP:Hid (endP bs k1 S.length=decide (cnt=S.length/\k3=bs.length/\sm=fpSum (bs.take k2))):=by
            rw [Hid,endP,HT1.out];simp only;rw [HK2.out,ht];simp only;rw [HK3.out]
           rw [HK3.out];clear hnl ht HT2C HT1;have hSw:S.length<=1048576:=by omega
           by_cases hcn:cnt=S.length
           · have hd3:((cnt:Int) !=(S.length:Int))=false:=by rw [bne_eq_false_iff_eq];omega
             have hd4:(cnt !=S.length)=false:=by rw [bne_eq_false_iff_eq];exact hcn
             have HCN:=hid hcn;clear hcn;by_cases hke3:k3=bs.length
             · have hd5:((k3:Int) !=(bs.length:Int))=false:=by rw [bne_eq_false_iff_eq];omega
               have hd6:(k3 !=bs.length)=false:=by rw [bne_eq_false_iff_eq];exact hke3
               have HKE:=hid hke3;clear hke3;have hk2c:k2<=c:=by have:=HVV.out.2.1;omega
               have HTL:Hid ((bs.take k2).length=k2):=by rw [Hid,List.length_take];omega
               have HSM:=hid (rSum_any _ c (bs.take k2) w4 ((S2.out.view (.tail _ (.tail _ HR.out)) HVV.out).take k2 hk2).1 (by rw [HTL.out];omega));rw [HTL.out] at HSM;obtain ⟨sm2,HS2⟩:∃ x,Hid (fpSum (bs.take k2)=x):=⟨_,rfl⟩;rw [HS2.out] at HSM HEP;go_wp2_with (go_at_call 73;(with_reducible refine HSM.out.mono ?_);refine halt_ ?_)
               rintro e w5 ⟨rfl,hb5⟩;have S5:=hid (S2.out.on hb5);clear hb5 S2 HSM;by_cases hse:sm=sm2
               · subst hse
                 have HYS:Hid (decP bs=some (pcs S)):=by
                  rw [Hid,HD2.out,HEP.out,if_pos (decide_eq_true ⟨HCN.out,HKE.out,rfl⟩)]
                 go_wp2_with fail
                 go_ret2;exact .inl ⟨S,D,dc,HYS.out,HOK.out,by omega,rfl,S5.out⟩
               have HN:Hid (decP bs=none):=by
                rw [Hid,HD2.out,HEP.out,if_neg];rw [decide_eq_true_iff];exact fun h=>hse h.2.2
               have hd7:((sm:Int) !=(sm2:Int))=true:=by rw [bne_iff_ne];omega
               have hd7n:(sm !=sm2)=true:=by rw [bne_iff_ne];exact hse
               clear hse;go_wp2_with fail
               go_ret2;exact .inr ⟨HN.out,⟨_,294,by decide,rfl⟩,S5.out.tail.tail⟩
             have hd5:((k3:Int) !=(bs.length:Int))=true:=by rw [bne_iff_ne];omega
             have hd6:(k3 !=bs.length)=true:=by rw [bne_iff_ne];exact hke3
             have HN:Hid (decP bs=none):=by
              rw [Hid,HD2.out,HEP.out,if_neg];rw [decide_eq_true_iff];exact fun h=>hke3 h.2.1
             clear hke3;go_wp2_with fail
             go_ret2;exact .inr ⟨HN.out,⟨_,293,by decide,rfl⟩,S2.out.tail.tail⟩
           have hd3:((cnt:Int) !=(S.length:Int))=true:=by rw [bne_iff_ne];omega
           have hd4:(cnt !=S.length)=true:=by rw [bne_iff_ne];exact hcn
           have HN:Hid (decP bs=none):=by
            rw [Hid,HD2.out,HEP.out,if_neg];rw [decide_eq_true_iff];exact fun h=>hcn h.1
           clear hcn;go_wp2_with fail
           go_ret2;exact .inr ⟨HN.out,⟨_,293,by decide,rfl⟩,S2.out.tail.tail⟩
         have hqn:(q !=0)=true:=by rw [bne_iff_ne];exact hq
         have HN:Hid (decP bs=none):=by
          have e:endP bs k1 S.length=false:=by
           rw [endP,HT1.out];simp only;rw [HK2.out,ht]
          rw [Hid,HD2.out,e];rfl
         clear ht hq HT2C;go_wp2_with fail
         go_ret2;exact .inr ⟨HN.out,⟨_,293,by decide,rfl⟩,S2.out.tail.tail⟩
       have hqn:(q !=0)=true:=by rw [bne_iff_ne];exact hq
       have HN:Hid (decP bs=none):=by
        have e:endP bs k1 S.length=false:=by rw [endP,ht]
        rw [Hid,HD2.out,e];rfl
       clear ht hq HT1;go_wp2_with fail
       go_ret2;exact .inr ⟨HN.out,⟨_,293,by decide,rfl⟩,S2.out.tail.tail⟩
     have HN:Hid (decP bs=none):=by
      rw [Hid,HDC.out,HX.out,if_neg];rintro ⟨_,h⟩;exact hy0 (by rw [<- HY.out,h];rfl)
     by_cases hy1:y=1
     · have hx1:x=1:=UInt8.toNat_inj.1 (by rw [HY.out,hy1];rfl)
       have HFN:Hid (frP bs (k+1) (rdLast S)=none):=by
        have:=HG2.out hlt (by rw [HX.out];exact hx1);rw [pcs_last] at this;exact this
       subst hy1;clear hy0 HX HY HDC HG2 hx1;have HFR:=hid (rFrm_any (k1:=k) (k:=k+1) S2.out (.tail _ HR.out) HVV.out rfl (by omega) (by omega) (by omega));go_wp2_with (go_at_call 155;(with_reducible refine HFR.out.mono ?_);refine halt_ ?_)
       rintro e w3 (⟨sm,sz,cs,k',d,hfr,_⟩ | ⟨hfr,q,hq,rfl,t3⟩)
       · rw [HFN.out] at hfr;cases hfr
       have HQ:=hid hq;have S3:=hid (t3.newCell 42 #[.int .u64 0,.int .i64 0,.slice none 0 0]);clear hfr hq t3 HFR S2;go_wp2_with fail
       go_ret2;exact .inr ⟨HN.out,⟨_,q,HQ.out,rfl⟩,S3.out.tail.tail.tail⟩
     have hd3:decide ((1:Int)<(y:Int))=true:=decide_eq_true (by omega);have hd4:decide (1<y)=true:=decide_eq_true (by omega);clear hy0 hy1;go_wp2_with fail
     go_ret2;exact .inr ⟨HN.out,⟨_,293,by decide,rfl⟩,S2.out.tail.tail⟩
   obtain rfl:k=bs.length:=by omega
   have HN:Hid (decP bs=none):=by rw [Hid,HDC.out,if_neg (by omega)]
   go_wp2_with fail
   go_ret2;exact .inr ⟨HN.out,⟨_,293,by decide,rfl⟩,S2.out.tail.tail⟩
 rw [decide_eq_false hp] at HBG;have HN:Hid (decP bs=none):=by rw [Hid,decP,if_neg hb,if_neg hp]
 clear hp;go_enter Tryz.func118,Tryz.ntmps118;go_wp2_with (go_at_call 153;(with_reducible refine HBG.out.mono ?_);refine halt_ ?_)
 rintro e w1 ⟨rfl,rfl⟩;go_wp2_with fail
 go_ret2;exact .inr ⟨HN.out,⟨_,293,by decide,rfl⟩,S0.out⟩
end
end Go.Proofs.YtmiknfneeipkeaaGreat
