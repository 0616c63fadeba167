/- Contracts of the walk, part 29. -/
import Derived.Test.YtmiknfneeipkeaaGreatS28
import Derived.Test.YtmiknfneeipkeaaGreatS26
import Derived.Test.YtmiknfneeipkeaaGreatS22
open Go.Lib (hid)
namespace Go.Proofs.YtmiknfneeipkeaaGreat
open Go.RowKit Go.MapKept Go.ChangeMaps Go.Shelf Go.Sort
attribute [local go_sem] wext_cell
def frP (bs:List UInt8) (k:Nat) (last:Option ID):Option ((ID×List UInt8)×Nat):=
 match takeU 0 0 (bs.drop k) with
 | none=>none
 | some (sz,n1)=>match takeU 0 0 (bs.drop (k+n1)) with
  | none=>none
  | some (sm,n2)=>
   if sz<1∨8192<sz∨bs.length<k+n1+n2+sz then none
   else if fpOf ((bs.drop (k+n1+n2)).take sz)≠((sm:Int),(sz:Int)) then none
   else if last.any (fun x=>decide (0<=cmpID x ((sm:Int),(sz:Int))))=true then none
   else some (((((sm:Int),(sz:Int)):ID),(bs.drop (k+n1+n2)).take sz),k+n1+n2+sz)
theorem SW.bsSnoc {b:Nat} {w0 w:World} {l:List Ob} {S:List CH} {d:BD} {bs:List UInt8} (h:SW b w0 (bufOb d bs::bsOb S::l) w) (i:ID):SW b w0 (bsOb (S++[(i,⟨d,bs⟩)])::l) w:=by
 have hr:RB w d bs:=h.get 0 (o:=bufOb d bs) rfl
 exact ((h.bufX).bsCons i ⟨hr.1.symm,hr.2.1⟩).bsSub (fun e he=>by
  rcases List.mem_append.1 he with h | h
  · exact .tail _ h
  rw [List.mem_singleton] at h;rw [h];exact .head _)
section
variable {b:Nat} {w0 w w':World} {l:List Ob}
abbrev rdLast (S:List CH):Option ID:=S.getLast?.map (·.1)
abbrev FrP (g:Nat) (A:Option Addr) (c k:Nat) (bs:List UInt8) (S:List CH) (b:Nat) (w0:World) (l:List Ob) (e:Ending) (w':World):Prop:=
 (∃ i cs k' d D' dc',frP bs k (rdLast S)=some ((i,cs),k')/\k<k'/\k'<=bs.length/\okID i/\e= .returned (.int .i64 0)/\SW b w0 (rdrOb g A bs.length c k' (.slice D' (S++[(i,(⟨d,cs⟩:BS))]).length dc') (.int .i64 (k':Int))::rowOb 42 3 (.slice D' (S++[(i,(⟨d,cs⟩:BS))]).length dc') (S++[(i,(⟨d,cs⟩:BS))]).length ((S++[(i,(⟨d,cs⟩:BS))]).flatMap encCH)::bsOb (S++[(i,(⟨d,cs⟩:BS))])::l) w')∨
 (frP bs k (rdLast S)=none/\∃ q:Int,q≠0/\e= .returned (.int .i64 q)/\SW b w0 l w')
set_option maxRecDepth 100000 in
set_option maxHeartbeats 8000000 in
theorem frame_any {g:Nat} {A D:Option Addr} {c k dc gd:Nat} {bs:List UInt8} {S:List CH} (h:SW b w0 (rdrOb g A bs.length c k (.slice D S.length dc) (.int .i64 (gd:Int))::rowOb 42 3 (.slice D S.length dc) S.length (S.flatMap encCH)::bsOb S::l) w) (hr:rsOb A bs∈l) (hv:(A=none->c=0)/\bs.length<=c/\bs.length<=9223372036854775807) (hk:k<=bs.length) (hb:bs.length<=1048576) (hS:S.length<=k):
 Calls Tryz.prog 197 #[vPtr g] w (FrP g A c k bs S b w0 l):=by
 have S0:=hid h;have HR:=hid hr;have HVV:=hid hv;have HU:=hid (pUint_any S0.out (.tail _ (.tail _ hr)) hv hk);clear h hr hv;go_enter Tryz.func197,Tryz.ntmps197;go_wp2_with (go_at_call 198;(with_reducible refine HU.out.mono ?_);refine halt_ ?_)
 rintro e w1 (⟨sz,n1,ht1,hk1,rfl,t1⟩ | ⟨ht1,rfl,t1⟩)
 · have HT1:=hid ht1;have S1:=hid t1;have HU2:=hid (pUint_any t1 (.tail _ (.tail _ HR.out)) HVV.out hk1);have hsz64:=takeU_lt _ _ _ _ _ (by omega) (by decide) ht1;have hn1:=takeU_le _ _ _ _ _ ht1;clear ht1 t1 HU S0;go_wp2_with (go_at_call 198;(with_reducible refine HU2.out.mono ?_);refine halt_ ?_)
   rintro e w2 (⟨sm,n2,ht2,hk2,rfl,t2⟩ | ⟨ht2,rfl,t2⟩)
   · have HT2:=hid ht2;have S2:=hid t2;have hsm64:=takeU_lt _ _ _ _ _ (by omega) (by decide) ht2;clear ht2 t2 HU2 S1;by_cases hlo:sz<1
     · have HN:Hid (frP bs k (rdLast S)=none):=by rw [Hid,frP,HT1.out];simp only;rw [HT2.out];simp only;rw [if_pos (.inl hlo)]
       have hd1:decide ((sz:Int)<1)=true:=decide_eq_true (by omega);have hd2:decide (sz<1)=true:=decide_eq_true hlo;have hz0:sz=0:=by omega
       subst hz0;go_wp2_with fail
       go_ret;exact .inr ⟨HN.out,293,by decide,rfl,S2.out.tail.tail.tail⟩
     by_cases hhi:8192<sz
     · have HN:Hid (frP bs k (rdLast S)=none):=by rw [Hid,frP,HT1.out];simp only;rw [HT2.out];simp only;rw [if_pos (.inr (.inl hhi))]
       have hd1:decide ((sz:Int)<1)=false:=decide_eq_false (by omega);have hd2:decide (sz<1)=false:=decide_eq_false hlo;have hd3:decide ((8192:Int)<(sz:Int))=true:=decide_eq_true (by omega);have hd4:decide (8192<sz)=true:=decide_eq_true hhi;have hz0:sz≠0:=by omega
       have hz1:(sz:Int)≠0:=by omega
       go_wp2_with fail
       go_ret;exact .inr ⟨HN.out,293,by decide,rfl,S2.out.tail.tail.tail⟩
     have hd1:decide ((sz:Int)<1)=false:=decide_eq_false (by omega);have hd2:decide (sz<1)=false:=decide_eq_false hlo;have hd3:decide ((8192:Int)<(sz:Int))=false:=decide_eq_false (by omega);have hd4:decide (8192<sz)=false:=decide_eq_false hhi;have hz0:sz≠0:=by omega
     have hz1:(sz:Int)≠0:=by omega
     have hwz:IntKind.i64.wrap (sz:Int)=(sz:Int):=IntWalk.i64_in _ (by omega);have HB:=hid (pBytes_any (n:=sz) S2.out (.tail _ (.tail _ HR.out)) HVV.out hk2 (by omega) (by omega));clear S2;go_wp2_with (go_at_call 223;(with_reducible refine HB.out.mono ?_);refine halt_ ?_)
     rintro e w3 (⟨d,hk3,rfl,t3⟩ | ⟨hk3,rfl,t3⟩)
     · have S3:=hid t3;clear t3 HB;unfold vB;obtain ⟨cs,HCS⟩:∃ x,Hid ((bs.drop (k+n1+n2)).take sz=x):=⟨_,rfl⟩;rw [HCS.out] at S3;have HCL:Hid (cs.length=sz):=by rw [Hid, <- HCS.out,List.length_take,List.length_drop];omega
       have HRBd:Hid (RB w3 d cs):=S3.out.get 0 (o:=bufOb d cs) rfl;have HDL:Hid (cs.length=d.len):=HRBd.out.1;have S4:=hid (S3.out.newCell 42 #[.int .u64 (sm:Int),.int .i64 (sz:Int),.slice d.A d.len d.cap]);go_upto_region 11 with fail
       obtain ⟨w4,HW⟩:∃ W,Hid (w3.alloc (.cells #[.int .u64 (sm:Int),.int .i64 (sz:Int),.slice d.A d.len d.cap] 42)=W):=⟨_,rfl⟩;obtain ⟨gc,HGC⟩:∃ x,Hid (w3.heap.size=x):=⟨_,rfl⟩;rw [HW.out,HGC.out] at S4;rw [HW.out,HGC.out];have HRB4:Hid (RB w4 d cs):=S4.out.get 1 (o:=bufOb d cs) rfl;have HRI:=hid (right_any (sm:Int) (sz:Int) ⟨d,cs⟩ w4 ⟨SB.rs HRB4.out.src,HRB4.out.1.symm,HRB4.out.2.1⟩ (by rw [HCL.out];omega));simp only [HDL.out] at HRI;have c0:=(S4.out.cell 0 rfl).cell 0;have c1:=(S4.out.cell 0 rfl).cell 1;have c2:=(S4.out.cell 0 rfl).cell 2;clear HW HGC S3 HRBd;by_cases hok:fpOf cs=((sm:Int),(sz:Int))
       · have hokc:okCH (((sm:Int),(sz:Int)),⟨d,cs⟩)=true:=decide_eq_true ⟨by simp only;omega,by simp only;omega,hok⟩;rw [hokc] at HRI;have HOK:=hid hok;clear hok hokc;go_wp2_with (go_at_call 89;(with_reducible refine HRI.out.mono ?_);refine halt_ ?_)
         rintro e w5 ⟨rfl,hb5⟩;have S5:=hid (S4.out.on hb5);clear hb5 S4 HRI HRB4 c0 c1 c2;have a0:=(S5.out.cell 2 rfl).cell 0;have a1:=(S5.out.cell 2 rfl).cell 1;have a2:=(S5.out.cell 2 rfl).cell 2;have c0:=(S5.out.cell 0 rfl).cell 0;have c1:=(S5.out.cell 0 rfl).cell 1;obtain ⟨tb,HTB⟩:∃ x,Hid ((rdLast S).any (fun x=>decide (0<=cmpID x ((sm:Int),(sz:Int))))=x):=⟨_,rfl⟩;go_upto_region 14 with fail
         go_cut [76] from 60 to 76 (fun s76 w'=>s76= .bool tb/\SW b w0 (cellOb gc 42 #[.int .u64 (sm:Int),.int .i64 (sz:Int),.slice d.A d.len d.cap]::bufOb d cs::rdrOb g A bs.length c (k+n1+n2+sz) (.slice D S.length dc) (.int .i64 (gd:Int))::rowOb 42 3 (.slice D S.length dc) S.length (S.flatMap encCH)::bsOb S::l) w')
         case first=>
          by_cases hS0:S.length=0
          · have hd5:decide ((0:Int)<(S.length:Int))=false:=decide_eq_false (by omega);have hd6:decide (0<S.length)=false:=decide_eq_false (by omega)
            have HTF:Hid (tb=false):=by
             rw [Hid, <- HTB.out,List.eq_nil_of_length_eq_zero hS0];rfl
            clear hS0;refine wp_region_ext (by kernel_rfl) (by kernel_rfl) ?_;repeat (go_big_quiet_step (fail))
            refine wpQuiet_nil ?_;intro w6 hb6;have S6:=hid (S5.out.on hb6);go_wp2_with fail
            go_meet;exact ⟨by rw [HTF.out],S6.out⟩
          have hd5:decide ((0:Int)<(S.length:Int))=true:=decide_eq_true (by omega);have hd6:decide (0<S.length)=true:=decide_eq_true (by omega);obtain ⟨gD,d7,hD7⟩:=own_some (S5.out.get 3 rfl) hS0;injection hD7 with e1 e2 e3;subst e1;subst e3;clear e2;obtain ⟨⟨⟨p1,p2⟩,pe⟩,hpe⟩:∃ e,S.getD (S.length-1) ch0=e:=⟨_,rfl⟩;have hrow:w5.ownsRow 0 42 3 (.slice (some ⟨gD,0,none⟩) S.length dc) S.length (S.flatMap encCH):=S5.out.get 3 rfl
          have p0:w5.cell? ⟨gD,(S.length-1)*3,none⟩=some (.int .u64 p1):=by
           have h1:=hrow.cellAt ((S.length-1)*3) (by omega);rw [h1];have h2:=flat_at encCH_len ch0 S (S.length-1) 0 (by omega) (by omega);rw [Nat.add_zero,hpe] at h2;exact h2
          have p3:w5.cell? ⟨gD,(S.length-1)*3+1,none⟩=some (.int .i64 p2):=by
           have h1:=hrow.cellAt ((S.length-1)*3+1) (by omega);rw [h1];have h2:=flat_at encCH_len ch0 S (S.length-1) 1 (by omega) (by omega);rw [hpe] at h2;exact h2
          have ek:((S.length:Int)-1).toNat=S.length-1:=by omega
          have hl1:=(S5.out.cell 2 rfl).lt;have hl2:=(S5.out.cell 0 rfl).lt;have hl3:gD<w5.heap.size:=(hrow.lt gD rfl).2
          have hTB:decide (0<=cmpID (p1,p2) ((sm:Int),(sz:Int)))=tb:=by
           rw [<- HTB.out]
           have h1:S.getLast? =some ((p1,p2),pe):=by
            rw [List.getLast?_eq_getElem?, <- hpe,List.getD_eq_getElem?_getD,List.getElem?_eq_getElem (by omega)];rfl
           simp only [rdLast,h1,Option.map_some,Option.any_some]
          have hcb:=cmpID_bd (p1,p2) ((sm:Int),(sz:Int));have HCM:=hid (fun W=>pcmp_any p1 p2 (sm:Int) (sz:Int) W);generalize cmpID (p1,p2) ((sm:Int),(sz:Int))=cm at hTB hcb HCM;clear hpe hrow;refine wp_region_ext (by kernel_rfl) (by kernel_rfl) ?_;repeat (go_big_quiet_step ((go_at_call 90;exact ext_call (HCM.out _))))
          refine wpQuiet_nil ?_;intro w6 hb6;have S6:=hid (S5.out.on hb6);go_wp2_with fail
          go_meet;exact ⟨rfl,S6.out⟩
         obtain ⟨rfl,hs⟩:=hcut;have S6:=hid hs;clear hs S5 a0 a1 a2 c0 c1;cases tb with
         | true=>
          have HN:Hid (frP bs k (rdLast S)=none):=by rw [Hid,frP,HT1.out];simp only;rw [HT2.out];simp only;rw [HCS.out,if_neg (by omega),if_neg (by rw [HOK.out];simp),if_pos HTB.out]
          go_wp2_with fail
          go_ret;exact .inr ⟨HN.out,291,by decide,rfl,S6.out.tail.tail.tail.tail.tail⟩
         | false=>
          have HY:Hid (frP bs k (rdLast S)=some (((((sm:Int),(sz:Int)):ID),cs),k+n1+n2+sz)):=by rw [Hid,frP,HT1.out];simp only;rw [HT2.out];simp only;rw [HCS.out,if_neg (by omega),if_neg (by rw [HOK.out];simp),if_neg (by rw [HTB.out];simp)]
          obtain ⟨ic,ci,cz0,cz1,cz2⟩:=info_parts info42;go_upto_region 16 with fail
          refine wp_region_held_tail [(0,true),(1,true),(2,true),(3,true),(4,true),(5,true),(6,false),(7,false)] (SW b w0 (cellOb gc 42 #[.int .u64 (sm:Int),.int .i64 (sz:Int),.slice d.A d.len d.cap]::bufOb d cs::rdrOb g A bs.length c (k+n1+n2+sz) (.slice D S.length dc) (.int .i64 (gd:Int))::bsOb S::l)) (by kernel_rfl) (fun _ _ d _ _ h=>by cases d<;>exact h) (by kernel_rfl) (SW.sub S6.out.drew (.cons_cons _ (.cons_cons _ (.cons_cons _ (.cons _ (List.Sublist.refl _)))))) ?_;simp only [picked,List.map_cons,List.map_nil,List.getD_cons_succ,List.getD_cons_zero]
          iterate 6
           (refine wpHeld_take (v:=?_) (Or.inl ⟨by rfl,?_⟩) ?_
            rotate_left
            · (intro w' hSw;have a2:w'.cell? ⟨g,2,none⟩=some (.slice D S.length dc):=(hSw.cell 2 rfl).cell 2;have c0:w'.cell? ⟨gc,0,none⟩=some (.int .u64 (sm:Int)):=(hSw.cell 0 rfl).cell 0;have c1:w'.cell? ⟨gc,1,none⟩=some (.int .i64 (sz:Int)):=(hSw.cell 0 rfl).cell 1;have c2:w'.cell? ⟨gc,2,none⟩=some (.slice d.A d.len d.cap):=(hSw.cell 0 rfl).cell 2;go_simp;try with_reducible rfl)
            try simp only [Act.put,List.setIfInBounds_toArray,List.set])
          refine wpHeld_run (fun K hK=>?_);have S7:=hid ((S6.out.newCell 42 #[.int .u64 (sm:Int),.int .i64 (sz:Int),.slice d.A d.len d.cap]).drew);go_simp;refine hK.out _ _ (SW.sub S7.out (.cons _ (.cons_cons _ (.cons_cons _ (.cons_cons _ (.cons _ (List.Sublist.refl _))))))) ?_;clear hK K;try simp only [Act.put,List.setIfInBounds_toArray,List.set]
          refine wpHeld_run (fun K hK=>?_);(refine step_rowS (t:=23) (e:=42) (size:=3) (bytes:=40) (i:=ic) S7.out 4 rfl (by rfl) (.tmp 81) (.tmp 83) (by rfl) Tryz.underlying23 ci cz0 cz1 cz2 rfl (by omega) (by rfl) ⟨wc.heap.size,0,none⟩ 1 [.int .u64 (sm:Int),.int .i64 (sz:Int),.slice d.A d.len d.cap] (by rfl) rfl (fun j u hu=>by rw [lit_add,Nat.zero_add,(S7.out.cell 0 rfl).cell, <- Array.getElem?_toList];exact hu) (fun u hu=>by simp only [List.mem_cons,List.not_mem_nil,or_false] at hu;rcases hu with rfl | rfl | rfl<;>rfl) (by unfold maxLen;omega) (by omega) ?_)
          intro v8 w8 s8;refine hK.out _ _ (SW.sub s8 (.cons _ (.cons_cons _ (.cons_cons _ (.cons_cons _ (.cons _ (List.Sublist.refl _))))))) ?_;clear hK K;try simp only [Act.put,List.setIfInBounds_toArray,List.set]
          refine wpHeld_nil ?_;simp only [List.length_cons,List.length_nil,List.drop_succ_cons,List.drop_zero];obtain ⟨g8,c8,rfl⟩:=own_some (s8.get 4 rfl) (by omega)
          have S8:Hid (SW b w0 (rdrOb g A bs.length c (k+n1+n2+sz) (.slice D S.length dc) (.int .i64 (gd:Int))::rowOb 42 3 (.slice (some ⟨g8,0,none⟩) (S++[((((sm:Int),(sz:Int)):ID),(⟨d,cs⟩:BS))]).length c8) (S++[((((sm:Int),(sz:Int)):ID),(⟨d,cs⟩:BS))]).length ((S++[((((sm:Int),(sz:Int)):ID),(⟨d,cs⟩:BS))]).flatMap encCH)::bsOb (S++[((((sm:Int),(sz:Int)):ID),(⟨d,cs⟩:BS))])::l) w8):=by
           have h1:=SW.bsSnoc (SW.few (pre:=[_,_,_,_,_,_]) s8 [2,5,3,4] (n:=6) rfl (by decide) (by decide)) (((sm:Int),(sz:Int)):ID);have h2:=SW.front (pre:=[_,_,_]) h1 [1,2,0] (n:=3) rfl (by decide);rw [Hid,List.length_append,List.flatMap_append];exact h2
          have HLN:Hid (S.length+1=(S++[((((sm:Int),(sz:Int)):ID),(⟨d,cs⟩:BS))]).length):=by rw [Hid,List.length_append];rfl
          clear s8 S7 S6;have a1:=(S8.out.cell 0 rfl).cell 1;have a2:=(S8.out.cell 0 rfl).cell 2;have a3:=(S8.out.cell 0 rfl).cell 3;have az:=fun o=>(S8.out.cell 0 rfl).frozen o;go_wp2_with fail
          have S9:=hid ((S8.out.setAt 0 rfl 2 (.slice (some ⟨g8,0,none⟩) (S.length+1) c8)).setAt 0 rfl 3 (.int .i64 ((k+n1+n2+sz:Nat):Int)));go_ret;refine .inl ⟨(((sm:Int),(sz:Int)):ID),cs,k+n1+n2+sz,d,some ⟨g8,0,none⟩,c8,HY.out,by omega,hk3,?_,rfl,?_⟩
          · rw [<- HOK.out];exact okID_fp cs (by rw [HCL.out];omega)
          have e:=S9.out;rw [HLN.out] at e;rw [Int.natCast_add,Int.natCast_add,Int.natCast_add] at e |-; rw [HLN.out];exact e
       have HN:Hid (frP bs k (rdLast S)=none):=by rw [Hid,frP,HT1.out];simp only;rw [HT2.out];simp only;rw [HCS.out,if_neg (by omega),if_pos hok]
       have hokc:okCH (((sm:Int),(sz:Int)),⟨d,cs⟩)=false:=decide_eq_false (fun h=>hok h.2.2);rw [hokc] at HRI;clear hok hokc;go_wp2_with (go_at_call 89;(with_reducible refine HRI.out.mono ?_);refine halt_ ?_)
       rintro e w5 ⟨rfl,hb5⟩;have S5:=hid (S4.out.on hb5);clear hb5 S4 HRI HRB4 c0 c1 c2;go_wp2_with fail
       go_ret;exact .inr ⟨HN.out,290,by decide,rfl,S5.out.tail.tail.tail.tail.tail⟩
     have HN:Hid (frP bs k (rdLast S)=none):=by rw [Hid,frP,HT1.out];simp only;rw [HT2.out];simp only;rw [if_pos (.inr (.inr hk3))]
     have S3:=hid t3;clear t3 HB;go_wp2_with fail
     go_ret;exact .inr ⟨HN.out,293,by decide,rfl,S3.out.tail.tail.tail⟩
   have HN:Hid (frP bs k (rdLast S)=none):=by rw [Hid,frP,HT1.out];simp only;rw [ht2]
   have S2:=hid t2;clear ht2 t2 HU2 S1;go_wp2_with fail
   go_ret;exact .inr ⟨HN.out,293,by decide,rfl,S2.out.tail.tail.tail⟩
 have HN:Hid (frP bs k (rdLast S)=none):=by rw [Hid,frP,ht1]
 have S1:=hid t1;clear ht1 t1 HU S0;go_wp2_with fail
 go_ret;exact .inr ⟨HN.out,293,by decide,rfl,S1.out.tail.tail.tail⟩
end
end Go.Proofs.YtmiknfneeipkeaaGreat
namespace Go.Proofs.YtmiknfneeipkeaaGreat
open Go.RowKit Go.MapKept Go.ChangeMaps Go.Shelf Go.Sort
attribute [local go_sem] wext_cell
abbrev PC:=ID×List UInt8
def pcs (S:List CH):List PC:=S.map (fun e=>(e.1,e.2.bs))
theorem pcs_snoc (S:List CH) (i:ID) (d:BD) (cs:List UInt8):pcs (S++[(i,⟨d,cs⟩)])=pcs S++[(i,cs)]:=by simp [pcs]
theorem pcs_len (S:List CH):(pcs S).length=S.length:=by simp [pcs]
theorem pcs_last (S:List CH):(pcs S).getLast?.map (·.1)=rdLast S:=by
 rw [pcs,List.getLast?_map,Option.map_map];rfl
def frsP (bs:List UInt8):Nat->Nat->List PC->Option (List PC×Nat)
 | 0,_,_=>none
 | f+1,k,acc=>
  if bs.length<=k then none
  else if bs.getD k 0=0 then some (acc,k+1)
  else if bs.getD k 0=1 then match frP bs (k+1) (acc.getLast?.map (·.1)) with
   | some (c,j)=>frsP bs f j (acc++[c])
   | none=>none
  else none
def rdAt (g:Nat) (w:World):Nat:=match w.cell? ⟨g,1,none⟩ with
 | some v=>(intOf v).toNat
 | none=>0
theorem rdAt_eq {g k:Nat} {w:World} (h:w.cell? ⟨g,1,none⟩=some (.int .i64 (k:Int))):rdAt g w=k:=by
 rw [rdAt,h];simp [intOf]
section
variable {b:Nat} {w0 w w':World} {l:List Ob}
abbrev FrsP (g:Nat) (A:Option Addr) (c:Nat) (bs:List UInt8) (b:Nat) (w0:World) (l:List Ob) (e:Ending) (w':World):Prop:=
 (∃ S k D dc gd,frsP bs (bs.length+1) 4 []=some (pcs S,k)/\k<=bs.length/\S.length<=k/\(∀ x∈S,okID x.1)/\e= .returned (.int .i64 0)/\SW b w0 (rdrOb g A bs.length c k (.slice D S.length dc) (.int .i64 ((gd:Nat):Int))::rowOb 42 3 (.slice D S.length dc) S.length (S.flatMap encCH)::bsOb S::l) w')∨
 (frsP bs (bs.length+1) 4 []=none/\∃ q:Int,q≠0/\e= .returned (.int .i64 q)/\SW b w0 l w')
set_option maxRecDepth 100000 in
set_option maxHeartbeats 8000000 in
theorem frames_any {g:Nat} {A:Option Addr} {c:Nat} {bs:List UInt8} (h:SW b w0 (rdrOb g A bs.length c 4 (.slice none 0 0) (.int .i64 4)::l) w) (hr:rsOb A bs∈l) (hv:(A=none->c=0)/\bs.length<=c/\bs.length<=9223372036854775807) (hk:4<=bs.length) (hb:bs.length<=1048576):
 Calls Tryz.prog 150 #[vPtr g] w (FrsP g A c bs b w0 l):=by
 have S0:Hid (SW b w0 (rdrOb g A bs.length c 4 (.slice none 0 0) (.int .i64 ((4:Nat):Int))::rowOb 42 3 (.slice none 0 0) 0 []::bsOb []::l) w):=by
  have h1:SW b w0 (bsOb []::rowOb 42 3 (.slice none 0 0) 0 []::rdrOb g A bs.length c 4 (.slice none 0 0) (.int .i64 4)::l) w:=SW.bufsBs (SW.noBufs (h.newRow 42 3)) (fun e he=>by cases he);exact SW.front (pre:=[_,_,_]) h1 [2,1,0] (n:=3) rfl (by decide)
 have HR:=hid hr;have HVV:=hid hv;clear h hr hv;go_enter Tryz.func150,Tryz.ntmps150;go_wp2_with fail
 go_loopw [] (fun wr=>∃ (f k:Nat) (S:List CH) (D:Option Addr) (dc gd:Nat),bs.length<k+f/\k<=bs.length/\S.length<=k/\Hid (∀ x∈S,okID x.1)/\Hid (frsP bs (bs.length+1) 4 []=frsP bs f k (pcs S))/\SW b w0 (rdrOb g A bs.length c k (.slice D S.length dc) (.int .i64 ((gd:Nat):Int))::rowOb 42 3 (.slice D S.length dc) S.length (S.flatMap encCH)::bsOb S::l) wr) (fun wr=>bs.length-rdAt g wr)
 case atStart=>exact ⟨bs.length+1,4,[],none,0,4,by omega,hk,by simp,(fun x hx=>by cases hx),rfl,S0.out⟩
 obtain ⟨f,k,S,D,dc,gd,hf,hk2,hSk,HOK,HF,hs⟩:=hrel;have S1:=hid hs;have HAT:Hid (rdAt g wr=k):=rdAt_eq ((S1.out.cell 0 rfl).cell 1);have HM:=hid (pMark_any S1.out (.tail _ (.tail _ HR.out)) HVV.out hk2);clear hs S0;rename World=>wa;go_wp2_with (go_at_call 196;(with_reducible refine HM.out.mono ?_);refine halt_ ?_)
 rintro e w2 (⟨hlt,rfl,t2⟩ | ⟨rfl,rfl,t2⟩)
 · have S2:=hid t2;obtain ⟨x,HX⟩:∃ x,Hid (bs.getD k 0=x):=⟨_,rfl⟩;rw [HX.out];obtain ⟨y,HY⟩:∃ y,Hid (x.toNat=y):=⟨_,rfl⟩;rw [HY.out];have hx:=x.toNat_lt;rw [HY.out] at hx;clear t2 HM S1;obtain ⟨f,rfl⟩:∃ f',f=f'+1:=⟨f-1,by omega⟩;by_cases h0:y=0
   · subst h0;have hx0:x=0:=UInt8.toNat_inj.1 HY.out
     have HD:Hid (frsP bs (bs.length+1) 4 []=some (pcs S,k+1)):=by
      rw [Hid,HF.out,frsP,if_neg (by omega),if_pos (by rw [HX.out,hx0])]
     clear hx0;go_wp2_with fail
     go_ret;exact .inl ⟨S,k+1,D,dc,gd,HD.out,by omega,by omega,HOK.out,rfl,S2.out⟩
   have hxn:¬ x=0:=fun e=>h0 (by rw [<- HY.out,e];rfl);by_cases h1:y=1
   · subst h1;have hx1:x=1:=UInt8.toNat_inj.1 HY.out
     have HD:Hid (frsP bs (bs.length+1) 4 []=match frP bs (k+1) (rdLast S) with | some (c,j)=>frsP bs f j (pcs S++[c]) | none=>none):=by
      rw [Hid,HF.out,frsP,if_neg (by omega),if_neg (by rw [HX.out];exact hxn),if_pos (by rw [HX.out,hx1]),pcs_last]
     have HFR:=hid (frame_any S2.out HR.out HVV.out (by omega) hb (by omega));clear hx1 hxn S2;go_wp2_with (go_at_call 197;(with_reducible refine HFR.out.mono ?_);refine halt_ ?_)
     rintro e w3 (⟨i,cs,k',d,D',dc',hfr,hkk,hk',hoki,rfl,t3⟩ | ⟨hfr,q,hq,rfl,t3⟩)
     · have S3:=hid t3
       have HD2:Hid (frsP bs (bs.length+1) 4 []=frsP bs f k' (pcs (S++[(i,⟨d,cs⟩)]))):=by
        rw [Hid,HD.out,hfr,pcs_snoc]
       have HAT3:Hid (rdAt g w3=k'):=rdAt_eq ((S3.out.cell 0 rfl).cell 1)
       have HOK2:Hid (∀ x∈S++[(i,(⟨d,cs⟩:BS))],okID x.1):=fun x hx=>by
        rcases List.mem_append.1 hx with h | h
        · exact HOK.out x h
        rw [List.mem_singleton] at h;rw [h];exact hoki
       have HLN:Hid ((S++[(i,(⟨d,cs⟩:BS))]).length=S.length+1):=by rw [Hid,List.length_append];rfl
       clear hfr t3 HFR;go_wp2_with fail
       go_roundw
       case rel=>exact ⟨f,k',S++[(i,⟨d,cs⟩)],D',dc',k',by omega,hk',by rw [HLN.out];omega,HOK2,HD2,S3.out⟩
       rw [HAT.out,HAT3.out];omega
     have HN:Hid (frsP bs (bs.length+1) 4 []=none):=by rw [Hid,HD.out,hfr]
     have hqn:(q !=0)=true:=by rw [bne_iff_ne];exact hq
     have HQ:=hid hq;have S3:=hid t3;clear hfr t3 HFR hq;go_wp2_with fail
     go_ret;exact .inr ⟨HN.out,q,HQ.out,rfl,S3.out⟩
   have hxn1:¬ x=1:=fun e=>h1 (by rw [<- HY.out,e];rfl);have HN:Hid (frsP bs (bs.length+1) 4 []=none):=by rw [Hid,HF.out,frsP,if_neg (by omega),if_neg (by rw [HX.out];exact hxn),if_neg (by rw [HX.out];exact hxn1)]
   have hb0:((y:Int) !=0)=true:=by rw [bne_iff_ne];omega
   have hb1:((y:Int) !=1)=true:=by rw [bne_iff_ne];omega
   clear hxn hxn1;go_wp2_with fail
   go_ret;exact .inr ⟨HN.out,293,by decide,rfl,S2.out.tail.tail.tail⟩
 have S2:=hid t2
 have HN:Hid (frsP bs (bs.length+1) 4 []=none):=by
  obtain ⟨f,rfl⟩:∃ f',f=f'+1:=⟨f-1,by omega⟩;rw [Hid,HF.out,frsP,if_pos (Nat.le_refl _)]
 clear t2 HM S1;go_wp2_with fail
 go_ret;exact .inr ⟨HN.out,293,by decide,rfl,S2.out.tail.tail.tail⟩
end
end Go.Proofs.YtmiknfneeipkeaaGreat
namespace Go.Proofs.YtmiknfneeipkeaaGreat
open Go.RowKit Go.MapKept Go.ChangeMaps Go.Shelf Go.Sort
attribute [local go_sem] wext_cell
def endP (bs:List UInt8) (k n:Nat):Bool:=
 match takeU 0 0 (bs.drop k) with
 | none=>false
 | some (cnt,n1)=>match takeU 0 0 (bs.drop (k+n1)) with
  | none=>false
  | some (sm,n2)=>decide (cnt=n/\k+n1+n2=bs.length/\sm=fpSum (bs.take (k+n1)))
section
variable {b:Nat} {w0 w w':World} {l:List Ob}
abbrev EndPP (g:Nat) (A:Option Addr) (c k:Nat) (bs:List UInt8) (S:List CH) (D:Option Addr) (dc:Nat) (Y:Value) (b:Nat) (w0:World) (l:List Ob) (e:Ending) (w':World):Prop:=
 (endP bs k S.length=true/\e= .returned (.int .i64 0)/\∃ k',SW b w0 (rdrOb g A bs.length c k' (.slice D S.length dc) Y::rowOb 42 3 (.slice D S.length dc) S.length (S.flatMap encCH)::bsOb S::l) w')∨
 (endP bs k S.length=false/\∃ q:Int,q≠0/\e= .returned (.int .i64 q)/\SW b w0 l w')
set_option maxRecDepth 100000 in
set_option maxHeartbeats 8000000 in
theorem end_any {g:Nat} {A D:Option Addr} {c k dc:Nat} {bs:List UInt8} {S:List CH} {Y:Value} (h:SW b w0 (rdrOb g A bs.length c k (.slice D S.length dc) Y::rowOb 42 3 (.slice D S.length dc) S.length (S.flatMap encCH)::bsOb S::l) w) (hr:rsOb A bs∈l) (hv:(A=none->c=0)/\bs.length<=c/\bs.length<=9223372036854775807) (hk:k<=bs.length) (hb:bs.length<=1048576) (hS:S.length<=k):
 Calls Tryz.prog 151 #[vPtr g] w (EndPP g A c k bs S D dc Y b w0 l):=by
 have S0:=hid h;have HR:=hid hr;have HVV:=hid hv;have HU:=hid (pUint_any S0.out (.tail _ (.tail _ hr)) hv hk);clear h hr;go_enter Tryz.func151,Tryz.ntmps151;go_wp2_with (go_at_call 198;(with_reducible refine HU.out.mono ?_);refine halt_ ?_)
 rintro e w1 (⟨cnt,n1,ht1,hk1,rfl,t1⟩ | ⟨ht1,rfl,t1⟩)
 · have HT1:=hid ht1;have S1:=hid t1;have hc64:=takeU_lt _ _ _ _ _ (by omega) (by decide) ht1;have a0:=(S1.out.cell 0 rfl).cell 0;have a1:=(S1.out.cell 0 rfl).cell 1;obtain ⟨hv1,hv2,hv3⟩:=hv;obtain ⟨k1,HK1⟩:∃ x,Hid (k+n1=x):=⟨_,rfl⟩;rw [HK1.out] at hk1 a1;have hk1c:k1<=c:=by omega
   have hk1i:((k1:Nat):Int)<=(c:Int):=by omega
   clear ht1 t1 HU S0;go_wp2_with fail
   go_quiet (fail)
   go_upto_region 5 with fail
   have S2:Hid (SW b w0 (rdrOb g A bs.length c k1 (.slice D S.length dc) Y::rowOb 42 3 (.slice D S.length dc) S.length (S.flatMap encCH)::bsOb S::l) (w1.drewN nq)):=by
    have e:=S1.out.drewN nq;rw [HK1.out] at e;exact e
   generalize w1.drewN nq=w2 at S2 |-; have HU2:=hid (pUint_any S2.out (.tail _ (.tail _ HR.out)) HVV.out hk1);clear S1 a0 a1;go_wp2_with (go_at_call 198;(with_reducible refine HU2.out.mono ?_);refine halt_ ?_)
   rintro e w3 (⟨sm,n2,ht2,hk2,rfl,t2⟩ | ⟨ht2,rfl,t2⟩)
   · have HT2:=hid ht2;have S3:=hid t2;have hs64:=takeU_lt _ _ _ _ _ (by omega) (by decide) ht2;have a0:=(S3.out.cell 0 rfl).cell 0;have a1:=(S3.out.cell 0 rfl).cell 1;have a2:=(S3.out.cell 0 rfl).cell 2
     have HEP:Hid (endP bs k S.length=decide (cnt=S.length/\k1+n2=bs.length/\sm=fpSum (bs.take k1))):=by
      rw [Hid,endP,HT1.out];simp only;rw [HK1.out,HT2.out]
     have hwS:IntKind.u64.wrap (S.length:Int)=(S.length:Int):=by rw [IntKind.wrap_u64];omega
     obtain ⟨k2,HK2⟩:∃ x,Hid (k1+n2=x):=⟨_,rfl⟩;rw [HK2.out] at a1 hk2;clear ht2 t2 HU2 S2;by_cases hcn:cnt=S.length
     · have hd1:((cnt:Int) !=(S.length:Int))=false:=by rw [bne_eq_false_iff_eq];omega
       have hd1n:(cnt !=S.length)=false:=by rw [bne_eq_false_iff_eq];exact hcn
       by_cases hke:k2=bs.length
       · have hd2:((k2:Int) !=(bs.length:Int))=false:=by rw [bne_eq_false_iff_eq];omega
         have hd2n:(k2 !=bs.length)=false:=by rw [bne_eq_false_iff_eq];exact hke
         have HCN:=hid hcn;have HKE:=hid hke;clear hcn hke;go_wp2_with fail
         go_quiet (fail)
         go_upto_region 8 with fail
         have S4:=hid (S3.out.drewN nq);generalize w3.drewN nq=w4 at S4 |-; have HTL:Hid ((bs.take k1).length=k1):=by rw [Hid,List.length_take];omega
         have HSM:=hid (Sum_any A c (bs.take k1) w4 ((S4.out.view (.tail _ (.tail _ (.tail _ HR.out))) HVV.out).take k1 hk1).1 (by rw [HTL.out];omega));rw [HTL.out] at HSM;obtain ⟨sm2,HS2⟩:∃ x,Hid (fpSum (bs.take k1)=x):=⟨_,rfl⟩;rw [HS2.out] at HSM HEP;clear S3 a0 a1 a2;go_wp2_with (go_at_call 77;(with_reducible refine HSM.out.mono ?_);refine halt_ ?_)
         rintro e w5 ⟨rfl,rfl⟩;by_cases hse:sm=sm2
         · subst hse;have HY:Hid (endP bs k S.length=true):=by rw [Hid,HEP.out,HK2.out];exact decide_eq_true ⟨HCN.out,HKE.out,rfl⟩
           go_wp2_with fail
           go_ret;exact .inl ⟨HY.out,rfl,_,S4.out⟩
         have HN:Hid (endP bs k S.length=false):=by rw [Hid,HEP.out];exact decide_eq_false (fun h=>hse h.2.2)
         have hd3:((sm:Int) !=(sm2:Int))=true:=by rw [bne_iff_ne];omega
         have hd3n:(sm !=sm2)=true:=by rw [bne_iff_ne];exact hse
         clear hse;go_wp2_with fail
         go_ret;exact .inr ⟨HN.out,294,by decide,rfl,S4.out.tail.tail.tail⟩
       have hd2:((k2:Int) !=(bs.length:Int))=true:=by rw [bne_iff_ne];omega
       have hd2n:(k2 !=bs.length)=true:=by rw [bne_iff_ne];exact hke
       have HN:Hid (endP bs k S.length=false):=by rw [Hid,HEP.out,HK2.out];exact decide_eq_false (fun h=>hke h.2.1)
       have HCN:=hid hcn;clear hcn hke;go_wp2_with fail
       go_quiet (fail)
       go_wp2_with fail
       have S4:=hid (S3.out.drewN nq);go_ret;exact .inr ⟨HN.out,293,by decide,rfl,S4.out.tail.tail.tail⟩
     have hd1:((cnt:Int) !=(S.length:Int))=true:=by rw [bne_iff_ne];omega
     have hd1n:(cnt !=S.length)=true:=by rw [bne_iff_ne];exact hcn
     have HN:Hid (endP bs k S.length=false):=by rw [Hid,HEP.out];exact decide_eq_false (fun h=>hcn h.1)
     clear hcn;go_wp2_with fail
     go_quiet (fail)
     go_wp2_with fail
     have S4:=hid (S3.out.drewN nq);go_ret;exact .inr ⟨HN.out,293,by decide,rfl,S4.out.tail.tail.tail⟩
   have HN:Hid (endP bs k S.length=false):=by
    rw [Hid,endP,HT1.out];simp only;rw [HK1.out,ht2]
   have S3:=hid t2;clear ht2 t2 HU2 S2;go_wp2_with fail
   go_quiet (fail)
   go_wp2_with fail
   have S4:=hid (S3.out.drewN nq);go_ret;exact .inr ⟨HN.out,293,by decide,rfl,S4.out.tail.tail.tail⟩
 have HN:Hid (endP bs k S.length=false):=by rw [Hid,endP,ht1]
 have S1:=hid t1;clear ht1 t1 HU S0;go_wp2_with fail
 go_ret;exact .inr ⟨HN.out,293,by decide,rfl,S1.out.tail.tail.tail⟩
def packM:List UInt8:=[83,89,80,75]
theorem packM_str:(⟨#[83,89,80,75]⟩:ByteArray).data.toList=packM:=rfl
abbrev NewRP (A:Option Addr) (c:Nat) (bs:List UInt8) (b:Nat) (w0:World) (l:List Ob) (e:Ending) (w':World):Prop:=
 (∃ g,packM <+: bs/\e= .returned (.tuple #[vPtr g,.bool true])/\SW b w0 (rdrOb g A bs.length c 4 (.slice none 0 0) (.int .i64 4)::l) w')∨
 (¬ packM <+: bs/\(∃ v,e= .returned (.tuple #[v,.bool false]))/\SW b w0 l w')
set_option maxRecDepth 100000 in
set_option maxHeartbeats 8000000 in
theorem newReader_any (h:SW b w0 l w) {A:Option Addr} {c:Nat} {bs:List UInt8} (hr:rsOb A bs∈l) (hv:(A=none->c=0)/\bs.length<=c/\bs.length<=9223372036854775807):
 Calls Tryz.prog 149 #[.slice A bs.length c] w (NewRP A c bs b w0 l):=by
 have S0:=hid h;have HVW:=hid (h.view hr hv);obtain ⟨hv1,hv2,hv3⟩:=hv;clear h hr;by_cases h4:4<=bs.length
 · have hmin:min (bs.length:Int) 4=4:=by omega
   have hTL:(bs.take 4).length=4:=by rw [List.length_take];omega
   have hcv:=conv_str ((HVW.out.take 4 h4).1.sb) 4 c hTL;have hc4:4<=c:=by omega
   have hc4i:(4:Int)<=(c:Int):=by omega
   have HHP:=hid (Tryz.strings_HasPrefix ⟨(bs.take 4).toArray⟩ ⟨#[83,89,80,75]⟩ w);clear hTL;by_cases hp:packM <+: bs
   · have hb:Lib.hasPrefix (bs.take 4) packM=true:=by
      rw [Lib.hasPrefix,List.isPrefixOf_iff_prefix];exact List.prefix_take_iff.2 ⟨hp,by decide⟩
     rw [packM_str] at HHP;simp only [hb] at HHP;have HP:=hid hp;have S1:=hid (S0.out.newCell 231 #[.slice A bs.length c,.int .i64 4,.slice none 0 0,.int .i64 4]);clear hp hb;go_enter Tryz.func149,Tryz.ntmps149;go_wp2_with (go_at_call 195;(with_reducible refine HHP.out.mono ?_);refine halt_ ?_)
     rintro e w1 ⟨rfl,rfl⟩;go_wp2_with fail
     go_ret2;exact .inl ⟨_,HP.out,rfl,S1.out⟩
   have hb:Lib.hasPrefix (bs.take 4) packM=false:=by
    rw [<- Bool.not_eq_true,Lib.hasPrefix,List.isPrefixOf_iff_prefix];exact fun h=>hp (h.trans (List.take_prefix _ _))
   rw [packM_str] at HHP;simp only [hb] at HHP;have HP:=hid hp;clear hp hb;go_enter Tryz.func149,Tryz.ntmps149;go_wp2_with (go_at_call 195;(with_reducible refine HHP.out.mono ?_);refine halt_ ?_)
   rintro e w1 ⟨rfl,rfl⟩;go_wp2_with fail
   go_ret2;exact .inr ⟨HP.out,⟨_,rfl⟩,S0.out⟩
 have hmin:min (bs.length:Int) 4=(bs.length:Int):=by omega
 have hcv:=conv_str (HVW.out.1.sb) bs.length c rfl;have hvi:(bs.length:Int)<=(c:Int):=by omega
 have HHP:=hid (Tryz.strings_HasPrefix ⟨bs.toArray⟩ ⟨#[83,89,80,75]⟩ w);have HP:Hid (¬ packM <+: bs):=fun hp=>h4 hp.length_le
 have hb:Lib.hasPrefix bs packM=false:=by
  rw [<- Bool.not_eq_true,Lib.hasPrefix,List.isPrefixOf_iff_prefix];exact HP.out
 rw [packM_str] at HHP;simp only [hb] at HHP;clear hb;go_enter Tryz.func149,Tryz.ntmps149;go_wp2_with (go_at_call 195;(with_reducible refine HHP.out.mono ?_);refine halt_ ?_)
 rintro e w1 ⟨rfl,rfl⟩;go_wp2_with fail
 go_ret2;exact .inr ⟨HP.out,⟨_,rfl⟩,S0.out⟩
end
end Go.Proofs.YtmiknfneeipkeaaGreat
namespace Go.Proofs.YtmiknfneeipkeaaGreat
open Go.RowKit Go.MapKept Go.ChangeMaps Go.Shelf Go.Sort
attribute [local go_sem] wext_cell
def decP (bs:List UInt8):Option (List PC):=
 if 1048576<bs.length then none
 else if packM <+: bs then match frsP bs (bs.length+1) 4 [] with
  | some (l,k)=>if endP bs k l.length=true then some l else none
  | none=>none
 else none
section
variable {b:Nat} {w0 w w':World} {l:List Ob}
abbrev DecPP (bs:List UInt8) (b:Nat) (w0:World) (l:List Ob) (e:Ending) (w':World):Prop:=
 (∃ S D dc,decP bs=some (pcs S)/\(∀ x∈S,okID x.1)/\S.length<=bs.length/\e= .returned (.tuple #[.slice D S.length dc,.int .i64 0])/\SW b w0 (rowOb 42 3 (.slice D S.length dc) S.length (S.flatMap encCH)::bsOb S::l) w')∨
 (decP bs=none/\(∃ v q,q≠0/\e= .returned (.tuple #[v,.int .i64 q]))/\SW b w0 l w')
set_option maxRecDepth 100000 in
set_option maxHeartbeats 8000000 in
theorem packDec_any (h:SW b w0 l w) {A:Option Addr} {c:Nat} {bs:List UInt8} (hr:rsOb A bs∈l) (hv:(A=none->c=0)/\bs.length<=c/\bs.length<=9223372036854775807):
 Calls Tryz.prog 114 #[.slice A bs.length c] w (DecPP bs b w0 l):=by
 have S0:=hid h;have HR:=hid hr;have HVV:=hid hv;clear h hr hv;by_cases hb:1048576<bs.length
 · have HN:Hid (decP bs=none):=by rw [Hid,decP,if_pos hb]
   have hd1:decide ((1048576:Int)<(bs.length:Int))=true:=decide_eq_true (by omega);have hd2:decide (1048576<bs.length)=true:=decide_eq_true hb;go_enter Tryz.func114,Tryz.ntmps114;go_wp2_with fail
   go_ret2;exact .inr ⟨HN.out,⟨_,292,by decide,rfl⟩,S0.out⟩
 have hd1:decide ((1048576:Int)<(bs.length:Int))=false:=decide_eq_false (by omega);have hd2:decide (1048576<bs.length)=false:=decide_eq_false hb;have HNR:=hid (newReader_any S0.out HR.out HVV.out);go_enter Tryz.func114,Tryz.ntmps114;go_wp2_with (go_at_call 149;(with_reducible refine HNR.out.mono ?_);refine halt_ ?_)
 rintro e w1 (⟨g,hp,rfl,t1⟩ | ⟨hp,⟨v,rfl⟩,t1⟩)
 · have HP:=hid hp;have S1:=hid t1;have hl4:4<=bs.length:=hp.length_le;have HF:=hid (frames_any S1.out HR.out HVV.out hl4 (by omega));clear hp t1 HNR S0;go_wp2_with (go_at_call 150;(with_reducible refine HF.out.mono ?_);refine halt_ ?_)
   rintro e w2 (⟨S,k,D,dc,gd,hfr,hk,hSk,hok,rfl,t2⟩ | ⟨hfr,q,hq,rfl,t2⟩)
   · have HFR:=hid hfr;have HOK:=hid hok;have S2:=hid t2;have HE:=hid (end_any S2.out HR.out HVV.out hk (by omega) hSk);clear hfr hok t2 HF S1;go_wp2_with (go_at_call 151;(with_reducible refine HE.out.mono ?_);refine halt_ ?_)
     rintro e w3 (⟨he,rfl,k',t3⟩ | ⟨he,q,hq,rfl,t3⟩)
     · have HY:Hid (decP bs=some (pcs S)):=by
        rw [Hid,decP,if_neg hb,if_pos HP.out,HFR.out];simp only;rw [pcs_len,if_pos he]
       have S3:=hid t3;have a2:=(S3.out.cell 0 rfl).cell 2;clear he t3 HE S2;go_wp2_with fail
       go_ret2;exact .inl ⟨S,D,dc,HY.out,HOK.out,by omega,rfl,S3.out.tail⟩
     have HN:Hid (decP bs=none):=by
      rw [Hid,decP,if_neg hb,if_pos HP.out,HFR.out];simp only;rw [pcs_len,if_neg (by rw [he];simp)]
     have hqn:(q !=0)=true:=by rw [bne_iff_ne];exact hq
     have HQ:=hid hq;have S3:=hid t3;clear he hq t3 HE S2;go_wp2_with fail
     go_ret2;exact .inr ⟨HN.out,⟨_,q,HQ.out,rfl⟩,S3.out⟩
   have HN:Hid (decP bs=none):=by
    rw [Hid,decP,if_neg hb,if_pos HP.out,hfr]
   have hqn:(q !=0)=true:=by rw [bne_iff_ne];exact hq
   have HQ:=hid hq;have S2:=hid t2;clear hfr hq t2 HF S1;go_wp2_with fail
   go_ret2;exact .inr ⟨HN.out,⟨_,q,HQ.out,rfl⟩,S2.out⟩
 have HN:Hid (decP bs=none):=by rw [Hid,decP,if_neg hb,if_neg hp]
 have S1:=hid t1;clear hp t1 HNR S0;go_wp2_with fail
 go_ret2;exact .inr ⟨HN.out,⟨_,293,by decide,rfl⟩,S1.out⟩
end
end Go.Proofs.YtmiknfneeipkeaaGreat
namespace Go.Proofs.YtmiknfneeipkeaaGreat
open Go.RowKit
theorem mk_big (w:World) (n c:Nat) (h:n<=c) (hc:c<=1000000001000):(Instr.makeSlice 40 (.int .i64 n) (.int .i64 c)).run Tryz.prog w= .ok (.slice (some ⟨w.heap.size,0,none⟩) n c) (w.alloc (.cells (Array.replicate c (encU 0)) 5)):=by
 obtain ⟨i0,hi,hz0,hz1,hz2⟩:=info_parts info5;have:=run_make (P:=Tryz.prog) w 40 5 i0 _ Tryz.underlying40 hi hz0 .i64 .i64 n c (by omega) (by omega) (by rw [hz2];omega) (by omega);simp only [Int.toNat_natCast] at this;have e:madeCells (Value.int IntKind.u8 0).cells c=(Array.replicate c (encU 0)):=Array.ext' (by rw [show (Value.int IntKind.u8 0).cells= #[Value.int IntKind.u8 0] from rfl,toList_madeCells_one];simp [encU]);rw [this,hz1,Nat.mul_one,e]
set_option maxRecDepth 100000 in
set_option maxHeartbeats 1000000 in
theorem extended_big (A:Option Addr) (c:Nat) (bs:List UInt8) (n:Nat) (w:World) (h:SB w A bs) (hn:bs.length<=1000000000000) (hk:n<=1000):
 Calls Tryz.prog 92 #[.slice A bs.length c,.int .i64 (n:Int)] w (NewB bs w):=by
 have hmk:=mk_big w bs.length (bs.length+n) (by omega) (by omega);rw [Int.natCast_add] at hmk;have hB:IsB (w.alloc (.cells (Array.replicate (bs.length+n) (encU 0)) 5)) w.heap.size 5 (Array.replicate (bs.length+n) (encU 0)):=IsB.new _ _ _;obtain ⟨w1,hcp,hg,hz,cur',c1,c2,c3,c4⟩:=run_copyB _ 3 w.heap.size bs.length (bs.length+n) _ hB A c bs (h.on (bel1q _ _) h.lt) (by simp);rw [Nat.min_self] at hcp c3 c4;have HG:=hid hg;have C1:=hid c1;have C2:=hid c2;have C3:=hid c3;clear hg hz c1 c2 c3 c4 hB h;go_enter Tryz.func92,Tryz.ntmps92;go_wp2_with fail
 go_ret;refine ⟨⟨some ⟨w.heap.size,0,none⟩,bs.length,bs.length+n⟩,rfl,⟨rfl,by simp,(fun e=>by cases e),fun ad e=>?_⟩,(fun g hg=>by simp [blk] at hg;omega),?_⟩
 · injection e with e;subst e;refine ⟨_,cur',rfl,C1.out,by rw [C2.out];simp,fun j u hu=>?_⟩;obtain ⟨hj,rfl⟩:=get_encU hu;exact C3.out j hj
 exact (bel1q w _).grown HG.out (by simp) (by simp)
set_option maxRecDepth 100000 in
set_option maxHeartbeats 4000000 in
theorem appendUint_big (d:BD) (bs:List UInt8) (v:Nat) (w0 w:World) (hr:RB w d bs) (hd:∀ g,blk d=some g->w0.heap.size<=g) (h0:Below w0.heap.size w0 w) (hv:v<18446744073709551616) (hn:bs.length<=1000000000000):
 Calls Tryz.prog 91 #[.slice d.A d.len d.cap,.int .u64 (v:Int)] w (NewB (bs++putU v) w0):=by
 have HR:=hid hr;have HD:=hid hd;have H0:=hid h0;clear hr hd h0;go_enter Tryz.func91,Tryz.ntmps91;go_wp2_with fail
 go_loopw [0,1] (fun s x wr=>∃ (u:Nat) (d':BD) (cs:List UInt8),u<18446744073709551616/\x= .int .u64 ((u:Nat):Int)/\s= .slice d'.A d'.len d'.cap/\RB wr d' cs/\Hid (cs++putU u=bs++putU v)/\(∀ g,blk d'=some g->w0.heap.size<=g)/\Below w0.heap.size w0 wr) (fun _ x _=>(intOf x).toNat)
 case atStart=>exact ⟨v,d,bs,hv,rfl,rfl,HR.out,rfl,HD.out,H0.out⟩
 obtain ⟨u,d',cs,hu,rfl,rfl,hr,HE,hd,hb⟩:=hrel;have R1:=hid hr;have D1:=hid hd;have B1:=hid hb;clear hr hd hb;have hv10:(putU v).length<=10:=putU_len (k:=9) (by omega)
 have hcl:cs.length<=bs.length+10:=by
  have:=congrArg List.length HE.out;simp only [List.length_append] at this;omega
 clear hv10;by_cases hlt:128<=u
 · have e1:=set7 u hu;have HP:Hid (putU u=UInt8.ofNat (u % 128+128)::putU (u / 128)):=by rw [Hid,putU,dif_neg (by omega)]
   go_wp2_with (at_builtin;refine halt_q ?_)
   have hx:(((UInt8.ofNat (u % 128+128)).toNat:Nat):Int)=(u:Int) % 128+128:=by
    rw [UInt8.toNat_ofNat'];omega
   have S1:=sb_one wr _ _ hx;refine wpList_append_bytes rfl _ _ rfl d' cs rfl (R1.out.on (bel1q _ _)) (some ⟨wr.heap.size,0,none⟩) 1 [UInt8.ofNat (u % 128+128)] rfl S1 (by simp only [List.length_cons,List.length_nil];omega) ?_;intro d2 w2 hl2 happ;obtain ⟨r1,r2,r3⟩:=happ.new (w0:=w0) D1.out (B1.out.trans ((bel1q wr _).mono B1.out.size));have R2:=hid r1;have D2:=hid r2;have B2:=hid r3;clear r1 r2 r3 happ hl2 hx S1 e1;unfold vB;go_wp2_with fail
   go_roundw
   case rel=>exact ⟨u / 128,d2,cs++[UInt8.ofNat (u % 128+128)],by omega,by go_num,rfl,R2.out,by rw [Hid,List.append_assoc,List.singleton_append, <- HP.out];exact HE.out,D2.out,B2.out⟩
   simp [intOf];omega
 have HP:Hid (putU u=[UInt8.ofNat u]):=by rw [Hid,putU,dif_pos (by omega)]
 go_wp2_with (at_builtin;refine halt_q ?_)
 have hx:(((UInt8.ofNat u).toNat:Nat):Int)=(u:Int):=by
  rw [UInt8.toNat_ofNat'];omega
 have S1:=sb_one wr _ _ hx;refine wpList_append_bytes rfl _ _ rfl d' cs rfl (R1.out.on (bel1q _ _)) (some ⟨wr.heap.size,0,none⟩) 1 [UInt8.ofNat u] rfl S1 (by simp only [List.length_cons,List.length_nil];omega) ?_;intro d2 w2 hl2 happ;obtain ⟨r1,r2,r3⟩:=happ.new (w0:=w0) D1.out (B1.out.trans ((bel1q wr _).mono B1.out.size));rw [<- HP.out,HE.out] at r1;have R2:=hid r1;have D2:=hid r2;have B2:=hid r3;clear r1 r2 r3 happ hl2 hx S1;unfold vB;go_wp2_with fail
 go_ret;exact ⟨d2,rfl,R2.out,D2.out,B2.out⟩
set_option maxRecDepth 100000 in
set_option maxHeartbeats 1000000 in
theorem PutUint_big (A:Option Addr) (c:Nat) (bs:List UInt8) (v:Nat) (w:World) (h:SB w A bs) (hn:bs.length<=900000000000) (hv:v<18446744073709551616):
 Calls Tryz.prog 43 #[.slice A bs.length c,.int .u64 (v:Int)] w (NewB (bs++putU v) w):=by
 have H:=hid h;clear h;go_enter Tryz.func43,Tryz.ntmps43;go_wp2_with fail
 refine (uintSize_any v _ hv).mono ?_;rintro e w1 ⟨⟨n,rfl,hn2⟩,rfl⟩;go_wp2_with fail
 refine (extended_big A c bs n w H.out (by omega) (by omega)).mono ?_;rintro e w1 ⟨⟨B,m,cc⟩,rfl,hr,hd,hb⟩;have R1:=hid hr;have D1:=hid hd;have B1:=hid hb;clear hr hd hb;unfold vB;go_wp2_with fail
 refine (appendUint_big ⟨B,m,cc⟩ bs v w w1 R1.out D1.out B1.out hv (by omega)).mono ?_;rintro e w2 ⟨d2,rfl,hr,hd,hb⟩;have R2:=hid hr;have D2:=hid hd;have B2:=hid hb;clear hr hd hb;unfold vB;go_wp2_with fail
 go_ret;exact ⟨d2,rfl,R2.out,D2.out,B2.out⟩
end Go.Proofs.YtmiknfneeipkeaaGreat
