/- Q -/
import Derived.Test.YteabgcollokgjaaGreatDoorY39
set_option linter.unusedSimpArgs false
set_option linter.unusedVariables false
set_option maxRecDepth 100000
set_option maxHeartbeats 32000000
open Go.Lib (hid)
open List renaming setIfInBounds_toArray → zA
namespace Go.Proofs.YteabgcollokgjaaGreatDoor
section
open Go.RowKit Go.MapKept Go.ChangeMaps Go.Shelf Go.Sort
attribute [local go_sem] wext_cell
abbrev StepQ (b:Nat) (w0:World) (c:CR) (x:SR) (tg:Nat) (A:Option Addr) (cap:Nat) (L:List Int) (n g3 dp sp kp k:Nat) (R:List Ob) (e:Ending) (w':World):Prop:=
 ∃ c' x' r' n',e= .returned (.bool true)/\SW b w0 (plL c' x' tg A cap L n' g3 dp sp kp r' R) w'/\PlayI kp sp c' x' r'/\n'<=n+16/\r'.hs.length<=k+1/\Keeps c x c' x'
section
variable {b:Nat} {w0 w:World} {c:CR} {x:SR} {tg:Nat} {A:Option Addr} {cap:Nat} {L:List Int} {n g3 dp sp kp:Nat} {r:RC} {R:List Ob}
theorem step_any (h:SW b w0 (plL c x tg A cap L n g3 dp sp kp r R) w) (hI:PlayI kp sp c x r) (hn:n<=800000) (hh:r.hs.length<=9000):Calls Tryz.prog 66 #[vPtr g3] w (StepQ b w0 c x tg A cap L n g3 dp sp kp r.hs.length R):=by
 obtain rfl:=hI.cp;have S0:=hid h;have PI:=hid hI;obtain ⟨k,HK⟩:∃ k,Hid (r.hs.length=k):=⟨_,rfl⟩;rw [HK.out] at hh |-; clear h hI;go_enter Tryz.func66,Tryz.ntmps66;go_upto_region 1 with fail
 refine wp_region_held_tail [(0,true),(1,true),(2,true),(3,true),(4,true),(5,true),(6,true),(7,true),(9,true),(10,true),(11,true),(12,true),(8,false),(13,false),(14,true),(15,true),(16,true)] (fun w'=>w'.cell? ⟨g3,0,none⟩=some (vPtr tg)) (by kernel_rfl) (fun _ _ d _ _ h=>by cases d<;>exact h) (by kernel_rfl) (((S0.out.drew.cell 6 rfl).cell 0)) ?_;simp only [pk_]
 iterate 12
  (refine wpHeld_take (v:=?_) (Or.inl ⟨by rfl,?_⟩) ?_
   rotate_left
   · (intro w' hSw;have h1:=hSw;go_simp;try with_reducible rfl)
   try simp only [Act.put,zA,List.set])
 refine wpHeld_run (fun KK hKK=>?_);go_simp;go_at_call 33
 refine (Next_x S0.out.drew 5 rfl 4 (by omega) (by omega)).mono ?_;rintro e w1 ⟨rfl,s1⟩;have S1:Hid (SW b w0 (plL c x tg A cap L (n+1) g3 dp sp c.cp r R) w1):=s1;clear s1;go_wp2_with fail
 refine hKK.out _ _ ((S1.out.cell 6 rfl).cell 0) ?_;clear hKK KK;try simp only [Act.put,zA,List.set]
 refine wpHeld_run (fun KK hKK=>?_);go_simp;go_at_call 33
 refine (Next_x S1.out 5 rfl 9 (by omega) (by omega)).mono ?_;rintro e w2 ⟨rfl,s2⟩;have S2:Hid (SW b w0 (plL c x tg A cap L (n+2) g3 dp sp c.cp r R) w2):=s2;clear s2;go_wp2_with fail
 refine hKK.out _ _ ((S2.out.cell 6 rfl).cell 0) ?_;clear hKK KK;try simp only [Act.put,zA,List.set]
 iterate 3
  (refine wpHeld_take (v:=?_) (Or.inl ⟨by rfl,?_⟩) ?_
   rotate_left
   · (intro w' hSw;have h1:=hSw;go_simp;try with_reducible rfl)
   try simp only [Act.put,zA,List.set])
 refine wpHeld_nil ?_;simp only [dz_]
 have HN:Hid (-1<=IntKind.i64.wrap (tnext L n 4-IntKind.i64.wrap ((tnext L (n+1) 9).tdiv 8))/\IntKind.i64.wrap (tnext L n 4-IntKind.i64.wrap ((tnext L (n+1) 9).tdiv 8))<=3):=by
  obtain ⟨h1,h2⟩:=tnext_in L n 4;obtain ⟨h3,h4⟩:=tnext_in L (n+1) 9;have h2:=h2 (by omega);have h4:=h4 (by omega);generalize tnext L n 4=a at *; generalize tnext L (n+1) 9=q at *; have e1:q.tdiv 8=q / 8:=Int.tdiv_eq_ediv_of_nonneg h3;have e2:0<=q / 8/\q / 8<=1:=by omega
  rw [Hid,e1,IntWalk.i64_in (q / 8) (by omega),IntWalk.i64_in _ (by omega)];omega
 generalize IntKind.i64.wrap (tnext L n 4-IntKind.i64.wrap ((tnext L (n+1) 9).tdiv 8))=N at HN |-; have HNX:=hid (Next_x S2.out 5 rfl 9 (by omega) (by omega));clear S0 S1;go_wp2_with (go_at_call 33;(with_reducible refine HNX.out.mono ?_);refine halt_ ?_)
 rintro e w3 ⟨rfl,s3⟩;have S3:Hid (SW b w0 (plL c x tg A cap L (n+3) g3 dp sp c.cp r R) w3):=s3;clear s3 HNX S2;obtain ⟨hv0,hv9⟩:=tnext_in L (n+2) 9;have hv9:=hv9 (by omega);generalize tnext L (n+2) 9=v at hv0 hv9 |-; by_cases v0:v=0
 · subst v0;obtain ⟨V,HV⟩:∃ V,Hid ((decide (N<0)||begH r.hs N||decide (16<=zerosH r.hs))=V):=⟨_,rfl⟩;obtain ⟨code,HCO⟩:∃ code:Int,Hid ((if V=true then 401 else 0)=code):=⟨_,rfl⟩;obtain ⟨hs2,HHS⟩:∃ hs2,Hid ((if V=true then r.hs else r.hs++[(N,id0)])=hs2):=⟨_,rfl⟩
   have HHL:Hid (hs2.length<=k+1):=by
    rw [Hid, <- HHS.out, <- HK.out];split<;>simp
   have HB:=Begin_P S3.out PI.out.se N HN.out.2 HV.out;rw [HCO.out,HHS.out] at HB;have HB:=hid HB;have k3:=(S3.out.cell 6 rfl).cell 3;go_wp2_with (go_at_call 71;(with_reducible refine HB.out.mono ?_);refine halt_ ?_)
   rintro e w4 ⟨c',rfl,s4,ho,hse⟩;have S4:Hid (SW b w0 (plL c' x tg A cap L (n+3) g3 dp sp c.cp r R) w4):=s4;have HO:=hid ho;have HSE:=hid hse;clear s4 ho hse HB S3 k3;have k4:=(S4.out.cell 6 rfl).cell 4;have k5:=(S4.out.cell 6 rfl).cell 5;have k6:=(S4.out.cell 6 rfl).cell 6;have k7:=(S4.out.cell 6 rfl).cell 7;have HRF:=rBegin_R S4.out r ⟨by simp,by simp,by simp⟩ N V HV.out (by have:=HK.out;omega) HCO.out HHS.out;simp only [rcV] at HRF;have HRF:=hid HRF;go_wp2_with (go_at_call 114;(with_reducible refine HRF.out.mono ?_);refine halt_ ?_)
   rintro e w5 ⟨r',rfl,s5,hr1,hr2,hr3⟩;have PI2:Hid (PlayI c.cp sp c' x r'):=PI.out.same HO.out hr1 hr2 (by rw [hr3];exact HSE.out);have HL3:Hid (r'.hs.length<=k+1):=by rw [Hid,hr3];exact HHL.out
   clear hr1 hr2 hr3 HRF S4 k4 k5 k6 k7;have S5:Hid (SW b w0 (rcL r' (plL c' x tg A cap L (n+3) g3 dp sp c.cp r R)) w5):=s5;have S6:Hid (SW b w0 (cellOb w5.heap.size 100 #[.slice r'.r.A r'.r.E.length r'.r.c,.slice r'.r.B r'.r.E.length r'.r.k,.slice r'.CA r'.cd.length r'.cc,.slice r'.HA r'.hs.length r'.hc]::rcL r' (plL c' x tg A cap L (n+3) g3 dp sp c.cp r R)) _):=hid (S5.out.newCell 100 #[.slice r'.r.A r'.r.E.length r'.r.c,.slice r'.r.B r'.r.E.length r'.r.k,.slice r'.CA r'.cd.length r'.cc,.slice r'.HA r'.hs.length r'.hc]);clear s5 S5;go_upto_region 6 with fail
   generalize w5.alloc _=W6 at S6 |-; generalize w5.heap.size=gN at S6 |-; have c0:=(S6.out.cell 0 rfl).cell 0;have c1:=(S6.out.cell 0 rfl).cell 1;have c2:=(S6.out.cell 0 rfl).cell 2;have c3:=(S6.out.cell 0 rfl).cell 3;have z4:=(S6.out.cell 10 rfl).cell 4;have f4:=(S6.out.cell 10 rfl).frozen 4;have z5:=(S6.out.cell 10 rfl).cell 5;have f5:=(S6.out.cell 10 rfl).frozen 5;have z6:=(S6.out.cell 10 rfl).cell 6;have f6:=(S6.out.cell 10 rfl).frozen 6;have z7:=(S6.out.cell 10 rfl).cell 7;have f7:=(S6.out.cell 10 rfl).frozen 7;have S7:Hid (SW b w0 (plL c' x tg A cap L (n+3) g3 dp sp c.cp r' R) _):=hid (SW.few (pre:=[_,_,_,_,_,_,_,_,_,_,_,_,_,_]) ((((S6.out.setAt 10 rfl 4 (.slice r'.r.A r'.r.E.length r'.r.c)).setAt 10 rfl 5 (.slice r'.r.B r'.r.E.length r'.r.k)).setAt 10 rfl 6 (.slice r'.CA r'.cd.length r'.cc)).setAt 10 rfl 7 (.slice r'.HA r'.hs.length r'.hc)) [4,5,6,7,8,9,10,1,2,3] (n:=14) rfl (by decide) (by decide));clear S6;go_upto_region 7 with fail
   obtain ⟨W7,HW7⟩:∃ W7,Hid (_=W7)/\SW b w0 (plL c' x tg A cap L (n+3) g3 dp sp c.cp r' R) W7:=⟨_,rfl,S7.out⟩;rw [HW7.1.out];have S8:=hid HW7.2;clear HW7 S7 z4 f4 z5 f5 z6 f6 z7 f7 c0 c1 c2 c3;have hcc:(code==code)=true:=by simp
   go_wp2_with fail
   go_ret;exact ⟨c',x,r',n+3,rfl,S8.out,PI2.out,by omega,HL3.out,Keeps.same HO.out⟩
 by_cases v1:v=1
 · subst v1;obtain ⟨V,HV⟩:∃ V,Hid (begH r.hs N=V):=⟨_,rfl⟩;obtain ⟨code,HCO⟩:∃ code:Int,Hid ((if V=true then 0 else 401)=code):=⟨_,rfl⟩;obtain ⟨hs2,HHS⟩:∃ hs2,Hid ((if V=true then endH r.hs N else r.hs)=hs2):=⟨_,rfl⟩
   have HHL:Hid (hs2.length<=k+1):=by
    rw [Hid, <- HHS.out, <- HK.out];have:=endH_le r.hs N;split<;>omega
   have HB:=End_P S3.out PI.out.se N HV.out;rw [HCO.out,HHS.out] at HB;have HB:=hid HB;have k3:=(S3.out.cell 6 rfl).cell 3;go_wp2_with (go_at_call 67;(with_reducible refine HB.out.mono ?_);refine halt_ ?_)
   rintro e w4 ⟨c',rfl,s4,ho,hse⟩;have S4:Hid (SW b w0 (plL c' x tg A cap L (n+3) g3 dp sp c.cp r R) w4):=s4;have HO:=hid ho;have HSE:=hid hse;clear s4 ho hse HB S3 k3;have k4:=(S4.out.cell 6 rfl).cell 4;have k5:=(S4.out.cell 6 rfl).cell 5;have k6:=(S4.out.cell 6 rfl).cell 6;have k7:=(S4.out.cell 6 rfl).cell 7;have HRF:=rEnd_R S4.out r ⟨by simp,by simp,by simp⟩ N V HV.out (by have:=HK.out;omega) HCO.out HHS.out;simp only [rcV] at HRF;have HRF:=hid HRF;go_wp2_with (go_at_call 68;(with_reducible refine HRF.out.mono ?_);refine halt_ ?_)
   rintro e w5 ⟨r',rfl,s5,hr1,hr2,hr3⟩;have PI2:Hid (PlayI c.cp sp c' x r'):=PI.out.same HO.out hr1 hr2 (by rw [hr3];exact HSE.out);have HL3:Hid (r'.hs.length<=k+1):=by rw [Hid,hr3];exact HHL.out
   clear hr1 hr2 hr3 HRF S4 k4 k5 k6 k7;have S5:Hid (SW b w0 (rcL r' (plL c' x tg A cap L (n+3) g3 dp sp c.cp r R)) w5):=s5;have S6:Hid (SW b w0 (cellOb w5.heap.size 100 #[.slice r'.r.A r'.r.E.length r'.r.c,.slice r'.r.B r'.r.E.length r'.r.k,.slice r'.CA r'.cd.length r'.cc,.slice r'.HA r'.hs.length r'.hc]::rcL r' (plL c' x tg A cap L (n+3) g3 dp sp c.cp r R)) _):=hid (S5.out.newCell 100 #[.slice r'.r.A r'.r.E.length r'.r.c,.slice r'.r.B r'.r.E.length r'.r.k,.slice r'.CA r'.cd.length r'.cc,.slice r'.HA r'.hs.length r'.hc]);clear s5 S5;go_upto_region 11 with fail
   generalize w5.alloc _=W6 at S6 |-; generalize w5.heap.size=gN at S6 |-; have c0:=(S6.out.cell 0 rfl).cell 0;have c1:=(S6.out.cell 0 rfl).cell 1;have c2:=(S6.out.cell 0 rfl).cell 2;have c3:=(S6.out.cell 0 rfl).cell 3;have z4:=(S6.out.cell 10 rfl).cell 4;have f4:=(S6.out.cell 10 rfl).frozen 4;have z5:=(S6.out.cell 10 rfl).cell 5;have f5:=(S6.out.cell 10 rfl).frozen 5;have z6:=(S6.out.cell 10 rfl).cell 6;have f6:=(S6.out.cell 10 rfl).frozen 6;have z7:=(S6.out.cell 10 rfl).cell 7;have f7:=(S6.out.cell 10 rfl).frozen 7;have S7:Hid (SW b w0 (plL c' x tg A cap L (n+3) g3 dp sp c.cp r' R) _):=hid (SW.few (pre:=[_,_,_,_,_,_,_,_,_,_,_,_,_,_]) ((((S6.out.setAt 10 rfl 4 (.slice r'.r.A r'.r.E.length r'.r.c)).setAt 10 rfl 5 (.slice r'.r.B r'.r.E.length r'.r.k)).setAt 10 rfl 6 (.slice r'.CA r'.cd.length r'.cc)).setAt 10 rfl 7 (.slice r'.HA r'.hs.length r'.hc)) [4,5,6,7,8,9,10,1,2,3] (n:=14) rfl (by decide) (by decide));clear S6;go_upto_region 12 with fail
   obtain ⟨W7,HW7⟩:∃ W7,Hid (_=W7)/\SW b w0 (plL c' x tg A cap L (n+3) g3 dp sp c.cp r' R) W7:=⟨_,rfl,S7.out⟩;rw [HW7.1.out];have S8:=hid HW7.2;clear HW7 S7 z4 f4 z5 f5 z6 f6 z7 f7 c0 c1 c2 c3;have hcc:(code==code)=true:=by simp
   go_wp2_with fail
   go_ret;exact ⟨c',x,r',n+3,rfl,S8.out,PI2.out,by omega,HL3.out,Keeps.same HO.out⟩
 by_cases v23:v=2∨v=3
 · obtain ⟨h23⟩:Nonempty (v=2∨v=3):=⟨v23⟩;clear v23;have HPUT:True:=trivial;clear HPUT;go_upto_if 95 with fail
   go_cut [95] from 98 (fun s95 w'=>s95= .bool true/\w'=w3)
   case first=>
    rcases h23 with rfl | rfl
    · go_wp2_with fail
      go_meet;exact ⟨rfl,rfl⟩
    go_wp2_with fail
    go_meet;exact ⟨rfl,rfl⟩
   obtain ⟨rfl,rfl⟩:=hcut;obtain ⟨V,HV⟩:∃ V,Hid (begH r.hs N=V):=⟨_,rfl⟩;have HTX:=hid (text74_x S3.out 5 rfl (by omega));have HX:=hid (textB_is L (n+3));have htn:=(textN_in L (n+3)).2;go_upto_region 15 with fail
   go_wp2_with (go_at_call 74;(with_reducible refine HTX.out.mono ?_);refine halt_ ?_)
   rintro e w4 ⟨d,rfl,s4⟩;obtain ⟨bs,HBS⟩:∃ bs,Hid (textB L (n+3)=bs):=⟨_,rfl⟩;rw [HBS.out] at s4 HX;have hrb:RB w4 d bs:=s4.get 0 (o:=bufOb d bs) rfl;have HDL:Hid (d.len=bs.length):=hrb.1.symm;have S4:Hid (SW b w0 (plL c x tg A cap L (n+3+1+textN L (n+3)) g3 dp sp c.cp r (bufOb d bs::R)) w4):=SW.front (pre:=[_,_,_,_,_,_,_,_,_,_,_]) s4 [1,2,3,4,5,6,7,8,9,10,0] (n:=11) rfl (by decide);rw [HDL.out];clear s4 hrb HTX S3;have HNX:=hid (Next_x S4.out 5 rfl 12 (by omega) (by omega));go_wp2_with (go_at_call 33;(with_reducible refine HNX.out.mono ?_);refine halt_ ?_)
   rintro e w6 ⟨rfl,s6⟩;have S6:Hid (SW b w0 (plL c x tg A cap L (n+3+1+textN L (n+3)+1) g3 dp sp c.cp r (bufOb d bs::R)) w6):=s6;clear s6 HNX S4;obtain ⟨u,HU⟩:∃ u,Hid (tnext L (n+3+1+textN L (n+3)) 12=u):=⟨_,rfl⟩;rw [HU.out];clear HU HBS;by_cases hu:u=0
   · have hub:(u==0)=true:=by simp [hu]
     go_upto_region 18 with fail
     have HB:=PutN_P S6.out PI.out.se PI.out.ps PI.out.cl N HV.out;obtain ⟨code,HCO⟩:∃ code:Int,Hid ((if V=true then 330 else 401)=code):=⟨_,rfl⟩;rw [HCO.out] at HB;have HB:=hid HB;have k3:=(S6.out.cell 6 rfl).cell 3;go_wp2_with (go_at_call 72;(with_reducible refine HB.out.mono ?_);refine halt_ ?_)
     rintro e w7 ⟨rfl,s7⟩;have S7:Hid (SW b w0 (cellOb w7.heap.size 31 #[.int .u64 0,.int .i64 0]::plL c x tg A cap L (n+3+1+textN L (n+3)+1) g3 dp sp c.cp r (bufOb d bs::R)) (w7.alloc (.cells #[.int .u64 0,.int .i64 0] 31))):=hid (SW.newCell s7 31 #[.int .u64 0,.int .i64 0]);clear s7 HB S6 k3;go_upto_region 19 with fail
     generalize w7.alloc _=W7 at S7 |-; generalize w7.heap.size=gI at S7 |-; have k4:=(S7.out.cell 7 rfl).cell 4;have k5:=(S7.out.cell 7 rfl).cell 5;have k6:=(S7.out.cell 7 rfl).cell 6;have k7:=(S7.out.cell 7 rfl).cell 7;have HRF:=rPutN_R S7.out r ⟨by simp,by simp,by simp⟩ N V HV.out (by have:=HK.out;omega) HCO.out;simp only [rcV] at HRF;have HRF:=hid HRF;go_wp2_with (go_at_call 115;(with_reducible refine HRF.out.mono ?_);refine halt_ ?_)
     rintro e w8 ⟨rfl,s8⟩;have PI2:=PI;have HL3:Hid (r.hs.length<=k+1):=by have:=HK.out;unfold Hid;omega
     obtain ⟨r',HR'⟩:∃ r',Hid (r=r'):=⟨_,rfl⟩
     have S8:Hid (SW b w0 (rcL r' (cellOb gI 31 #[.int .u64 0,.int .i64 0]::plL c x tg A cap L (n+3+1+textN L (n+3)+1) g3 dp sp c.cp r (bufOb d bs::R))) w8):=by
      rw [Hid, <- HR'.out];exact s8
     rw [HR'.out] at PI2 HL3;clear s8 HRF S7 k4 k5 k6 k7;have S9:Hid (SW b w0 (cellOb (w8.heap.size+1) 31 #[.int .u64 0,.int .i64 0]::cellOb w8.heap.size 100 #[.slice r'.r.A r'.r.E.length r'.r.c,.slice r'.r.B r'.r.E.length r'.r.k,.slice r'.CA r'.cd.length r'.cc,.slice r'.HA r'.hs.length r'.hc]::rcL r' (cellOb gI 31 #[.int .u64 0,.int .i64 0]::plL c x tg A cap L (n+3+1+textN L (n+3)+1) g3 dp sp c.cp r (bufOb d bs::R))) _):=hid ((S8.out.newCell 100 #[.slice r'.r.A r'.r.E.length r'.r.c,.slice r'.r.B r'.r.E.length r'.r.k,.slice r'.CA r'.cd.length r'.cc,.slice r'.HA r'.hs.length r'.hc]).newCellAt 31 #[.int .u64 0,.int .i64 0] (H:=w8.heap.size+1) (by simp));clear S8;rw [HR'.out];go_upto_region 20 with fail
     generalize (w8.alloc _).alloc _=W9 at S9 |-; generalize w8.heap.size+1=gJ at S9 |-; generalize w8.heap.size=gN at S9 |-; have c0:=(S9.out.cell 1 rfl).cell 0;have c1:=(S9.out.cell 1 rfl).cell 1;have c2:=(S9.out.cell 1 rfl).cell 2;have c3:=(S9.out.cell 1 rfl).cell 3;have z4:=(S9.out.cell 12 rfl).cell 4;have f4:=(S9.out.cell 12 rfl).frozen 4;have z5:=(S9.out.cell 12 rfl).cell 5;have f5:=(S9.out.cell 12 rfl).frozen 5;have z6:=(S9.out.cell 12 rfl).cell 6;have f6:=(S9.out.cell 12 rfl).frozen 6;have z7:=(S9.out.cell 12 rfl).cell 7;have f7:=(S9.out.cell 12 rfl).frozen 7;have S7:Hid (SW b w0 (cellOb gJ 31 #[.int .u64 0,.int .i64 0]::cellOb gI 31 #[.int .u64 0,.int .i64 0]::plL c x tg A cap L (n+3+1+textN L (n+3)+1) g3 dp sp c.cp r' R) _):=hid (SW.few (pre:=[_,_,_,_,_,_,_,_,_,_,_,_,_,_,_,_,_]) ((((S9.out.setAt 12 rfl 4 (.slice r'.r.A r'.r.E.length r'.r.c)).setAt 12 rfl 5 (.slice r'.r.B r'.r.E.length r'.r.k)).setAt 12 rfl 6 (.slice r'.CA r'.cd.length r'.cc)).setAt 12 rfl 7 (.slice r'.HA r'.hs.length r'.hc)) [0,5,6,7,8,9,10,11,12,2,3,4] (n:=17) rfl (by decide) (by decide));clear S9;go_upto_region 21 with fail
     obtain ⟨W7,HW7⟩:∃ W7,Hid (_=W7)/\SW b w0 (cellOb gJ 31 #[.int .u64 0,.int .i64 0]::cellOb gI 31 #[.int .u64 0,.int .i64 0]::plL c x tg A cap L (n+3+1+textN L (n+3)+1) g3 dp sp c.cp r' R) W7:=⟨_,rfl,S7.out⟩;rw [HW7.1.out];have S8:=hid HW7.2;clear HW7 S7 z4 f4 z5 f5 z6 f6 z7 f7 c0 c1 c2 c3;have a0:=(S8.out.cell 0 rfl).cell 0;have a1:=(S8.out.cell 0 rfl).cell 1;have b0:=(S8.out.cell 1 rfl).cell 0;have b1:=(S8.out.cell 1 rfl).cell 1;have heq:=fun W=>eql31 ((0,0):ID) (0,0) W;rw [decide_eq_true rfl] at heq;have hcc:(code==code)=true:=by simp
     go_wp2_with fail
     go_ret;have htn:=(textN_in L (n+3)).2;exact ⟨c,x,r',n+3+1+textN L (n+3)+1,rfl,S8.out.tail.tail,PI2.out,by omega,HL3.out,Keeps.same ⟨rfl,rfl,rfl⟩⟩
   have hub:(u==0)=false:=by simp [hu]
   go_upto_region 18 with fail
   obtain ⟨P,hT,hR⟩:=PI.out.tx;have HR0:=hid hR;have HB:=PutT_P S6.out PI.out.se PI.out.ps PI.out.cl hT N d.A d.cap bs (bufOb d bs) (by simp) (fun _ h=>RB.rs h) HX.out HV.out;have HB:=hid HB;have HT0:=hid hT;have k3:=(S6.out.cell 6 rfl).cell 3;clear hT hR;go_wp2_with (go_at_call 72;(with_reducible refine HB.out.mono ?_);refine halt_ ?_)
   rintro e w7 ⟨i,code,c',x',hs2,P2,rfl,s7,ho,hcl,hps,hT2,hse,hv0,hv1⟩;have HO:=hid ho;have HCL:=hid hcl;have HPS:=hid hps;have HT2:=hid hT2;have HSE:=hid hse;have HV0:=hid hv0;have HV1:=hid hv1;have S7:Hid (SW b w0 (cellOb w7.heap.size 31 #[.int .u64 i.1,.int .i64 i.2]::plL c' x' tg A cap L (n+3+1+textN L (n+3)+1) g3 dp sp c.cp r (bufOb d bs::R)) (w7.alloc (.cells #[.int .u64 i.1,.int .i64 i.2] 31))):=hid (SW.newCell s7 31 #[.int .u64 i.1,.int .i64 i.2]);clear s7 HB S6 k3 ho hcl hps hT2 hse hv0 hv1;go_upto_region 19 with fail
   generalize w7.alloc _=W7 at S7 |-; generalize w7.heap.size=gI at S7 |-; have k4:=(S7.out.cell 7 rfl).cell 4;have k5:=(S7.out.cell 7 rfl).cell 5;have k6:=(S7.out.cell 7 rfl).cell 6;have k7:=(S7.out.cell 7 rfl).cell 7;have HRF:=rPutT_R S7.out r ⟨by simp,by simp,by simp⟩ N HR0.out d bs (by simp) HX.out V HV.out (by have:=HK.out;omega) (by have:=PI.out.few.2;omega);simp only [rcV] at HRF;rw [HDL.out] at HRF;have HRF:=hid HRF;go_wp2_with (go_at_call 115;(with_reducible refine HRF.out.mono ?_);refine halt_ ?_)
   rintro e w8 ⟨r',i2,code2,P3,rfl,s8,hR3,hcd,hv0,hv1⟩
   have HKP:Hid (Keeps c x c' x'):=by
    refine Keeps.put HO.out HT0.out HT2.out (fun t ht=>?_);cases V with
    | false=>rw [(HV0.out rfl).2.2.2];exact ht
    | true=>rw [(HV1.out rfl).2.2.2];exact List.mem_append_left _ ht
   have hall:i2=i/\code2=code/\P3=P2/\r'.hs=hs2/\hs2.length<=k+1:=by
    have hk:=HK.out;cases V with
    | false=>
     obtain ⟨a1,a2,a3,a4⟩:=HV0.out rfl;obtain ⟨b1,b2,b3,b4⟩:=hv0 rfl;exact ⟨b1.trans a1.symm,b2.trans a2.symm,b4.trans a4.symm,b3.trans a3.symm,by rw [a3];omega⟩
    | true=>
     obtain ⟨a1,a2,a3,a4⟩:=HV1.out rfl;obtain ⟨b1,b2,b3,b4⟩:=hv1 rfl;exact ⟨b1.trans a1.symm,b2.trans a2.symm,b4.trans a4.symm,b3.trans a3.symm,by rw [a3,List.length_append];simp;omega⟩
   obtain ⟨q1,q2,q3,q4,q5⟩:=hall;subst q1;subst q2;subst q3;have PI2:Hid (PlayI c.cp sp c' x' r'):=PI.out.put HO.out HCL.out HPS.out HT2.out hR3 hcd (by rw [q4];exact HSE.out);have HL3:Hid (r'.hs.length<=k+1):=by rw [Hid,q4];exact q5
   have S8:Hid (SW b w0 (rcL r' (cellOb gI 31 #[.int .u64 i2.1,.int .i64 i2.2]::plL c' x' tg A cap L (n+3+1+textN L (n+3)+1) g3 dp sp c.cp r (bufOb d bs::R))) w8):=s8;clear s8 HRF S7 k4 k5 k6 k7 hR3 hcd hv0 hv1 q4 q5 HV0 HV1;have S9:Hid (SW b w0 (cellOb (w8.heap.size+1) 31 #[.int .u64 i2.1,.int .i64 i2.2]::cellOb w8.heap.size 100 #[.slice r'.r.A r'.r.E.length r'.r.c,.slice r'.r.B r'.r.E.length r'.r.k,.slice r'.CA r'.cd.length r'.cc,.slice r'.HA r'.hs.length r'.hc]::rcL r' (cellOb gI 31 #[.int .u64 i2.1,.int .i64 i2.2]::plL c' x' tg A cap L (n+3+1+textN L (n+3)+1) g3 dp sp c.cp r (bufOb d bs::R))) _):=hid ((S8.out.newCell 100 #[.slice r'.r.A r'.r.E.length r'.r.c,.slice r'.r.B r'.r.E.length r'.r.k,.slice r'.CA r'.cd.length r'.cc,.slice r'.HA r'.hs.length r'.hc]).newCellAt 31 #[.int .u64 i2.1,.int .i64 i2.2] (H:=w8.heap.size+1) (by simp));clear S8;go_upto_region 20 with fail
   generalize (w8.alloc _).alloc _=W9 at S9 |-; generalize w8.heap.size+1=gJ at S9 |-; generalize w8.heap.size=gN at S9 |-; have c0:=(S9.out.cell 1 rfl).cell 0;have c1:=(S9.out.cell 1 rfl).cell 1;have c2:=(S9.out.cell 1 rfl).cell 2;have c3:=(S9.out.cell 1 rfl).cell 3;have z4:=(S9.out.cell 12 rfl).cell 4;have f4:=(S9.out.cell 12 rfl).frozen 4;have z5:=(S9.out.cell 12 rfl).cell 5;have f5:=(S9.out.cell 12 rfl).frozen 5;have z6:=(S9.out.cell 12 rfl).cell 6;have f6:=(S9.out.cell 12 rfl).frozen 6;have z7:=(S9.out.cell 12 rfl).cell 7;have f7:=(S9.out.cell 12 rfl).frozen 7;have S7:Hid (SW b w0 (cellOb gJ 31 #[.int .u64 i2.1,.int .i64 i2.2]::cellOb gI 31 #[.int .u64 i2.1,.int .i64 i2.2]::plL c' x' tg A cap L (n+3+1+textN L (n+3)+1) g3 dp sp c.cp r' R) _):=hid (SW.few (pre:=[_,_,_,_,_,_,_,_,_,_,_,_,_,_,_,_,_]) ((((S9.out.setAt 12 rfl 4 (.slice r'.r.A r'.r.E.length r'.r.c)).setAt 12 rfl 5 (.slice r'.r.B r'.r.E.length r'.r.k)).setAt 12 rfl 6 (.slice r'.CA r'.cd.length r'.cc)).setAt 12 rfl 7 (.slice r'.HA r'.hs.length r'.hc)) [0,5,6,7,8,9,10,11,12,2,3,4] (n:=17) rfl (by decide) (by decide));clear S9;go_upto_region 21 with fail
   obtain ⟨W7,HW7⟩:∃ W7,Hid (_=W7)/\SW b w0 (cellOb gJ 31 #[.int .u64 i2.1,.int .i64 i2.2]::cellOb gI 31 #[.int .u64 i2.1,.int .i64 i2.2]::plL c' x' tg A cap L (n+3+1+textN L (n+3)+1) g3 dp sp c.cp r' R) W7:=⟨_,rfl,S7.out⟩;rw [HW7.1.out];have S8:=hid HW7.2;clear HW7 S7 z4 f4 z5 f5 z6 f6 z7 f7 c0 c1 c2 c3;have a0:=(S8.out.cell 0 rfl).cell 0;have a1:=(S8.out.cell 0 rfl).cell 1;have b0:=(S8.out.cell 1 rfl).cell 0;have b1:=(S8.out.cell 1 rfl).cell 1;have heq:=fun W=>eql31 (i2:ID) i2 W;rw [decide_eq_true rfl] at heq;have hcc:(code2==code2)=true:=by simp
   go_wp2_with fail
   go_ret;have htn:=(textN_in L (n+3)).2;exact ⟨c',x',r',n+3+1+textN L (n+3)+1,rfl,S8.out.tail.tail,PI2.out,by omega,HL3.out,HKP.out⟩
 by_cases v45:v=4∨v=5
 · have h23:=v45;clear v45 v23;go_upto_if 136 with fail
   go_cut [136] from 139 (fun s136 w'=>s136= .bool true/\w'=w3)
   case first=>
    rcases h23 with rfl | rfl
    · go_wp2_with fail
      go_meet;exact ⟨rfl,rfl⟩
    go_wp2_with fail
    go_meet;exact ⟨rfl,rfl⟩
   obtain ⟨rfl,rfl⟩:=hcut;obtain ⟨P,hT,hR⟩:=PI.out.tx;have HID:=hid (id_any S3.out hR (by omega));clear hT hR;go_upto_region 24 with fail
   go_wp2_with (go_at_call 116;(with_reducible refine HID.out.mono ?_);refine halt_ ?_)
   rintro e w4 ⟨bs,n4,ht,hn4,rfl,s4⟩;have HT:=hid ht;obtain ⟨i,HI⟩:∃ i,Hid (fpOf bs=i):=⟨_,rfl⟩;rw [HI.out]
   have HOK:Hid (okID i):=by
    rw [Hid, <- HI.out];exact okID_fp bs (by have:=HT.out.hi;omega)
   have HNZ:Hid (i≠id0):=by
    rw [Hid, <- HI.out];exact HT.out.nz
   have S4:Hid (SW b w0 (cellOb w4.heap.size 31 #[.int .u64 i.1,.int .i64 i.2]::plL c x tg A cap L n4 g3 dp sp c.cp r R) _):=hid (SW.newCell s4 31 #[.int .u64 i.1,.int .i64 i.2]);clear s4 HID;obtain ⟨V,HV⟩:∃ V,Hid (begH r.hs N=V):=⟨_,rfl⟩;obtain ⟨U,HU1⟩:∃ U,Hid ((asc x.C i).isSome=U):=⟨_,rfl⟩;have HU:Hid (Go.Proofs.YteabgcollokgjaaGreatDoor.hasAt r.r.E i=U):=by rw [Hid,PI.out.hasAt,HU1.out]
   obtain ⟨VU,HVU⟩:∃ VU,Hid ((V&&U)=VU):=⟨_,rfl⟩;obtain ⟨code,HCO⟩:∃ code:Int,Hid ((if V=true then 0 else 401)=code):=⟨_,rfl⟩;obtain ⟨hs2,HHS⟩:∃ hs2,Hid ((if VU=true then r.hs++[(N,i)] else r.hs)=hs2):=⟨_,rfl⟩
   have HHL:Hid (hs2.length<=k+1):=by
    rw [Hid, <- HHS.out, <- HK.out];split<;>simp
   go_upto_region 25 with fail
   generalize w4.alloc _=W4 at S4 |-; generalize w4.heap.size=gI at S4 |-; have S4d:Hid (SW b w0 (plL c x tg A cap L n4 g3 dp sp c.cp r (cellOb gI 31 #[.int .u64 i.1,.int .i64 i.2]::R)) W4.drew):=SW.front (pre:=[_,_,_,_,_,_,_,_,_,_,_]) S4.out.drew [1,2,3,4,5,6,7,8,9,10,0] (n:=11) rfl (by decide);clear S4 S3;have HB:=Touch_P S4d.out PI.out.se PI.out.ps N i HOK.out (.inl HNZ.out) HV.out HU1.out;rw [HVU.out,HCO.out,HHS.out] at HB;have HB:=hid HB;refine wp_region_held_tail [(0,true),(1,true),(2,true),(3,true),(4,true),(5,true),(6,false),(7,true),(8,true),(9,true),(10,true)] (fun w'=>w'.cell? ⟨g3,3,none⟩=some (vPtr c.cp)/\w'.cell? ⟨gI,0,none⟩=some (.int .u64 i.1)/\w'.cell? ⟨gI,1,none⟩=some (.int .i64 i.2)) (by kernel_rfl) (fun _ _ d _ _ h=>by cases d<;>exact h) (by kernel_rfl) (⟨(S4d.out.cell 6 rfl).cell 3,(S4d.out.cell 10 rfl).cell 0,(S4d.out.cell 10 rfl).cell 1⟩) ?_;simp only [pk_]
   iterate 6
    (refine wpHeld_take (v:=?_) (Or.inl ⟨by rfl,?_⟩) ?_
     rotate_left
     · (intro w' hSw;obtain ⟨h1,h2,h3⟩:=hSw;go_simp;try with_reducible rfl)
     try simp only [Act.put,zA,List.set])
   refine wpHeld_run (fun KK hKK=>?_);go_simp;go_at_call 73
   refine HB.out.mono ?_;rintro e w5 ⟨c',rfl,s5,ho,hse⟩;have HO:=hid ho;have HSE:=hid hse;have S5:Hid (SW b w0 (plL c' x tg A cap L n4 g3 dp sp c.cp r (cellOb gI 31 #[.int .u64 i.1,.int .i64 i.2]::R)) w5):=s5;clear s5 ho hse HB;go_wp2_with fail
   refine hKK.out _ _ ⟨(S5.out.cell 6 rfl).cell 3,(S5.out.cell 10 rfl).cell 0,(S5.out.cell 10 rfl).cell 1⟩ ?_;clear hKK KK;try simp only [Act.put,zA,List.set]
   iterate 4
    (refine wpHeld_take (v:=?_) (Or.inl ⟨by rfl,?_⟩) ?_
     rotate_left
     · (intro w' hSw;obtain ⟨h1,h2,h3⟩:=hSw;go_simp;try with_reducible rfl)
     try simp only [Act.put,zA,List.set])
   refine wpHeld_nil ?_;simp only [dz_];clear S4d;go_upto_region 26 with fail
   have S5d:=S5.out.drew;refine wp_region_tree 14 (.take 0 (.take 1 (.take 2 (.take 3 (.take 4 (.take 5 (.two 6 (.take 7 (.take 8 (.take 9 (.take 10 (.one 11 (.one 12 (.take 13 .nil))))))) 11 (.one 6 (.take 7 (.take 8 (.take 9 (.take 10 (.one 12 (.take 13 .nil)))))))))))))) (fun w'=>w'.cell? ⟨g3,4,none⟩=some (.slice r.r.A r.r.E.length r.r.c)/\w'.cell? ⟨g3,5,none⟩=some (.slice r.r.B r.r.E.length r.r.k)/\w'.cell? ⟨g3,6,none⟩=some (.slice r.CA r.cd.length r.cc)/\w'.cell? ⟨g3,7,none⟩=some (.slice r.HA r.hs.length r.hc)/\w'.cell? ⟨gI,0,none⟩=some (.int .u64 i.1)/\w'.cell? ⟨gI,1,none⟩=some (.int .i64 i.2)) (by kernel_rfl) (fun _ _ d _ _ h=>by cases d<;>exact h) (by kernel_rfl) (⟨(S5d.cell 6 rfl).cell 4,(S5d.cell 6 rfl).cell 5,(S5d.cell 6 rfl).cell 6,(S5d.cell 6 rfl).cell 7,(S5d.cell 10 rfl).cell 0,(S5d.cell 10 rfl).cell 1⟩) ?_;clear S5;generalize w5.drew=wd at S5d |-
   iterate 6
    refine wpTr_takeL rfl ?_ (Or.inl ⟨by rfl,?_⟩) ?_;rotate_left
    · (intro w' hSw;obtain ⟨h1,h2,h3,h4,h5,h6⟩:=hSw;go_simp;try with_reducible rfl)
    try simp only [Act.put,zA,List.set]
   refine wpTr_two ?_ ?_
   · refine wpTr_runL rfl (fun K' hK'=>?_);go_simp;go_at_call 117
     refine (rTouch_R S5d r ⟨by simp,by simp,by simp⟩ N i V U HV.out HU.out (by have:=HK.out;omega) HVU.out HCO.out HHS.out).mono ?_;rintro e wc1 ⟨r',rfl,sc1,hr1,hr2,hr3⟩;have SC1:SW b w0 (r3Ob r'.r::riOb r'.CA r'.cd::hdOb r'.HA r'.hs::coOb c'::devOb x.p x.r x.s::cellOb x.ps 131 x.cells::chOb x.cm x.C::flOb x.fm x.F::tpOb tg A cap L n4::cellOb g3 102 (plC tg dp sp c.cp r)::r3Ob r.r::riOb r.CA r.cd::hdOb r.HA r.hs::cellOb gI 31 #[.int .u64 i.1,.int .i64 i.2]::R) wc1:=sc1;clear sc1;have PI2:Hid (PlayI c.cp sp c' x r'):=PI.out.same HO.out hr1 hr2 (by rw [hr3];exact HSE.out);have HL3:Hid (r'.hs.length<=k+1):=by rw [Hid,hr3];exact HHL.out
     clear hr1 hr2 hr3;go_wp2_with fail
     refine hK'.out _ _ (⟨(SC1.cell 9 rfl).cell 4,(SC1.cell 9 rfl).cell 5,(SC1.cell 9 rfl).cell 6,(SC1.cell 9 rfl).cell 7,(SC1.cell 13 rfl).cell 0,(SC1.cell 13 rfl).cell 1⟩) ?_;clear hK' K';try simp only [Act.put,zA,List.set]
     iterate 4
      refine wpTr_takeL rfl ?_ (Or.inl ⟨by rfl,?_⟩) ?_;rotate_left
      · (intro w' hSw;obtain ⟨h1,h2,h3,h4,h5,h6⟩:=hSw;go_simp;try with_reducible rfl)
      try simp only [Act.put,zA,List.set]
     refine wpTr_one ?_;refine wpTr_runL rfl (fun K' hK'=>?_);have SA2:SW b w0 (cellOb _ 100 #[.slice none 0 0,.slice none 0 0,.slice none 0 0,.slice none 0 0]::r3Ob r'.r::riOb r'.CA r'.cd::hdOb r'.HA r'.hs::coOb c'::devOb x.p x.r x.s::cellOb x.ps 131 x.cells::chOb x.cm x.C::flOb x.fm x.F::tpOb tg A cap L n4::cellOb g3 102 (plC tg dp sp c.cp r)::r3Ob r.r::riOb r.CA r.cd::hdOb r.HA r.hs::cellOb gI 31 #[.int .u64 i.1,.int .i64 i.2]::R) _:=SW.newCell SC1 100 #[.slice none 0 0,.slice none 0 0,.slice none 0 0,.slice none 0 0];go_simp;refine hK'.out _ _ (⟨(SA2.cell 10 rfl).cell 4,(SA2.cell 10 rfl).cell 5,(SA2.cell 10 rfl).cell 6,(SA2.cell 10 rfl).cell 7,(SA2.cell 14 rfl).cell 0,(SA2.cell 14 rfl).cell 1⟩) ?_;clear hK' K';obtain ⟨gn2,wn2,eG2,eW2,SB2⟩:∃ gn2 wn2,Hid (_=gn2)/\Hid (_=wn2)/\SW b w0 (cellOb gn2 100 #[.slice none 0 0,.slice none 0 0,.slice none 0 0,.slice none 0 0]::r3Ob r'.r::riOb r'.CA r'.cd::hdOb r'.HA r'.hs::coOb c'::devOb x.p x.r x.s::cellOb x.ps 131 x.cells::chOb x.cm x.C::flOb x.fm x.F::tpOb tg A cap L n4::cellOb g3 102 (plC tg dp sp c.cp r)::r3Ob r.r::riOb r.CA r.cd::hdOb r.HA r.hs::cellOb gI 31 #[.int .u64 i.1,.int .i64 i.2]::R) wn2:=⟨_,_,rfl,rfl,SA2⟩;rw [eG2.out,eW2.out];clear eG2 eW2 SA2;try simp only [Act.put,zA,List.set]
     refine wpTr_one ?_;refine wpTr_runL rfl (fun K' hK'=>?_);have z0:=(SB2.cell 0 rfl).cell 0;have f0:=(SB2.cell 0 rfl).frozen 0;have z1:=(SB2.cell 0 rfl).cell 1;have f1:=(SB2.cell 0 rfl).frozen 1;have z2:=(SB2.cell 0 rfl).cell 2;have f2:=(SB2.cell 0 rfl).frozen 2;have z3:=(SB2.cell 0 rfl).cell 3;have f3:=(SB2.cell 0 rfl).frozen 3;have SZ3:SW b w0 (cellOb gn2 100 #[.slice r'.r.A r'.r.E.length r'.r.c,.slice r'.r.B r'.r.E.length r'.r.k,.slice r'.CA r'.cd.length r'.cc,.slice r'.HA r'.hs.length r'.hc]::r3Ob r'.r::riOb r'.CA r'.cd::hdOb r'.HA r'.hs::coOb c'::devOb x.p x.r x.s::cellOb x.ps 131 x.cells::chOb x.cm x.C::flOb x.fm x.F::tpOb tg A cap L n4::cellOb g3 102 (plC tg dp sp c.cp r)::r3Ob r.r::riOb r.CA r.cd::hdOb r.HA r.hs::cellOb gI 31 #[.int .u64 i.1,.int .i64 i.2]::R) _:=((((SB2.setAt 0 rfl 0 (.slice r'.r.A r'.r.E.length r'.r.c)).setAt 0 rfl 1 (.slice r'.r.B r'.r.E.length r'.r.k)).setAt 0 rfl 2 (.slice r'.CA r'.cd.length r'.cc)).setAt 0 rfl 3 (.slice r'.HA r'.hs.length r'.hc));go_simp;refine hK'.out _ _ (⟨(SZ3.cell 10 rfl).cell 4,(SZ3.cell 10 rfl).cell 5,(SZ3.cell 10 rfl).cell 6,(SZ3.cell 10 rfl).cell 7,(SZ3.cell 14 rfl).cell 0,(SZ3.cell 14 rfl).cell 1⟩) ?_;clear hK' K' z0 f0 z1 f1 z2 f2 z3 f3
     obtain ⟨wz3,eW3,SY3⟩:∃ wz3,Hid (_=wz3)/\SW b w0 (cellOb gn2 100 #[.slice r'.r.A r'.r.E.length r'.r.c,.slice r'.r.B r'.r.E.length r'.r.k,.slice r'.CA r'.cd.length r'.cc,.slice r'.HA r'.hs.length r'.hc]::r3Ob r'.r::riOb r'.CA r'.cd::hdOb r'.HA r'.hs::coOb c'::devOb x.p x.r x.s::cellOb x.ps 131 x.cells::chOb x.cm x.C::flOb x.fm x.F::tpOb tg A cap L n4::cellOb g3 102 (plC tg dp sp c.cp r)::r3Ob r.r::riOb r.CA r.cd::hdOb r.HA r.hs::cellOb gI 31 #[.int .u64 i.1,.int .i64 i.2]::R) wz3:=⟨_,rfl,SZ3⟩;rw [eW3.out];clear eW3 SZ3;try simp only [Act.put,zA,List.set]
     refine wpTr_takeL rfl ?_ (Or.inl ⟨by rfl,?_⟩) ?_;rotate_left
     · (intro w' hSw;obtain ⟨h1,h2,h3,h4,h5,h6⟩:=hSw;go_simp;try with_reducible rfl)
     try simp only [Act.put,zA,List.set]
     refine wpTr_nil ?_;simp only [List.drop_succ_cons,List.drop_zero];have S6:Hid (SW b w0 (cellOb gn2 100 #[.slice r'.r.A r'.r.E.length r'.r.c,.slice r'.r.B r'.r.E.length r'.r.k,.slice r'.CA r'.cd.length r'.cc,.slice r'.HA r'.hs.length r'.hc]::rcL r' (plL c' x tg A cap L n4 g3 dp sp c.cp r (cellOb gI 31 #[.int .u64 i.1,.int .i64 i.2]::R))) _):=hid (SW.front (pre:=[_,_,_,_,_,_,_,_,_,_,_,_,_,_,_]) SY3 [0,1,2,3,4,5,6,7,8,9,10,11,12,13,14] (n:=15) rfl (by decide));clear SY3;go_upto_region 27 with fail
     have c0:=(S6.out.cell 0 rfl).cell 0;have c1:=(S6.out.cell 0 rfl).cell 1;have c2:=(S6.out.cell 0 rfl).cell 2;have c3:=(S6.out.cell 0 rfl).cell 3;have z4:=(S6.out.cell 10 rfl).cell 4;have f4:=(S6.out.cell 10 rfl).frozen 4;have z5:=(S6.out.cell 10 rfl).cell 5;have f5:=(S6.out.cell 10 rfl).frozen 5;have z6:=(S6.out.cell 10 rfl).cell 6;have f6:=(S6.out.cell 10 rfl).frozen 6;have z7:=(S6.out.cell 10 rfl).cell 7;have f7:=(S6.out.cell 10 rfl).frozen 7;have S7:Hid (SW b w0 (plL c' x tg A cap L n4 g3 dp sp c.cp r' (cellOb gI 31 #[.int .u64 i.1,.int .i64 i.2]::R)) _):=hid (SW.few (pre:=[_,_,_,_,_,_,_,_,_,_,_,_,_,_,_]) ((((S6.out.setAt 10 rfl 4 (.slice r'.r.A r'.r.E.length r'.r.c)).setAt 10 rfl 5 (.slice r'.r.B r'.r.E.length r'.r.k)).setAt 10 rfl 6 (.slice r'.CA r'.cd.length r'.cc)).setAt 10 rfl 7 (.slice r'.HA r'.hs.length r'.hc)) [4,5,6,7,8,9,10,1,2,3,14] (n:=15) rfl (by decide) (by decide));clear S6;go_upto_region 28 with fail
     obtain ⟨W7,HW7⟩:∃ W7,Hid (_=W7)/\SW b w0 (plL c' x tg A cap L n4 g3 dp sp c.cp r' (cellOb gI 31 #[.int .u64 i.1,.int .i64 i.2]::R)) W7:=⟨_,rfl,S7.out⟩;rw [HW7.1.out];have S8:=hid HW7.2;clear HW7 S7 z4 f4 z5 f5 z6 f6 z7 f7 c0 c1 c2 c3;have S9:Hid (SW b w0 (plL c' x tg A cap L n4 g3 dp sp c.cp r' R) W7):=SW.few (pre:=[_,_,_,_,_,_,_,_,_,_,_]) S8.out [0,1,2,3,4,5,6,7,8,9] (n:=11) rfl (by decide) (by decide);have hbb:(VU==VU)=true:=by cases VU<;>rfl
     have hcc:(code==code)=true:=by simp
     clear S8;go_wp2_with fail
     go_ret;exact ⟨c',x,r',n4,rfl,S9.out,PI2.out,by omega,HL3.out,Keeps.same HO.out⟩
   refine wpTr_runL rfl (fun K' hK'=>?_);have SA4:SW b w0 (cellOb _ 100 #[.slice none 0 0,.slice none 0 0,.slice none 0 0,.slice none 0 0]::coOb c'::devOb x.p x.r x.s::cellOb x.ps 131 x.cells::chOb x.cm x.C::flOb x.fm x.F::tpOb tg A cap L n4::cellOb g3 102 (plC tg dp sp c.cp r)::r3Ob r.r::riOb r.CA r.cd::hdOb r.HA r.hs::cellOb gI 31 #[.int .u64 i.1,.int .i64 i.2]::R) _:=SW.newCell S5d 100 #[.slice none 0 0,.slice none 0 0,.slice none 0 0,.slice none 0 0];go_simp;refine hK'.out _ _ (⟨(SA4.cell 7 rfl).cell 4,(SA4.cell 7 rfl).cell 5,(SA4.cell 7 rfl).cell 6,(SA4.cell 7 rfl).cell 7,(SA4.cell 11 rfl).cell 0,(SA4.cell 11 rfl).cell 1⟩) ?_;clear hK' K';obtain ⟨gn4,wn4,eG4,eW4,SB4⟩:∃ gn4 wn4,Hid (_=gn4)/\Hid (_=wn4)/\SW b w0 (cellOb gn4 100 #[.slice none 0 0,.slice none 0 0,.slice none 0 0,.slice none 0 0]::coOb c'::devOb x.p x.r x.s::cellOb x.ps 131 x.cells::chOb x.cm x.C::flOb x.fm x.F::tpOb tg A cap L n4::cellOb g3 102 (plC tg dp sp c.cp r)::r3Ob r.r::riOb r.CA r.cd::hdOb r.HA r.hs::cellOb gI 31 #[.int .u64 i.1,.int .i64 i.2]::R) wn4:=⟨_,_,rfl,rfl,SA4⟩;rw [eG4.out,eW4.out];clear eG4 eW4 SA4;try simp only [Act.put,zA,List.set]
   refine wpTr_one ?_;refine wpTr_runL rfl (fun K' hK'=>?_);go_simp;go_at_call 117
   refine (rTouch_R SB4 r ⟨by simp,by simp,by simp⟩ N i V U HV.out HU.out (by have:=HK.out;omega) HVU.out HCO.out HHS.out).mono ?_;rintro e wc5 ⟨r',rfl,sc5,hr1,hr2,hr3⟩;have SC5:SW b w0 (r3Ob r'.r::riOb r'.CA r'.cd::hdOb r'.HA r'.hs::cellOb gn4 100 #[.slice none 0 0,.slice none 0 0,.slice none 0 0,.slice none 0 0]::coOb c'::devOb x.p x.r x.s::cellOb x.ps 131 x.cells::chOb x.cm x.C::flOb x.fm x.F::tpOb tg A cap L n4::cellOb g3 102 (plC tg dp sp c.cp r)::r3Ob r.r::riOb r.CA r.cd::hdOb r.HA r.hs::cellOb gI 31 #[.int .u64 i.1,.int .i64 i.2]::R) wc5:=sc5;clear sc5;have PI2:Hid (PlayI c.cp sp c' x r'):=PI.out.same HO.out hr1 hr2 (by rw [hr3];exact HSE.out);have HL3:Hid (r'.hs.length<=k+1):=by rw [Hid,hr3];exact HHL.out
   clear hr1 hr2 hr3;go_wp2_with fail
   refine hK'.out _ _ (⟨(SC5.cell 10 rfl).cell 4,(SC5.cell 10 rfl).cell 5,(SC5.cell 10 rfl).cell 6,(SC5.cell 10 rfl).cell 7,(SC5.cell 14 rfl).cell 0,(SC5.cell 14 rfl).cell 1⟩) ?_;clear hK' K';try simp only [Act.put,zA,List.set]
   iterate 4
    refine wpTr_takeL rfl ?_ (Or.inl ⟨by rfl,?_⟩) ?_;rotate_left
    · (intro w' hSw;obtain ⟨h1,h2,h3,h4,h5,h6⟩:=hSw;go_simp;try with_reducible rfl)
    try simp only [Act.put,zA,List.set]
   refine wpTr_one ?_;refine wpTr_runL rfl (fun K' hK'=>?_);have z0:=(SC5.cell 3 rfl).cell 0;have f0:=(SC5.cell 3 rfl).frozen 0;have z1:=(SC5.cell 3 rfl).cell 1;have f1:=(SC5.cell 3 rfl).frozen 1;have z2:=(SC5.cell 3 rfl).cell 2;have f2:=(SC5.cell 3 rfl).frozen 2;have z3:=(SC5.cell 3 rfl).cell 3;have f3:=(SC5.cell 3 rfl).frozen 3;have SZ6:SW b w0 (r3Ob r'.r::riOb r'.CA r'.cd::hdOb r'.HA r'.hs::cellOb gn4 100 #[.slice r'.r.A r'.r.E.length r'.r.c,.slice r'.r.B r'.r.E.length r'.r.k,.slice r'.CA r'.cd.length r'.cc,.slice r'.HA r'.hs.length r'.hc]::coOb c'::devOb x.p x.r x.s::cellOb x.ps 131 x.cells::chOb x.cm x.C::flOb x.fm x.F::tpOb tg A cap L n4::cellOb g3 102 (plC tg dp sp c.cp r)::r3Ob r.r::riOb r.CA r.cd::hdOb r.HA r.hs::cellOb gI 31 #[.int .u64 i.1,.int .i64 i.2]::R) _:=((((SC5.setAt 3 rfl 0 (.slice r'.r.A r'.r.E.length r'.r.c)).setAt 3 rfl 1 (.slice r'.r.B r'.r.E.length r'.r.k)).setAt 3 rfl 2 (.slice r'.CA r'.cd.length r'.cc)).setAt 3 rfl 3 (.slice r'.HA r'.hs.length r'.hc));go_simp;refine hK'.out _ _ (⟨(SZ6.cell 10 rfl).cell 4,(SZ6.cell 10 rfl).cell 5,(SZ6.cell 10 rfl).cell 6,(SZ6.cell 10 rfl).cell 7,(SZ6.cell 14 rfl).cell 0,(SZ6.cell 14 rfl).cell 1⟩) ?_;clear hK' K' z0 f0 z1 f1 z2 f2 z3 f3
   obtain ⟨wz6,eW6,SY6⟩:∃ wz6,Hid (_=wz6)/\SW b w0 (r3Ob r'.r::riOb r'.CA r'.cd::hdOb r'.HA r'.hs::cellOb gn4 100 #[.slice r'.r.A r'.r.E.length r'.r.c,.slice r'.r.B r'.r.E.length r'.r.k,.slice r'.CA r'.cd.length r'.cc,.slice r'.HA r'.hs.length r'.hc]::coOb c'::devOb x.p x.r x.s::cellOb x.ps 131 x.cells::chOb x.cm x.C::flOb x.fm x.F::tpOb tg A cap L n4::cellOb g3 102 (plC tg dp sp c.cp r)::r3Ob r.r::riOb r.CA r.cd::hdOb r.HA r.hs::cellOb gI 31 #[.int .u64 i.1,.int .i64 i.2]::R) wz6:=⟨_,rfl,SZ6⟩;rw [eW6.out];clear eW6 SZ6;try simp only [Act.put,zA,List.set]
   refine wpTr_takeL rfl ?_ (Or.inl ⟨by rfl,?_⟩) ?_;rotate_left
   · (intro w' hSw;obtain ⟨h1,h2,h3,h4,h5,h6⟩:=hSw;go_simp;try with_reducible rfl)
   try simp only [Act.put,zA,List.set]
   refine wpTr_nil ?_;simp only [List.drop_succ_cons,List.drop_zero];have S6:Hid (SW b w0 (cellOb gn4 100 #[.slice r'.r.A r'.r.E.length r'.r.c,.slice r'.r.B r'.r.E.length r'.r.k,.slice r'.CA r'.cd.length r'.cc,.slice r'.HA r'.hs.length r'.hc]::rcL r' (plL c' x tg A cap L n4 g3 dp sp c.cp r (cellOb gI 31 #[.int .u64 i.1,.int .i64 i.2]::R))) _):=hid (SW.front (pre:=[_,_,_,_,_,_,_,_,_,_,_,_,_,_,_]) SY6 [3,0,1,2,4,5,6,7,8,9,10,11,12,13,14] (n:=15) rfl (by decide));clear SY6;go_upto_region 27 with fail
   have c0:=(S6.out.cell 0 rfl).cell 0;have c1:=(S6.out.cell 0 rfl).cell 1;have c2:=(S6.out.cell 0 rfl).cell 2;have c3:=(S6.out.cell 0 rfl).cell 3;have z4:=(S6.out.cell 10 rfl).cell 4;have f4:=(S6.out.cell 10 rfl).frozen 4;have z5:=(S6.out.cell 10 rfl).cell 5;have f5:=(S6.out.cell 10 rfl).frozen 5;have z6:=(S6.out.cell 10 rfl).cell 6;have f6:=(S6.out.cell 10 rfl).frozen 6;have z7:=(S6.out.cell 10 rfl).cell 7;have f7:=(S6.out.cell 10 rfl).frozen 7;have S7:Hid (SW b w0 (plL c' x tg A cap L n4 g3 dp sp c.cp r' (cellOb gI 31 #[.int .u64 i.1,.int .i64 i.2]::R)) _):=hid (SW.few (pre:=[_,_,_,_,_,_,_,_,_,_,_,_,_,_,_]) ((((S6.out.setAt 10 rfl 4 (.slice r'.r.A r'.r.E.length r'.r.c)).setAt 10 rfl 5 (.slice r'.r.B r'.r.E.length r'.r.k)).setAt 10 rfl 6 (.slice r'.CA r'.cd.length r'.cc)).setAt 10 rfl 7 (.slice r'.HA r'.hs.length r'.hc)) [4,5,6,7,8,9,10,1,2,3,14] (n:=15) rfl (by decide) (by decide));clear S6;go_upto_region 28 with fail
   obtain ⟨W7,HW7⟩:∃ W7,Hid (_=W7)/\SW b w0 (plL c' x tg A cap L n4 g3 dp sp c.cp r' (cellOb gI 31 #[.int .u64 i.1,.int .i64 i.2]::R)) W7:=⟨_,rfl,S7.out⟩;rw [HW7.1.out];have S8:=hid HW7.2;clear HW7 S7 z4 f4 z5 f5 z6 f6 z7 f7 c0 c1 c2 c3;have S9:Hid (SW b w0 (plL c' x tg A cap L n4 g3 dp sp c.cp r' R) W7):=SW.few (pre:=[_,_,_,_,_,_,_,_,_,_,_]) S8.out [0,1,2,3,4,5,6,7,8,9] (n:=11) rfl (by decide) (by decide);have hbb:(VU==VU)=true:=by cases VU<;>rfl
   have hcc:(code==code)=true:=by simp
   clear S8;go_wp2_with fail
   go_ret;exact ⟨c',x,r',n4,rfl,S9.out,PI2.out,by omega,HL3.out,Keeps.same HO.out⟩
 by_cases v6:v=6
 · subst v6;obtain ⟨P,hT,hR⟩:=PI.out.tx;have HID:=hid (id_any S3.out hR (by omega));clear hT hR;go_upto_region 30 with fail
   go_wp2_with (go_at_call 116;(with_reducible refine HID.out.mono ?_);refine halt_ ?_)
   rintro e w4 ⟨bs,n4,ht,hn4,rfl,s4⟩;have HT:=hid ht;obtain ⟨i,HI⟩:∃ i,Hid (fpOf bs=i):=⟨_,rfl⟩;rw [HI.out]
   have HOK:Hid (okID i):=by
    rw [Hid, <- HI.out];exact okID_fp bs (by have:=HT.out.hi;omega)
   have HNZ:Hid (i≠id0):=by
    rw [Hid, <- HI.out];exact HT.out.nz
   have S4:Hid (SW b w0 (riOb (some ⟨w4.heap.size,0,none⟩) [i]::plL c x tg A cap L n4 g3 dp sp c.cp r R) _):=hid (SW.newIds1 s4 i);clear s4 HID S3;go_upto_region 31 with fail
   generalize w4.alloc _=W4 at S4 |-; generalize w4.heap.size=gI at S4 |-; have S5:Hid (SW b w0 (plL c x tg A cap L n4 g3 dp sp c.cp r (riOb (some ⟨gI,0,none⟩) [i]::R)) W4):=SW.front (pre:=[_,_,_,_,_,_,_,_,_,_,_]) S4.out [1,2,3,4,5,6,7,8,9,10,0] (n:=11) rfl (by decide);clear S4;have k3:=(S5.out.cell 6 rfl).cell 3;have HB:=Keep_any S5.out (some ⟨gI,0,none⟩) 1 [i] (by simp) (by simpa using HOK.out) PI.out.ids (by simp) (by have:=PI.out.len;omega);simp only [List.length_cons,List.length_nil,Nat.zero_add] at HB;have HB:=hid HB;go_wp2_with (go_at_call 75;(with_reducible refine HB.out.mono ?_);refine halt_ ?_)
   rintro e w5 ⟨rfl,s5⟩;have S6:Hid (SW b w0 (plL { c with cand:=lessL (setI [i]) c.cand } x tg A cap L n4 g3 dp sp c.cp r (riOb (some ⟨gI,0,none⟩) [i]::R)) w5):=s5;clear s5 HB S5 k3;have k4:=(S6.out.cell 6 rfl).cell 4;have k5:=(S6.out.cell 6 rfl).cell 5;have k6:=(S6.out.cell 6 rfl).cell 6;have k7:=(S6.out.cell 6 rfl).cell 7;have HRF:=rKeep_R S6.out r ⟨by simp,by simp,by simp⟩ (some ⟨gI,0,none⟩) 1 [i] (by simp) (by rw [PI.out.cd];have:=PI.out.len;omega) (by simp);simp only [rcV,List.length_cons,List.length_nil,Nat.zero_add] at HRF;have HRF:=hid HRF;go_wp2_with (go_at_call 118;(with_reducible refine HRF.out.mono ?_);refine halt_ ?_)
   rintro e w6 ⟨r',rfl,s6,hr1,hr2,hr3⟩;have PI2:Hid (PlayI c.cp sp { c with cand:=lessL (setI [i]) c.cand } x r'):=PI.out.keep [i] hr1 hr2 hr3;have HL3:Hid (r'.hs.length<=k+1):=by rw [Hid,hr3];have:=HK.out;omega
   have S7:Hid (SW b w0 (rcL r' (plL { c with cand:=lessL (setI [i]) c.cand } x tg A cap L n4 g3 dp sp c.cp r (riOb (some ⟨gI,0,none⟩) [i]::R))) w6):=s6;clear s6 HRF S6 k4 k5 k6 k7 hr1 hr2 hr3;have z4:=(S7.out.cell 9 rfl).cell 4;have f4:=(S7.out.cell 9 rfl).frozen 4;have z5:=(S7.out.cell 9 rfl).cell 5;have f5:=(S7.out.cell 9 rfl).frozen 5;have z6:=(S7.out.cell 9 rfl).cell 6;have f6:=(S7.out.cell 9 rfl).frozen 6;have z7:=(S7.out.cell 9 rfl).cell 7;have f7:=(S7.out.cell 9 rfl).frozen 7;have S8:Hid (SW b w0 (plL { c with cand:=lessL (setI [i]) c.cand } x tg A cap L n4 g3 dp sp c.cp r' R) _):=hid (SW.few (pre:=[_,_,_,_,_,_,_,_,_,_,_,_,_,_]) ((((S7.out.setAt 9 rfl 4 (.slice r'.r.A r'.r.E.length r'.r.c)).setAt 9 rfl 5 (.slice r'.r.B r'.r.E.length r'.r.k)).setAt 9 rfl 6 (.slice r'.CA r'.cd.length r'.cc)).setAt 9 rfl 7 (.slice r'.HA r'.hs.length r'.hc)) [3,4,5,6,7,8,9,0,1,2] (n:=14) rfl (by decide) (by decide));clear S7;go_upto_region 33 with fail
   go_wp2_with fail
   go_ret;exact ⟨_,x,r',n4,rfl,S8.out,PI2.out,by omega,HL3.out,Keeps.keep c x [i]⟩
 have h6:(v==6)=false:=by simp [v6]
 have h5:(v==5)=false:=by simp;omega
 have h4:(v==4)=false:=by simp;omega
 have h3:(v==3)=false:=by simp;omega
 have h2:(v==2)=false:=by simp;omega
 have h1:(v==1)=false:=by simp;omega
 have h0:(v==0)=false:=by simp;omega
 have HNX:=hid (Next_x S3.out 5 rfl 5 (by omega) (by omega));go_upto_region 34 with fail
 go_wp2_with (go_at_call 33;(with_reducible refine HNX.out.mono ?_);refine halt_ ?_)
 rintro e w4 ⟨rfl,s4⟩;have S4:Hid (SW b w0 (plL c x tg A cap L (n+4) g3 dp sp c.cp r R) w4):=s4;clear s4 HNX S3;go_upto_region 35 with fail
 generalize wrap64 (tnext L (n+3) 5-1)=q;obtain ⟨G,HG⟩:∃ G,Hid (stepL c q=G):=⟨_,rfl⟩;have HG2:Hid (stR r.hs r.cd q=G):=by rw [Hid,PI.out.takes,HG.out]
 have hGl:G.length<=100000:=by
  have h1:=PI.out.len;rw [<- HG.out];show ((c.cand.filter _).take _).length<=_;rw [List.length_take];have:=List.length_filter_le (fun i=> !heldC c i) c.cand;omega
 have HB:=Step_of S4.out PI.out.ps PI.out.cl q PI.out.ids (by have:=PI.out.len;omega) G HG.out;have HB:=hid HB;have k3:=(S4.out.cell 6 rfl).cell 3;go_wp2_with (go_at_call 62;(with_reducible refine HB.out.mono ?_);refine halt_ ?_)
 rintro e w5 ⟨GA,gcap,x',rfl,s5,hcl,hg⟩;have HCL:=hid hcl;have HGO:=hid hg;have S5:Hid (SW b w0 (plL { c with cand:=lessL (setI G) c.cand } x' tg A cap L (n+4) g3 dp sp c.cp r (riOb GA G::R)) w5):=SW.front (pre:=[_,_,_,_,_,_,_,_,_,_,_]) s5 [1,2,3,4,5,6,7,8,9,10,0] (n:=11) rfl (by decide);clear s5 hcl hg HB S4 k3;have k4:=(S5.out.cell 6 rfl).cell 4;have k5:=(S5.out.cell 6 rfl).cell 5;have k6:=(S5.out.cell 6 rfl).cell 6;have k7:=(S5.out.cell 6 rfl).cell 7;have HRF:=rStep_R S5.out r ⟨by simp,by simp,by simp⟩ q (by have:=HK.out;omega) (by rw [PI.out.cd];have:=PI.out.len;omega) HG2.out;simp only [rcV] at HRF;have HRF:=hid HRF;go_wp2_with (go_at_call 69;(with_reducible refine HRF.out.mono ?_);refine halt_ ?_)
 rintro e w6 ⟨r',A2,c2,rfl,s6,hr1,hr2,hr3⟩;have PI2:Hid (PlayI c.cp sp { c with cand:=lessL (setI G) c.cand } x' r'):=PI.out.step HGO.out HCL.out hr1 hr2 hr3;have HL3:Hid (r'.hs.length<=k+1):=by rw [Hid,hr3];have:=HK.out;omega
 have S5b:Hid (SW b w0 (rcL r' (riOb A2 G::plL { c with cand:=lessL (setI G) c.cand } x' tg A cap L (n+4) g3 dp sp c.cp r (riOb GA G::R))) w6):=s6;have S6:Hid (SW b w0 (cellOb w6.heap.size 100 #[.slice r'.r.A r'.r.E.length r'.r.c,.slice r'.r.B r'.r.E.length r'.r.k,.slice r'.CA r'.cd.length r'.cc,.slice r'.HA r'.hs.length r'.hc]::rcL r' (riOb A2 G::plL { c with cand:=lessL (setI G) c.cand } x' tg A cap L (n+4) g3 dp sp c.cp r (riOb GA G::R))) _):=hid (S5b.out.newCell 100 #[.slice r'.r.A r'.r.E.length r'.r.c,.slice r'.r.B r'.r.E.length r'.r.k,.slice r'.CA r'.cd.length r'.cc,.slice r'.HA r'.hs.length r'.hc]);clear s6 HRF S5 S5b k4 k5 k6 k7 hr1 hr2 hr3;go_upto_region 37 with fail
 generalize w6.alloc _=W6 at S6 |-; generalize w6.heap.size=gN at S6 |-; have c0:=(S6.out.cell 0 rfl).cell 0;have c1:=(S6.out.cell 0 rfl).cell 1;have c2:=(S6.out.cell 0 rfl).cell 2;have c3:=(S6.out.cell 0 rfl).cell 3;have z4:=(S6.out.cell 11 rfl).cell 4;have f4:=(S6.out.cell 11 rfl).frozen 4;have z5:=(S6.out.cell 11 rfl).cell 5;have f5:=(S6.out.cell 11 rfl).frozen 5;have z6:=(S6.out.cell 11 rfl).cell 6;have f6:=(S6.out.cell 11 rfl).frozen 6;have z7:=(S6.out.cell 11 rfl).cell 7;have f7:=(S6.out.cell 11 rfl).frozen 7;have S7:Hid (SW b w0 (plL { c with cand:=lessL (setI G) c.cand } x' tg A cap L (n+4) g3 dp sp c.cp r' (riOb GA G::riOb A2 G::R)) _):=hid (SW.few (pre:=[_,_,_,_,_,_,_,_,_,_,_,_,_,_,_,_]) ((((S6.out.setAt 11 rfl 4 (.slice r'.r.A r'.r.E.length r'.r.c)).setAt 11 rfl 5 (.slice r'.r.B r'.r.E.length r'.r.k)).setAt 11 rfl 6 (.slice r'.CA r'.cd.length r'.cc)).setAt 11 rfl 7 (.slice r'.HA r'.hs.length r'.hc)) [5,6,7,8,9,10,11,1,2,3,15,4] (n:=16) rfl (by decide) (by decide));clear S6;go_upto_region 38 with fail
 obtain ⟨W7,HW7⟩:∃ W7,Hid (_=W7)/\SW b w0 (plL { c with cand:=lessL (setI G) c.cand } x' tg A cap L (n+4) g3 dp sp c.cp r' (riOb GA G::riOb A2 G::R)) W7:=⟨_,rfl,S7.out⟩;rw [HW7.1.out];have S8:=hid HW7.2;clear HW7 S7 z4 f4 z5 f5 z6 f6 z7 f7 c0 c1 c2 c3;have HSM:=hid (Same_S S8.out (A:=GA) (B:=A2) (xs:=G) (ys:=G) (by simp) (by simp) hGl hGl gcap c2 (v:=true) (by simp));go_wp2_with (go_at_call 64;(with_reducible refine HSM.out.mono ?_);refine halt_ ?_)
 rintro e w9 ⟨rfl,s9⟩;have S9:Hid (SW b w0 (plL { c with cand:=lessL (setI G) c.cand } x' tg A cap L (n+4) g3 dp sp c.cp r' R) w9):=SW.few (pre:=[_,_,_,_,_,_,_,_,_,_,_,_]) s9 [0,1,2,3,4,5,6,7,8,9] (n:=12) rfl (by decide) (by decide);clear s9 HSM S8;go_wp2_with fail
 go_ret;exact ⟨_,x',r',n+4,rfl,S9.out,PI2.out,by omega,HL3.out,Keeps.step HG.out HGO.out⟩
end
end
end Go.Proofs.YteabgcollokgjaaGreatDoor
