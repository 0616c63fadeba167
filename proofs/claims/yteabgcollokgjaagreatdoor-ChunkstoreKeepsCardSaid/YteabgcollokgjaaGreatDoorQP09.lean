/- Q -/
import Derived.Test.YteabgcollokgjaaGreatDoorQP08
import Derived.Shelf.SlSortCmp.Xorshift
import Derived.Deep.LoopGhost
import Derived.Sort.LotD5
import Derived.Laws.Bits64b
set_option linter.unusedSimpArgs false
set_option linter.unusedVariables false
set_option maxRecDepth 100000
set_option maxHeartbeats 32000000
open Go.Lib (hid)
open Nat renaming le_refl → zA,lt_of_lt_of_le → zB
namespace Go.Proofs.YteabgcollokgjaaGreatDoor
section
open Go.RowKit Go.Shelf Go.Sort
attribute [local go_sem] wext_cell
abbrev PartEqP (a b p:Nat) (d:Array ID) (g:Nat) (w:World) (e:Ending) (w':World):Prop:=
 ∃ (mid:Nat) (d':Array ID),e= .returned (.int .i64 (mid:Int))/\Hid (partitionEqual ltA d a b p=(mid,d'))/\RowA w' g d'/\w.grownBy w' (some g)
theorem partEqA_any (g c a b p:Nat) (d:Array ID) (w:World) (h:RowA w g d) (hap:a<=p) (hpb:p<b) (hb:b<=d.size) (hn:d.size<=1000000) (hg:g<w.heap.size):
 Calls Tryz.prog 208 #[.slice (some ⟨g,0,none⟩) d.size c,.int .i64 a,.int .i64 b,.int .i64 p,vAsc] w (PartEqP a b p d g w):=by
 have H:=hid h;clear h;obtain ⟨m,rfl⟩:∃ m,b=m+1:=⟨b-1,by omega⟩;obtain ⟨T,HT⟩:∃ T,Hid (partEqLoop ltA a (a+1) m (swp d a p)=T):=⟨_,rfl⟩;have HT1:Hid (partitionEqual ltA d a (m+1) p=T):=by rw [Hid, <- HT.out];rfl
 obtain ⟨d0,HD0⟩:∃ d0,Hid (swp d a p=d0):=⟨_,rfl⟩;rw [HD0.out] at HT;have HAM:=hid (show a<=m by omega);have HSZ:Hid (d0.size=d.size):=by rw [Hid, <- HD0.out,size_swp]
 go_enter Tryz.func208,Tryz.ntmps208;go_upto_region 1 with fail
 go_cut [] from 13 to 26 (fun wr=>Hid (RowA wr g (swp d a p))/\Hid (w.grownBy wr (some g)))
 case first=>
  obtain ⟨x,HX⟩:∃ x,Hid (d[a]! =x):=⟨_,rfl⟩;obtain ⟨y,HY⟩:∃ y,Hid (d[p]! =y):=⟨_,rfl⟩;have hAs:a<d.size:=by omega
  have hBs:p<d.size:=by omega
  obtain ⟨a0,a1,a2,a3⟩:=H.out.at (j:=a) hAs HX.out;obtain ⟨b0,b1,b2,b3⟩:=H.out.at (j:=p) hBs HY.out;have k1:(a:Int)<(d.size:Int):=by omega
  have k2:(p:Int)<(d.size:Int):=by omega
  have HSW:=hid (H.out.swp hAs hBs HX.out HY.out);have HGW:=hid (gsw (g_refl w (some g)) a p x y);clear hAs hBs;by_cases hAB:a=p
  · subst hAB;obtain rfl:x=y:=HX.out.symm.trans HY.out;go_region
    go_wp2_with fail
    go_meet;exact ⟨HSW.out,HGW.out.os,HGW.out.tape,HGW.out.output,HGW.out.size,HGW.out.block⟩
  have n1:¬ a=p:=hAB;have n2:¬ p=a:=fun e=>hAB e.symm;have n3:¬ a*2=p*2+1:=by omega
  have n4:¬ a*2+1=p*2:=by omega
  have n5:¬ p*2=a*2+1:=by omega
  have n6:¬ p*2+1=a*2:=by omega
  clear hAB;go_region
  go_wp2_with fail
  go_meet;exact ⟨HSW.out,HGW.out.os,HGW.out.tape,HGW.out.output,HGW.out.size,HGW.out.block⟩
 obtain ⟨HR,HG⟩:=hcut;have P0:Hid (PSt (partEqLoop ltA a) T a (m+1) d g w (a+1) m d0 wc):=⟨by omega,by have:=HAM.out;omega,by omega,hb,HSZ.out,HT.out,by rw [<- HD0.out];exact HR.out,HG.out⟩;have hw2:IntKind.i64.wrap ((m:Int)+1-1)=(m:Int):=by rw [IntWalk.i64_in _ (by omega)];omega
 clear HR HG;go_wp2_with fail
 rename World=>wy;go_loopw [11,12] (fun s12 s13 wr=>∃ (i j:Nat) (dk:Array ID),s12= .int .i64 (i:Int)/\s13= .int .i64 (j:Int)/\Hid (PSt (partEqLoop ltA a) T a (m+1) d g w i j dk wr)) (fun s12 s13 _=>(intOf s13+1-intOf s12).toNat)
 case atStart=>exact ⟨a+1,m,_,by go_num,by go_num,P0⟩
 rename World=>wz;obtain ⟨i2,j2,dk,rfl,rfl,P4⟩:=hrel;clear P0;go_upto_block 2 with fail
 go_cut [11] from 31 to 49 (fun s wr=>∃ i:Nat,s= .int .i64 (i:Int)/\Hid (i2<=i)/\Hid (PSt (partEqLoop ltA a) T a (m+1) d g w i j2 dk wr)/\Hid (i<=j2->ltA dk[a]! dk[i]! =true))
 case first=>
  go_wp2_with fail
  go_loopw [11] (fun v wr=>∃ i:Nat,v= .int .i64 (i:Int)/\Hid (i2<=i)/\Hid (PSt (partEqLoop ltA a) T a (m+1) d g w i j2 dk wr)) (fun v _=>j2+1-(intOf v).toNat)
  case atStart=>exact ⟨i2,rfl,zA _,P4⟩
  obtain ⟨i,rfl,HII,Q⟩:=hrel;obtain ⟨q1,q2,q3,q4,q5,q6⟩:=Q.out.is;by_cases hle:i<=j2
  · have hd:decide (i<=j2)=true:=decide_eq_true hle;obtain ⟨x,HX⟩:∃ x,Hid (dk[a]! =x):=⟨_,rfl⟩;obtain ⟨y,HY⟩:∃ y,Hid (dk[i]! =y):=⟨_,rfl⟩;obtain ⟨a0,a1,_,_⟩:=Q.out.row.at (j:=a) (by omega) HX.out;obtain ⟨b0,b1,_,_⟩:=Q.out.row.at (j:=i) (by omega) HY.out;have k1:(a:Int)<(d.size:Int):=by omega
    have k2:(i:Int)<(d.size:Int):=by omega
    have hgw:g<wr.heap.size:=Q.out.row.lt;have HL:=hid (show i<=j2/\a<i/\i<=j2+1 from ⟨hle,q4,q5⟩);skip
    clear hle q1 q2 q3 q4 q5 q6;by_cases hc:ltA x y=true
    · have hcm:decide (cmpID x y<0)=true:=hc;have HC:=hid hc;clear hc;go_wp2_with fail
      refine wp_region_ext (by kernel_rfl) (by kernel_rfl) ?_;repeat (go_big_quiet_step ((go_at_call 104;exact ext_call (asc_any x y _))))
      refine wpQuiet_nil ?_;intro w1 hb1;have Q1:=hid (Q.out.on hb1);clear a0 a1 b0 b1 hcm hb1;go_wp2_with fail
      go_meet;exact ⟨i,rfl,HII,Q1,fun _=>by rw [HX.out,HY.out];exact HC.out⟩
    have hc:ltA x y=false:=by simpa using hc
    have hcm:decide (cmpID x y<0)=false:=hc;have HC:=hid hc;clear hc;go_wp2_with fail
    refine wp_region_ext (by kernel_rfl) (by kernel_rfl) ?_;repeat (go_big_quiet_step ((go_at_call 104;exact ext_call (asc_any x y _))))
    refine wpQuiet_nil ?_;intro w1 hb1;have Q1:=hid (Q.out.on hb1);clear a0 a1 b0 b1 hcm hb1;go_wp2_with fail
    go_roundw
    case rel=>exact ⟨i+1,by go_num,Nat.le_succ_of_le HII.out,Q1.out.up HL.out.1 (pe_up HL.out.1 (by rw [HX.out,HY.out];exact HC.out))⟩
    have:=HL.out;simp [intOf];omega
  have hd:decide (i<=j2)=false:=decide_eq_false hle;have HN:=hid hle;skip
  clear hle;go_wp2_with fail
  go_quiet (fail)
  go_wp2_with fail
  go_meet;exact ⟨i,rfl,HII,Q.out.on (bdrewN (Below.refl _ _) _),fun h=>absurd h HN.out⟩
 obtain ⟨i3,rfl,HI3,P5,S5⟩:=hcut;clear P4;go_upto_block 4 with fail
 go_cut [12] from 50 to 67 (fun s wr=>∃ j:Nat,s= .int .i64 (j:Int)/\Hid (j<=j2)/\Hid (PSt (partEqLoop ltA a) T a (m+1) d g w i3 j dk wr)/\Hid (i3<=j->ltA dk[a]! dk[i3]! =true)/\Hid (i3<=j->ltA dk[a]! dk[j]! =false))
 case first=>
  go_wp2_with fail
  go_loopw [12] (fun v wr=>∃ j:Nat,v= .int .i64 (j:Int)/\j<=j2/\Hid (PSt (partEqLoop ltA a) T a (m+1) d g w i3 j dk wr)) (fun v _=>(intOf v).toNat)
  case atStart=>exact ⟨j2,rfl,zA _,P5⟩
  obtain ⟨j,rfl,hjJ,Q⟩:=hrel;obtain ⟨q1,q2,q3,q4,q5,q6⟩:=Q.out.is;by_cases hle:i3<=j
  · have hd:decide (i3<=j)=true:=decide_eq_true hle;obtain ⟨x,HX⟩:∃ x,Hid (dk[a]! =x):=⟨_,rfl⟩;obtain ⟨y,HY⟩:∃ y,Hid (dk[j]! =y):=⟨_,rfl⟩;obtain ⟨a0,a1,_,_⟩:=Q.out.row.at (j:=a) (by omega) HX.out;obtain ⟨b0,b1,_,_⟩:=Q.out.row.at (j:=j) (by omega) HY.out;have k1:(a:Int)<(d.size:Int):=by omega
    have k2:(j:Int)<(d.size:Int):=by omega
    have hgw:g<wr.heap.size:=Q.out.row.lt;have HL:=hid (show i3<=j/\a<i3/\i3<=j+1 from ⟨hle,q4,q5⟩);have HJ:=hid hjJ;clear hle q1 q2 q3 q4 q5 q6 hjJ;by_cases hc:ltA x y=true
    · obtain ⟨q,hq⟩:∃ q,j=q+1:=⟨j-1,by have:=HL.out;omega⟩;subst hq;have hd2:decide ((i3:Int)<=(q:Int)+1)=true:=decide_eq_true (by have:=HL.out;omega);have hcm:decide (cmpID x y<0)=true:=hc;have HC:=hid hc;clear hc;go_wp2_with fail
      refine wp_region_ext (by kernel_rfl) (by kernel_rfl) ?_;repeat (go_big_quiet_step ((go_at_call 104;exact ext_call (asc_any x y _))))
      refine wpQuiet_nil ?_;intro w1 hb1;have Q1:=hid (Q.out.on hb1);clear a0 a1 b0 b1 hcm hb1;go_wp2_with fail
      go_roundw
      case rel=>exact ⟨q,by go_num,by have:=HJ.out;omega,Q1.out.down HL.out.1 (pe_down HL.out.1 (by have:=HL.out;omega) (S5.out (by have:=HL.out;have:=HJ.out;omega)) (by rw [HX.out,HY.out];exact HC.out))⟩
      simp [intOf]
    have hc:ltA x y=false:=by simpa using hc
    have hcm:decide (cmpID x y<0)=false:=hc;have HC:=hid hc;clear hc;go_wp2_with fail
    refine wp_region_ext (by kernel_rfl) (by kernel_rfl) ?_;repeat (go_big_quiet_step ((go_at_call 104;exact ext_call (asc_any x y _))))
    refine wpQuiet_nil ?_;intro w1 hb1;have Q1:=hid (Q.out.on hb1);clear a0 a1 b0 b1 hcm hb1;go_wp2_with fail
    go_meet;exact ⟨j,rfl,HJ,Q1,fun h=>S5.out (by have:=HJ.out;omega),fun _=>by rw [HX.out,HY.out];exact HC.out⟩
  have hd:decide (i3<=j)=false:=decide_eq_false hle;have HN:=hid hle;have HJ:=hid hjJ;clear hle hjJ;go_wp2_with fail
  go_quiet (fail)
  go_wp2_with fail
  go_meet;exact ⟨j,rfl,HJ,Q.out.on (bdrewN (Below.refl _ _) _),fun h=>absurd h HN.out,fun h=>absurd h HN.out⟩
 obtain ⟨j3,rfl,HJ3,P6,S6,S7⟩:=hcut;clear P5 S5;obtain ⟨q1,q2,q3,q4,q5,q6⟩:=P6.out.is;by_cases hgt:j3<i3
 · have hgz:decide (j3<i3)=true:=decide_eq_true hgt;have HRES:Hid (T=(i3,dk)):=P6.out.eq.symm.trans (pe_stop hgt);clear hgt;go_wp2_with fail
   go_ret;exact ⟨i3,dk,rfl,HT1.out.trans HRES.out,P6.out.row,P6.out.gr⟩
 have hgz:decide (j3<i3)=false:=decide_eq_false hgt;have hle:i3<=j3:=by omega
 have hlt:i3<j3:=by
  rcases Nat.lt_or_ge i3 j3 with h | h
  · exact h
  obtain rfl:i3=j3:=by omega
  have e1:=S6.out hle;have e2:=S7.out hle;rw [e1] at e2;cases e2
 have HE:=hid (pe_swap hle (S6.out hle) (S7.out hle));have HLT:=hid hlt;clear hgt hle;go_upto_region 8 with fail
 go_cut [] from 71 to 84 (fun wr=>Hid (RowA wr g (swp dk i3 j3))/\Hid (w.grownBy wr (some g)))
 case first=>
  obtain ⟨x,HX⟩:∃ x,Hid (dk[i3]! =x):=⟨_,rfl⟩;obtain ⟨y,HY⟩:∃ y,Hid (dk[j3]! =y):=⟨_,rfl⟩;have hAs:i3<dk.size:=by omega
  have hBs:j3<dk.size:=by omega
  obtain ⟨a0,a1,a2,a3⟩:=P6.out.row.at (j:=i3) hAs HX.out;obtain ⟨b0,b1,b2,b3⟩:=P6.out.row.at (j:=j3) hBs HY.out;have k1:(i3:Int)<(d.size:Int):=by omega
  have k2:(j3:Int)<(d.size:Int):=by omega
  have HSW:=hid (P6.out.row.swp hAs hBs HX.out HY.out);have HGW:=hid (gsw P6.out.gr i3 j3 x y);clear hAs hBs;have hAB:¬ i3=j3:=by have:=HLT.out;omega
  have n1:¬ i3=j3:=hAB;have n2:¬ j3=i3:=fun e=>hAB e.symm;have n3:¬ i3*2=j3*2+1:=by omega
  have n4:¬ i3*2+1=j3*2:=by omega
  have n5:¬ j3*2=i3*2+1:=by omega
  have n6:¬ j3*2+1=i3*2:=by omega
  clear hAB;go_region
  go_wp2_with fail
  go_meet;exact ⟨HSW.out,HGW.out.os,HGW.out.tape,HGW.out.output,HGW.out.size,HGW.out.block⟩
 obtain ⟨HR,HG⟩:=hcut;have P7:=hid (P6.out.swap HLT.out HE.out HR.out HG.out);clear P6 HR HG S6 S7;obtain ⟨z,hz⟩:∃ z,j3=z+1:=⟨j3-1,by omega⟩;subst hz;clear hlt;go_wp2_with fail
 go_roundw
 case rel=>exact ⟨i3+1,z,_,by go_num,by go_num,P7⟩
 have h1:=HI3.out;have h2:=HJ3.out;have h3:=HLT.out;simp [intOf];omega
end
section
open Go.RowKit Go.Shelf Go.Sort
attribute [local go_sem] wext_cell
theorem w64 {x:Int} {y:Nat} (h:x=y) (hy:y<=4000000):wrap64 x=(y:Int):=by
 rw [h];unfold wrap64;omega
structure Sw (g:Nat) (d:Array ID) (q:Nat) (w wr:World):Prop where
 row:RowA wr g d
 num:∃ n:Int,wr.cell? ⟨q,0,none⟩=some (.int .i64 n)
 fz:wr.frozen? ⟨q,0,none⟩=false
 gr:w.grownBy wr (some q)
 lt:q<wr.heap.size
namespace Sw
variable {g:Nat} {d:Array ID} {q:Nat} {w wr w1:World}
theorem on (h:Sw g d q w wr) (hb:Below wr.heap.size wr w1):Sw g d q w w1:=by
 obtain ⟨n,hn⟩:=h.num;exact ⟨h.row.on hb,⟨n,(hb.cell h.lt).trans hn⟩,(hb.frozen h.lt).trans h.fz,g_below h.gr hb,zB h.lt hb.size⟩
theorem set (h:Sw g d q w wr) (hq:q≠g) (n:Int):Sw g d q w (wr.setCell ⟨q,0,none⟩ (.int .i64 n)):=by
 obtain ⟨n',hn⟩:=h.num;refine ⟨?_,⟨n,World.cell?_setCell_same _ _ _ hn⟩,by simpa using h.fz,g_set (p:=⟨q,0,none⟩) h.gr (.inl rfl) _,by simpa [World.setCell] using h.lt⟩;obtain ⟨cur,h1,h2⟩:=h.row;exact ⟨cur,h1.grown (g_set (p:=⟨q,0,none⟩) (g_refl wr (some q)) (.inl rfl) (.int .i64 n)) (fun e=>hq (by injection e with e;exact e.symm)),h2⟩
end Sw
abbrev O2P (g:Nat) (d:Array ID) (q a b:Nat) (w:World) (e:Ending) (w':World):Prop:=
 ∃ x y:Nat,e= .returned (.tuple #[.int .i64 (x:Int),.int .i64 (y:Int)])/\Hid (x=a/\y=b∨x=b/\y=a)/\Hid (Sw g d q w w')
theorem ord2_any (g c q a b:Nat) (d:Array ID) (w0 w:World) (h:Hid (Sw g d q w0 w)) (ha:a<d.size) (hb:b<d.size) (hq:q≠g):
 Calls Tryz.prog 290 #[.slice (some ⟨g,0,none⟩) d.size c,.int .i64 a,.int .i64 b,.pointer (some ⟨q,0,none⟩),vAsc] w (O2P g d q a b w0):=by
 obtain ⟨x,HX⟩:∃ x,Hid (d[b]! =x):=⟨_,rfl⟩;obtain ⟨y,HY⟩:∃ y,Hid (d[a]! =y):=⟨_,rfl⟩;obtain ⟨a0,a1,_,_⟩:=h.out.row.at (j:=b) hb HX.out;obtain ⟨b0,b1,_,_⟩:=h.out.row.at (j:=a) ha HY.out;have k1:(a:Int)<(d.size:Int):=by omega
 have k2:(b:Int)<(d.size:Int):=by omega
 have hgw:g<w.heap.size:=h.out.row.lt;have HQ:=hid hq;clear ha hb hq;go_enter Tryz.func290,Tryz.ntmps290;go_wp2_with fail
 refine wp_region_ext (by kernel_rfl) (by kernel_rfl) ?_;repeat (go_big_quiet_step ((go_at_call 104;exact ext_call (asc_any x y _))))
 refine wpQuiet_nil ?_;intro w1 hb1;have S:=hid (h.out.on hb1);clear a0 a1 b0 b1 hb1;cases hc:decide (cmpID x y<0) with
 | true=>
  obtain ⟨n,c0⟩:=S.out.num;have c1:=S.out.fz;go_wp2_with fail
  go_ret2;exact ⟨b,a,rfl,.inr ⟨rfl,rfl⟩,S.out.set HQ.out _⟩
 | false=>
  go_wp2_with fail
  go_ret2;exact ⟨a,b,rfl,.inl ⟨rfl,rfl⟩,S.out⟩
theorem med_in {a b c x1 y1 x2 y2 x3 y3:Nat} (h1:x1=a/\y1=b∨x1=b/\y1=a) (h2:x2=y1/\y2=c∨x2=c/\y2=y1) (h3:x3=x1/\y3=x2∨x3=x2/\y3=x1):y3=a∨y3=b∨y3=c:=by
 rcases h1 with ⟨rfl,rfl⟩ | ⟨rfl,rfl⟩<;>rcases h2 with ⟨rfl,rfl⟩ | ⟨rfl,rfl⟩<;>rcases h3 with ⟨rfl,rfl⟩ | ⟨rfl,rfl⟩<;>simp
abbrev MedP (g:Nat) (d:Array ID) (q a b c:Nat) (w:World) (e:Ending) (w':World):Prop:=
 ∃ x:Nat,e= .returned (.int .i64 (x:Int))/\Hid (x=a∨x=b∨x=c)/\Hid (Sw g d q w w')
theorem median_any (g cp q a b c:Nat) (d:Array ID) (w0 w:World) (h:Hid (Sw g d q w0 w)) (ha:a<d.size) (hb:b<d.size) (hc:c<d.size) (hq:q≠g):
 Calls Tryz.prog 259 #[.slice (some ⟨g,0,none⟩) d.size cp,.int .i64 a,.int .i64 b,.int .i64 c,.pointer (some ⟨q,0,none⟩),vAsc] w (MedP g d q a b c w0):=by
 have HA:=hid ha;have HB:=hid hb;have HC:=hid hc;have HQ:=hid hq;clear ha hb hc hq;have C1:=hid (ord2_any g cp q a b d w0 w h HA.out HB.out HQ.out);go_enter Tryz.func259,Tryz.ntmps259;go_wp2_with (go_at_call 290;(with_reducible refine C1.out.mono ?_);refine halt_ ?_)
 rintro e w1 ⟨x1,y1,rfl,HX1,S1⟩;have hx1:Hid (x1<d.size):=by rcases HX1.out with ⟨e1,e2⟩ | ⟨e1,e2⟩<;>rw [Hid,e1]<;>first | exact HA.out | exact HB.out
 have hy1:Hid (y1<d.size):=by rcases HX1.out with ⟨e1,e2⟩ | ⟨e1,e2⟩<;>rw [Hid,e2]<;>first | exact HA.out | exact HB.out
 have C2:=hid (ord2_any g cp q y1 c d w0 w1 S1 hy1.out HC.out HQ.out);clear C1;go_wp2_with (go_at_call 290;(with_reducible refine C2.out.mono ?_);refine halt_ ?_)
 rintro e w2 ⟨x2,y2,rfl,HX2,S2⟩;have hx2:Hid (x2<d.size):=by rcases HX2.out with ⟨e1,e2⟩ | ⟨e1,e2⟩<;>rw [Hid,e1]<;>first | exact hy1.out | exact HC.out
 have C3:=hid (ord2_any g cp q x1 x2 d w0 w2 S2 hx1.out hx2.out HQ.out);clear C2;go_wp2_with (go_at_call 290;(with_reducible refine C3.out.mono ?_);refine halt_ ?_)
 rintro e w3 ⟨x3,y3,rfl,HX3,S3⟩;clear C3;go_wp2_with fail
 go_ret;refine ⟨y3,rfl,?_,S3⟩;exact med_in HX1.out HX2.out HX3.out
theorem ch_at {a b L q k:Nat} (hLb:a+L=b) (hq:q=L / 4) (hL:13<=L) (hk:k<=3) (hb:b<=1000000):∃ I:Nat,wrap64 ((a:Int)+(L:Int) / 4*(k:Int))=(I:Int)/\a<=I/\I<b:=by
 have h4:q*k<=q*3:=Nat.mul_le_mul_left _ hk;have h5:q*4<=L:=by omega
 have h6:q*k<L:=by omega
 have qz:(L:Int) / 4=(q:Int):=by omega
 refine ⟨a+q*k,w64 ?_ (by omega),by omega,by omega⟩;rw [qz];push_cast
 rfl
theorem ch_pre {a b:Nat} (hab:12<b-a) (h50:b-a<50) (hb:b<=1000000):∃ L q I J K:Nat,IntKind.i64.wrap ((b:Int)-(a:Int))=(L:Int)/\wrap64 ((a:Int)+(L:Int) / 4)=(I:Int)/\wrap64 ((a:Int)+(L:Int) / 4*2)=(J:Int)/\wrap64 ((a:Int)+(L:Int) / 4*3)=(K:Int)/\
 Hid ((a<=I/\I<b)/\(a<=J/\J<b)/\a<=K/\K<b)/\(8:Int)<=(L:Int)/\¬ (50:Int)<=(L:Int):=by
 have hLb:a+(b-a)=b:=by omega
 obtain ⟨I,h1,h2⟩:=ch_at (k:=1) hLb rfl (by omega) (by omega) hb;obtain ⟨J,h3,h4⟩:=ch_at (k:=2) hLb rfl (by omega) (by omega) hb;obtain ⟨K,h5,h6⟩:=ch_at (k:=3) hLb rfl (by omega) (by omega) hb;refine ⟨b-a,(b-a) / 4,I,J,K,?_,by simpa using h1,h3,h5,⟨h2,h4,h6⟩,by omega,by omega⟩;have e:(b:Int)-(a:Int)=((b-a:Nat):Int):=by omega
 rw [e,IntWalk.i64_in _ (by omega)]
theorem chooseA_any (g c a b:Nat) (d:Array ID) (w:World) (h:RowA w g d) (hab:12<b-a) (h50:b-a<50) (hb:b<=d.size) (hn:d.size<=1000000) (hg:g<w.heap.size):
 Calls Tryz.prog 205 #[.slice (some ⟨g,0,none⟩) d.size c,.int .i64 a,.int .i64 b,vAsc] w (fun e w'=>∃ (p:Nat) (z:Int),e= .returned (.tuple #[.int .i64 (p:Int),.int .i64 z])/\Hid (a<=p/\p<b/\(z=0∨z=1∨z=2))/\Below w.heap.size w w'):=by
 obtain ⟨L,q,I,J,K,wq,wI,wJ,wK,HIJ,L8,L50⟩:=ch_pre hab h50 (Nat.le_trans hb hn);have w1:IntKind.i64.wrap ((b:Int)-(a:Int))=(L:Int):=wq;clear wq
 have S0:Hid (Sw g d w.heap.size w (w.alloc (.cells #[.int .i64 0] 3))):=by
  obtain ⟨cur,h1,h2⟩:=h;exact ⟨⟨cur,h1.alloc _,h2⟩,⟨0,by simp⟩,by simp,g_alloc (g_refl w _) _,by simp⟩
 have HG:=hid (show w.heap.size≠g by omega);have C:=hid (median_any g c w.heap.size I J K d w _ S0 (zB HIJ.out.1.2 hb) (zB HIJ.out.2.1.2 hb) (zB HIJ.out.2.2.2 hb) HG.out);clear h hab h50 hb;go_enter Tryz.func205,Tryz.ntmps205;go_wp2_with (go_at_call 259;(with_reducible refine C.out.mono ?_);refine halt_ ?_)
 rintro e w2 p rfl HP S1;obtain ⟨n,c0⟩:=S1.out.num;clear C S0;have HB:Hid (Below w.heap.size w w2):=⟨S1.out.gr.os,S1.out.gr.tape,S1.out.gr.output,S1.out.gr.size,fun i hi=>S1.out.gr.block i hi (by intro e;injection e with e;omega)⟩;have HQ:Hid (a<=p/\p<b):=by have h2:=HIJ.out;rcases HP.out with e | e | e<;>rw [e]<;>first | exact h2.1 | exact h2.2.1 | exact h2.2.2
 by_cases n0:n=0
 · subst n0;go_wp2_with fail
   go_ret2;exact ⟨p,1,rfl,⟨HQ.out.1,HQ.out.2,.inr (.inl rfl)⟩,HB.out⟩
 have nz:(n==0)=false:=by simpa using n0
 clear n0;by_cases n12:n=12
 · subst n12;go_wp2_with fail
   go_ret2;exact ⟨p,2,rfl,⟨HQ.out.1,HQ.out.2,.inr (.inr rfl)⟩,HB.out⟩
 have n12z:(n==12)=false:=by simpa using n12
 clear n12;go_wp2_with fail
 go_ret2;exact ⟨p,0,rfl,⟨HQ.out.1,HQ.out.2,.inl rfl⟩,HB.out⟩
end
section
open Go.RowKit Go.Shelf Go.Sort
attribute [local go_sem] wext_cell
theorem partialA_any (g c a b:Nat) (d:Array ID) (w:World) (h:RowA w g d) (hB:Sort.Below ltA a b d) (hab:a<b) (h50:b-a<50) (hb:b<=d.size) (hn:d.size<=1000000) (hg:g<w.heap.size):
 Calls Tryz.prog 207 #[.slice (some ⟨g,0,none⟩) d.size c,.int .i64 a,.int .i64 b,vAsc] w (fun e w'=>∃ r:Bool,e= .returned (.bool r)/\Hid (r=true->SortedIn ltA a b d)/\Hid (RowA w' g d/\w.grownBy w' (some g))):=by
 have H:=hid h;have HB:=hid hB;clear h hB;obtain ⟨L,hL⟩:∃ L,L=b-a:=⟨_,rfl⟩;have w1:IntKind.i64.wrap ((b:Int)-(a:Int))=(L:Int):=by rw [IntWalk.i64_in _ (by omega)];omega
 have L50:(L:Int)<50:=by omega
 have HAB:=hid hab;have HDB:=hid hb;have HL50:=hid h50;clear hL h50;go_enter Tryz.func207,Tryz.ntmps207;go_wp2_with fail
 refine wp_loop_rounds 1 ?_;rw [rounds_succ];go_upto_block 2 with fail
 go_cut [9] from 19 to 38 (fun s wr=>∃ i:Nat,s= .int .i64 (i:Int)/\Hid (i<=b)/\Hid (scanSorted ltA d b (a+1)=i)/\Hid (RowA wr g d/\w.grownBy wr (some g)))
 case first=>
  go_wp2_with fail
  go_loopw [9] (fun v wr=>∃ i:Nat,v= .int .i64 (i:Int)/\a<i/\i<=b/\Hid (scanSorted ltA d b (a+1)=scanSorted ltA d b i)/\Hid (RowA wr g d/\w.grownBy wr (some g))) (fun v _=>b-(intOf v).toNat)
  case atStart=>exact ⟨a+1,by go_num,by omega,by omega,rfl,H.out,g_refl _ _⟩
  obtain ⟨i,rfl,hai,hib,HS,R0⟩:=hrel;by_cases hlt:i<b
  · obtain ⟨m,hm⟩:∃ m,i=m+1:=⟨i-1,by omega⟩;subst hm;have hd:decide ((m:Int)+1<(b:Int))=true:=decide_eq_true (by omega);have hw:IntKind.i64.wrap ((m:Int)+1-1)=(m:Int):=by rw [IntWalk.i64_in _ (by omega)];omega
    obtain ⟨x,HX⟩:∃ x,Hid (d[m+1]! =x):=⟨_,rfl⟩;obtain ⟨y,HY⟩:∃ y,Hid (d[m]! =y):=⟨_,rfl⟩;obtain ⟨a0,a1,_,_⟩:=R0.out.1.at (j:=m+1) (by omega) HX.out;obtain ⟨b0,b1,_,_⟩:=R0.out.1.at (j:=m) (by omega) HY.out;have k1:(m:Int)+1<(d.size:Int):=by omega
    have k2:(m:Int)<(d.size:Int):=by omega
    have hgw:g<wr.heap.size:=R0.out.1.lt;have HI:=hid (show a<m+1/\m+1<b from ⟨hai,hlt⟩);clear hai hib hlt;by_cases hc:ltA x y=true
    · have hcm:decide (cmpID x y<0)=true:=hc;have HC:=hid hc;clear hc;go_wp2_with fail
      refine wp_region_ext (by kernel_rfl) (by kernel_rfl) ?_;repeat (go_big_quiet_step ((go_at_call 104;exact ext_call (asc_any x y _))))
      refine wpQuiet_nil ?_;intro w2 hb1;have R2:Hid (RowA w2 g d/\w.grownBy w2 (some g)):=⟨R0.out.1.on hb1,g_below R0.out.2 hb1⟩;clear a0 a1 b0 b1 hcm hb1;go_wp2_with fail
      go_meet;exact ⟨m+1,by go_num,Nat.le_of_lt HI.out.2,HS.out.trans (scanSorted_stop _ _ _ _ (.inr (by rw [HX.out,show m+1-1=m from rfl,HY.out];exact HC.out))),R2⟩
    have hcf:ltA x y=false:=by simpa using hc
    have hcm:decide (cmpID x y<0)=false:=hcf;have HC:=hid hcf;clear hc hcf;go_wp2_with fail
    refine wp_region_ext (by kernel_rfl) (by kernel_rfl) ?_;repeat (go_big_quiet_step ((go_at_call 104;exact ext_call (asc_any x y _))))
    refine wpQuiet_nil ?_;intro w2 hb1;have R2:Hid (RowA w2 g d/\w.grownBy w2 (some g)):=⟨R0.out.1.on hb1,g_below R0.out.2 hb1⟩;clear a0 a1 b0 b1 hcm hb1;go_wp2_with fail
    go_roundw
    case rel=>exact ⟨m+1+1,by go_num,by have:=HI.out;omega,by have:=HI.out;omega,HS.out.trans (scanSorted_go _ _ _ _ HI.out.2 (by rw [HX.out,show m+1-1=m from rfl,HY.out];exact HC.out)),R2⟩
    have:=HI.out;simp [intOf];omega
  have hd:decide (i<b)=false:=decide_eq_false hlt;have HN:=hid hlt;have HIB:=hid hib;clear hlt hib hai;go_wp2_with fail
  go_quiet (fail)
  go_wp2_with fail
  go_meet;exact ⟨i,rfl,HIB.out,HS.out.trans (scanSorted_stop _ _ _ _ (.inl HN.out)),R0.out.1.on (bdrewN (Below.refl _ _) _),g_drewN R0.out.2 _⟩
 obtain ⟨i,rfl,HIB,HS,R1⟩:=hcut;by_cases hib:i=b
 · have hz:((i:Int)==(b:Int))=true:=by simp [hib]
   have hS:=partialInsertionSort_holds (lt:=ltA) swoID d a b HAB.out HDB.out HB.out;have hT:=pi_true ltA a b 0 (a+1) d (by omega) (HS.out.trans hib)
   have HR:Hid (SortedIn ltA a b d):=by
    have e:partialInsertionSort ltA d a b=(d,true):=hT;rw [e] at hS;exact hS.2 rfl
   clear hib hS hT;go_wp2_with fail
   go_ret;exact ⟨true,rfl,(show Hid _ from fun _=>HR.out),R1⟩
 have hz:((i:Int)==(b:Int))=false:=by simp;omega
 clear hib;go_wp2_with fail
 go_ret;refine ⟨false,rfl,?_,R1⟩;intro h;exact absurd h (by decide)
end
end Go.Proofs.YteabgcollokgjaaGreatDoor
namespace Go.Proofs
section
open Go.Shelf
def Tryz.xorA_ren:Go.Shelf.Ren:=⟨fun | 48=>244 | n=>n,fun | 76=>349 | 55=>29 | 0=>0 | 66=>316 | 39=>230 | n=>n,fun | n=>n⟩
theorem Tryz.xorA:Go.Proofs.SlLaysF0.n48 Tryz.prog Tryz.xorA_ren:={
 mixed:=by kernel_rfl
 f48:=Tryz.func244.trans (congrArg some (by kernel_rfl))
 t0:=Tryz.underlying0
 a0:=Tryz.isAgg0
 z0:=Tryz.sizeOf0
 v0:=Tryz.zeroValue0
 t39:=Tryz.underlying230
 a39:=Tryz.isAgg230
 z39:=Tryz.sizeOf230
 v39:=Tryz.zeroValue230
 t55:=Tryz.underlying29
 a55:=Tryz.isAgg29
 z55:=Tryz.sizeOf29
 v55:=Tryz.zeroValue29
 t66:=Tryz.underlying316
 a66:=Tryz.isAgg316
 z66:=Tryz.sizeOf316
 v66:=Tryz.zeroValue316
 t76:=Tryz.underlying349
 a76:=Tryz.isAgg349
 z76:=Tryz.sizeOf349
 v76:=Tryz.zeroValue349 }
def Tryz.npotA_ren:Go.Shelf.Ren:=⟨fun | 47=>243 | 15=>151 | 28=>197 | 29=>198 | n=>n,fun | 3=>3 | 39=>230 | 53=>276 | 55=>29 | 4=>4 | 5=>5 | 9=>9 | n=>n,fun | n=>n⟩
theorem Tryz.npotA:Go.Proofs.SlLaysF0.n47 Tryz.prog Tryz.npotA_ren:={
 mixed:=by kernel_rfl
 f15:=Tryz.func151.trans (congrArg some (by kernel_rfl))
 f28:=Tryz.func197.trans (congrArg some (by kernel_rfl))
 f29:=Tryz.func198.trans (congrArg some (by kernel_rfl))
 f47:=Tryz.func243.trans (congrArg some (by kernel_rfl))
 t3:=Tryz.underlying3
 a3:=Tryz.isAgg3
 z3:=Tryz.sizeOf3
 v3:=Tryz.zeroValue3
 t4:=Tryz.underlying4
 a4:=Tryz.isAgg4
 z4:=Tryz.sizeOf4
 v4:=Tryz.zeroValue4
 t5:=Tryz.underlying5
 a5:=Tryz.isAgg5
 z5:=Tryz.sizeOf5
 v5:=Tryz.zeroValue5
 t9:=Tryz.underlying9
 a9:=Tryz.isAgg9
 z9:=Tryz.sizeOf9
 v9:=Tryz.zeroValue9
 t39:=Tryz.underlying230
 a39:=Tryz.isAgg230
 z39:=Tryz.sizeOf230
 v39:=Tryz.zeroValue230
 t53:=Tryz.underlying276
 a53:=Tryz.isAgg276
 z53:=Tryz.sizeOf276
 v53:=Tryz.zeroValue276
 t55:=Tryz.underlying29
 a55:=Tryz.isAgg29
 z55:=Tryz.sizeOf29
 v55:=Tryz.zeroValue29 }
end
end Go.Proofs
namespace Go.Proofs.YteabgcollokgjaaGreatDoor
section
open Go.RowKit Go.Shelf Go.Sort
attribute [local go_sem] wext_cell
theorem bp_pre {a b:Nat} (hab:12<b-a) (hb:b<=1000000):∃ L M q q2 s I J:Nat,IntKind.i64.wrap ((b:Int)-(a:Int))=(L:Int)/\IntKind.u64.wrap (L:Int)=(L:Int)/\wrap64 ((L:Int) / 4)=(q:Int)/\wrap64 ((q:Int)*2)=(q2:Int)/\wrap64 ((a:Int)+(q2:Int))=(s:Int)/\wrap64 ((s:Int)-1)=(I:Int)/\wrap64 ((s:Int)+1)=(J:Int)/\(8:Int)<=(L:Int)/\
 Hid (L=b-a/\a<=I/\I+2<b/\J=I+2/\M=1 <<< bitsLen L/\1<=M/\M<=2*L/\L<=1000000):=by
 obtain ⟨L,hL⟩:∃ L,L=b-a:=⟨_,rfl⟩;obtain ⟨q,hq⟩:∃ q,q=L / 4:=⟨_,rfl⟩;have qz:(L:Int) / 4=(q:Int):=by omega
 have h1:1<=1 <<< bitsLen L:=by rw [Nat.one_shiftLeft];exact Nat.two_pow_pos _
 have h2:1 <<< bitsLen L<=2*L:=by rw [Nat.one_shiftLeft];exact two_pow_bitsLen_le (by omega)
 refine ⟨L,1 <<< bitsLen L,q,q*2,a+q*2,a+q*2-1,a+q*2+1,?_,?_,?_,?_,?_,?_,?_,by omega,hL,by omega,by omega,by omega,rfl,h1,h2,by omega⟩
 · rw [IntWalk.i64_in _ (by omega)];omega
 · rw [IntKind.wrap_u64];omega
 · rw [qz];unfold wrap64;omega
 · unfold wrap64;omega
 · unfold wrap64;omega
 · unfold wrap64;omega
 unfold wrap64;omega
theorem bp_and {R M:Nat} (h1:1<=M) (h2:M<=4000000) (hR:R<18446744073709551616):∃ (m O:Nat),IntKind.u64.wrap ((M:Int)-1)=(m:Int)/\bits .and .u64 (R:Int) (m:Int)=(O:Int)/\IntKind.i64.wrap (O:Int)=(O:Int)/\Hid (O<M):=by
 have h3:R &&& (M-1)<=M-1:=Nat.and_le_right;refine ⟨M-1,R &&& (M-1),?_,bits_and_u64_nat _ _ hR (by omega),?_,(by omega:R &&& (M-1)<M)⟩
 · rw [IntKind.wrap_u64];omega
 rw [IntWalk.i64_in _ (by omega)]
theorem bp_sub {O L:Nat} (h:L<=O) (hO:O<=4000000):∃ O':Nat,IntKind.i64.wrap ((O:Int)-(L:Int))=(O':Int)/\Hid (O'=O-L):=by
 refine ⟨O-L,?_,rfl⟩;rw [IntWalk.i64_in _ (by omega)];omega
theorem bp_add {a O:Nat} (ha:a<=4000000) (hO:O<=4000000):∃ P:Nat,IntKind.i64.wrap ((a:Int)+(O:Int))=(P:Int)/\Hid (P=a+O):=by
 refine ⟨a+O,?_,rfl⟩;rw [IntWalk.i64_in _ (by omega)];omega
structure Sx (a b:Nat) (d:Array ID) (g q:Nat) (w wr:World) (dk:Array ID) (X:Nat):Prop where
 perm:PermIn a b d dk
 row:RowA wr g dk
 gr:w.grownBy wr (some g)
 cell:wr.cell? ⟨q,0,none⟩=some (.int .u64 (X:Int))
 fz:wr.frozen? ⟨q,0,none⟩=false
 lt:q<wr.heap.size
 new:w.heap.size<=q
 ne:q≠g
 x:X<18446744073709551616
namespace Sx
variable {a b:Nat} {d:Array ID} {g q:Nat} {w wr w1:World} {dk:Array ID} {X:Nat}
theorem drew (h:Sx a b d g q w wr dk X):Sx a b d g q w wr.drew dk X:=
 ⟨h.perm,h.row.on (bdrewN (Below.refl _ _) 1),⟨h.gr.os,h.gr.tape,h.gr.output,h.gr.size,h.gr.block⟩,h.cell,h.fz,h.lt,h.new,h.ne,h.x⟩
theorem next (h:Sx a b d g q w wr dk X) {Y:Nat} (hY:Y<18446744073709551616):Sx a b d g q w ((wr.setCell ⟨q,0,none⟩ (.int .u64 (Y:Int))).drewN 3) dk Y:=by
 have hr:RowA (wr.setCell ⟨q,0,none⟩ (.int .u64 (Y:Int))) g dk:=by
  obtain ⟨cur,h1,h2⟩:=h.row;exact ⟨cur,h1.grown (g_set (p:=⟨q,0,none⟩) (g_refl wr (some q)) (.inl rfl) (.int .u64 (Y:Int))) (fun e=>h.ne (by injection e with e;exact e.symm)),h2⟩
 refine ⟨h.perm,hr.on (bdrewN (Below.refl _ _) 3),g_drewN (g_set (p:=⟨q,0,none⟩) h.gr (.inr h.new) _) 3,?_,?_,?_,h.new,h.ne,hY⟩
 · rw [World.cell?_drewN];exact World.cell?_setCell_same _ _ _ h.cell
 · rw [World.frozen?_drewN];simpa using h.fz
 simpa [World.setCell] using h.lt
theorem swap (h:Sx a b d g q w wr dk X) (hb:b<=d.size) {i j:Nat} (hi:a<=i) (hib:i<b) (hj:a<=j) (hjb:j<b) {x y:ID} (hx:dk[i]! =x) (hy:dk[j]! =y):
 Sx a b d g q w ((((wr.setCell ⟨g,i*2,none⟩ (.int .u64 y.1)).setCell ⟨g,i*2+1,none⟩ (.int .i64 y.2)).setCell ⟨g,j*2,none⟩ (.int .u64 x.1)).setCell ⟨g,j*2+1,none⟩ (.int .i64 x.2)) (swp dk i j) X:=by
 have hs:dk.size=d.size:=h.perm.1;have hne:∀ o:Nat,(⟨g,o,none⟩:Addr)≠⟨q,0,none⟩:=fun o e=>h.ne (by injection e with e;exact e.symm);refine ⟨perm_swp h.perm hi hib hj hjb hb,h.row.swp (by omega) (by omega) hx hy,gsw h.gr i j x y,?_,by simpa using h.fz,by simpa [World.setCell] using h.lt,h.new,h.ne,h.x⟩;rw [World.cell?_setCell_other _ _ _ _ (hne _),World.cell?_setCell_other _ _ _ _ (hne _),World.cell?_setCell_other _ _ _ _ (hne _),World.cell?_setCell_other _ _ _ _ (hne _)];exact h.cell
end Sx
theorem breakA_any (g c a b:Nat) (d:Array ID) (w:World) (h:RowA w g d) (hab:12<b-a) (hb:b<=d.size) (hn:d.size<=1000000) (hg:g<w.heap.size):
 Calls Tryz.prog 204 #[.slice (some ⟨g,0,none⟩) d.size c,.int .i64 a,.int .i64 b,vAsc] w (PermP a b d g w):=by
 obtain ⟨L,M,q,q2,s,I,J,w1,w2,w3,w4,w5,w6,w7,L8,HF⟩:=bp_pre hab (Nat.le_trans hb hn);have H:=hid h;have HN:=hid (show b<=d.size/\d.size<=1000000 from ⟨hb,hn⟩)
 have HM:Hid (∀ w,Calls Tryz.prog 243 #[.int .i64 (L:Int)] w fun e w'=>e= .returned (.int .u64 (M:Int))/\w'=w):=by
  rw [HF.out.2.2.2.2.1];exact fun w=>AnyF.nextPowerOfTwo (P:=Tryz.prog) (ρ:=Tryz.npotA_ren) Tryz.npotA L (by have:=HF.out;omega) w
 have HL:Hid (L<18446744073709551616):=by have:=HF.out;unfold Hid;omega
 have HG:=hid hg;clear h hab hb hn hg;go_enter Tryz.func204,Tryz.ntmps204;go_wp2_with (go_at_call 243;(with_reducible refine (HM.out _).mono ?_);refine halt_ ?_)
 rintro e w5 ⟨rfl,rfl⟩;go_wp2_with fail
 have S0:Hid (Sx a b d g w.heap.size w (w.alloc (.cells #[.int .u64 (L:Int)] 316)) d L):=by
  refine ⟨permIn_refl _ _ _,RowA.on H.out ((Below.refl _ _).alloc (zA _) _),g_alloc (g_refl _ _) _,by simp,by simp,by simp,zA _,by have:=HG.out;omega,HL.out⟩
 have HQ:Hid (w.heap.size=w.heap.size):=rfl;rw [w3,w4,w5,w6];go_loopg [11] 3 (fun g1 vi wr=>∃ (t X:Nat) (dk:Array ID),vi= .int .i64 ((I+t:Nat):Int)/\Hid (t<=3)/\Hid (3-t<=g1)/\Hid (Sx a b d g w.heap.size w wr dk X))
 case atStart=>exact ⟨0,L,d,rfl,Nat.zero_le _,zA _,S0.out⟩
 obtain ⟨t,X,dk,rfl,HT,HG1,S1⟩:=hrel;clear S0;obtain ⟨m,hm⟩:∃ m,m=I+t:=⟨_,rfl⟩;rw [<- hm];by_cases hlt:t<3
 · have hle:decide (m<=J)=true:=decide_eq_true (by have:=HF.out;omega);have HMM:=hid (And.intro hm hlt);clear hm hlt;obtain ⟨Y,hY⟩:∃ Y,Y=xorNextN X:=⟨_,rfl⟩;have lY:Y<18446744073709551616:=by rw [hY];exact xorNextN_lt X S1.out.x
   have HX:Hid (Calls Tryz.prog 244 #[.pointer (some ⟨w.heap.size,0,none⟩)] wr fun e w'=>e= .returned (.int .u64 (Y:Int))/\w'=(wr.setCell ⟨w.heap.size,0,none⟩ (.int .u64 (Y:Int))).drewN 3):=by
    rw [hY];exact AnyF.xorshift_Next (P:=Tryz.prog) (ρ:=Tryz.xorA_ren) Tryz.xorA _ _ X S1.out.x wr S1.out.cell S1.out.fz
   obtain ⟨mm,O,v1,v2,v3,HO⟩:=bp_and (M:=M) (R:=Y) HF.out.2.2.2.2.2.1 (by have:=HF.out;omega) lY;have S2:=hid (S1.out.next lY);obtain ⟨w2,HW⟩:∃ w2,Hid ((wr.setCell ⟨w.heap.size,0,none⟩ (.int .u64 (Y:Int))).drewN 3=w2):=⟨_,rfl⟩;rw [HW.out] at HX S2;clear hY lY S1;go_upto_if 45 with (go_at_call 244;(with_reducible refine HX.out.mono ?_);rintro e w9 ⟨rfl,hw⟩;obtain rfl:w2=w9:=hw.symm)
   go_cut [12] from 28 to 66 (fun s12 wx=>∃ (p P:Nat),s12= .int .i64 (p:Int)/\Hid (IntKind.i64.wrap ((a:Int)+(p:Int))=(P:Int)/\a<=P/\P<b)/\wx=w2)
   case first=>
    by_cases hLO:L<=O
    · obtain ⟨p,v4,HP⟩:=bp_sub hLO (by have:=HO.out;have:=HF.out;omega);obtain ⟨P,v5,HPP⟩:=bp_add (a:=a) (O:=p) (by have:=HF.out;have:=HN.out;omega) (by have:=HP.out;have:=HO.out;have:=HF.out;omega);have HR:Hid (IntKind.i64.wrap ((a:Int)+(p:Int))=(P:Int)/\a<=P/\P<b):=⟨v5,by have:=HPP.out;have:=HP.out;have:=HO.out;have:=HF.out;omega,by have:=HPP.out;have:=HP.out;have:=HO.out;have:=HF.out;omega⟩;clear v5;have hd:decide (L<=O)=true:=decide_eq_true hLO;go_wp2_with fail
      go_meet;exact ⟨p,P,rfl,HR,rfl⟩
    obtain ⟨P,v5,HPP⟩:=bp_add (a:=a) (O:=O) (by have:=HF.out;have:=HN.out;omega) (by have:=HO.out;have:=HF.out;omega);have HR:Hid (IntKind.i64.wrap ((a:Int)+(O:Int))=(P:Int)/\a<=P/\P<b):=⟨v5,by have:=HPP.out;have:=HF.out;omega,by have:=HPP.out;have:=HO.out;have:=HF.out;omega⟩;clear v5;have hd:¬ (L:Int)<=(O:Int):=by omega
    clear hLO;go_wp2_with fail
    go_meet;exact ⟨O,P,rfl,HR,rfl⟩
   obtain ⟨p,P,rfl,HR,rfl⟩:=hcut;have wP:IntKind.i64.wrap ((a:Int)+(p:Int))=(P:Int):=HR.out.1;have hS:dk.size=d.size:=S2.out.perm.1;have hmi:a<=m/\m<b:=by have:=HF.out;have:=HMM.out;omega
   obtain ⟨x,HX⟩:∃ x,Hid (dk[m]! =x):=⟨_,rfl⟩;obtain ⟨y,HY⟩:∃ y,Hid (dk[P]! =y):=⟨_,rfl⟩;obtain ⟨a0,a1,a2,a3⟩:=S2.out.row.at (j:=m) (by have:=HN.out;omega) HX.out;obtain ⟨b0,b1,b2,b3⟩:=S2.out.row.at (j:=P) (by have:=HN.out;have:=HR.out;omega) HY.out;have k1:(P:Int)<(d.size:Int):=by have:=HN.out;have:=HR.out;omega
   have k2:(m:Int)<(d.size:Int):=by have:=HN.out;omega
   have S3:=hid (S2.out.swap HN.out.1 hmi.1 hmi.2 HR.out.2.1 HR.out.2.2 HX.out HY.out);have HS:=hid (And.intro hS hmi);clear hS hmi;by_cases hAB:P=m
   · subst hAB;obtain rfl:x=y:=HX.out.symm.trans HY.out;go_upto_region 10 with fail
     go_region
     go_wp2_with fail
     go_roundg (3-(t+1))
     case measure=>have:=HMM.out;have:=HG1.out;omega
     exact ⟨t+1,Y,_,congrArg (Value.int .i64) (by have:=HMM.out;have:=HN.out;unfold wrap64;omega),by have:=HMM.out;unfold Hid;omega,zA _,S3.out.drew⟩
   have n1:¬ P=m:=hAB;have n2:¬ m=P:=fun e=>hAB e.symm;have n3:¬ P*2=m*2+1:=by omega
   have n4:¬ P*2+1=m*2:=by omega
   have n5:¬ m*2=P*2+1:=by omega
   have n6:¬ m*2+1=P*2:=by omega
   clear hAB;go_upto_region 10 with fail
   go_region
   go_wp2_with fail
   go_roundg (3-(t+1))
   case measure=>have:=HMM.out;have:=HG1.out;omega
   exact ⟨t+1,Y,_,congrArg (Value.int .i64) (by have:=HMM.out;have:=HN.out;unfold wrap64;omega),by have:=HMM.out;unfold Hid;omega,zA _,S3.out.drew⟩
 have hle:decide (m<=J)=false:=decide_eq_false (by have:=HF.out;omega);clear hlt hm;go_wp2_with fail
 go_end0;exact ⟨rfl,dk,S1.out.perm,S1.out.row,S1.out.gr⟩
end
end Go.Proofs.YteabgcollokgjaaGreatDoor
