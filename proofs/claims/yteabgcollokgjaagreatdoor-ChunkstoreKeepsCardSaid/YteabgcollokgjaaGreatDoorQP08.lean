/- Q -/
import Derived.Test.YteabgcollokgjaaGreatDoorQP07
import Derived.IntWalk
import Derived.Sort.WalkA
import Derived.Sort.WalkA6
import Derived.Sort.AssemblyPlain
import Derived.Deep.Cut
import Derived.BigRegion
import Derived.Sort.WalkC
import Derived.Sort.WalkC4
import Derived.Deep.CutBlock
import Derived.Deep.CutRange
set_option linter.unusedSimpArgs false
set_option linter.unusedVariables false
set_option maxRecDepth 100000
set_option maxHeartbeats 32000000
open Go.Lib (hid)
open List renaming getD_eq_getElem?_getD → zA
open Nat renaming le_refl → zB
namespace Go.Proofs.YteabgcollokgjaaGreatDoor
section
open Go.RowKit Go.Shelf Go.Sort
attribute [local go_sem] wext_cell
abbrev id0:ID:=(0,0)
def RowI (w:World) (g:Nat) (l:List ID):Prop:=∃ cur,IsB w g 31 cur/\l.length*2<=cur.size/\∀ j,j<l.length->cur[j*2]? =some (.int .u64 (l.getD j id0).1)/\cur[j*2+1]? =some (.int .i64 (l.getD j id0).2)
theorem RowI.on {w w':World} {g:Nat} {l:List ID} (h:RowI w g l) (hb:Below w.heap.size w w'):RowI w' g l:=by
 obtain ⟨cur,h1,h2⟩:=h;exact ⟨cur,h1.on hb,h2⟩
theorem RowI.cells {w:World} {g:Nat} {l:List ID} (h:RowI w g l) {j:Nat} (hj:j<l.length) {x:ID} (hx:l.getD j id0=x):w.cell? ⟨g,j*2,none⟩=some (.int .u64 x.1)/\w.cell? ⟨g,j*2+1,none⟩=some (.int .i64 x.2)/\w.frozen? ⟨g,j*2,none⟩=false/\w.frozen? ⟨g,j*2+1,none⟩=false:=by
 obtain ⟨cur,h1,h2,h3⟩:=h;subst hx;exact ⟨(h1.cell _).trans (h3 j hj).1,(h1.cell _).trans (h3 j hj).2,h1.frozen _,h1.frozen _⟩
theorem RowI.put {w:World} {g:Nat} {l:List ID} (h:RowI w g l) (k:Nat) (hk:k<l.length) (x:ID):RowI ((w.setCell ⟨g,k*2,none⟩ (.int .u64 x.1)).setCell ⟨g,k*2+1,none⟩ (.int .i64 x.2)) g (l.set k x):=by
 obtain ⟨cur,h1,h2,h3⟩:=h;refine ⟨_,(h1.set_ (k*2) (.int .u64 x.1)).set_ (k*2+1) (.int .i64 x.2),by simp;omega,fun j hj=>?_⟩;simp only [List.length_set] at hj;obtain ⟨c0,c1⟩:=h3 j hj;by_cases e:k=j
 · subst e;have e1:(l.set k x).getD k id0=x:=by rw [zA,List.getElem?_set_self hk];rfl
   rw [e1];refine ⟨?_,?_⟩
   · rw [Array.getElem?_setIfInBounds_ne (by omega),Array.getElem?_setIfInBounds_self_of_lt (by omega)]
   rw [Array.getElem?_setIfInBounds_self_of_lt (by simp;omega)]
 have e1:(l.set k x).getD j id0=l.getD j id0:=by rw [zA,List.getElem?_set_ne e,zA]
 rw [e1];refine ⟨?_,?_⟩
 · rw [Array.getElem?_setIfInBounds_ne (by omega),Array.getElem?_setIfInBounds_ne (by omega)];exact c0
 rw [Array.getElem?_setIfInBounds_ne (by omega),Array.getElem?_setIfInBounds_ne (by omega)];exact c1
theorem asc_any (x y:ID) (w:World):Calls Tryz.prog 104 #[.agg #[],.agg #[.int .u64 x.1,.int .i64 x.2],.agg #[.int .u64 y.1,.int .i64 y.2]] w fun e w'=>e= .returned (.int .i64 (cmpID x y))/\Below w.heap.size w w':=
 (asc_grow x.1 x.2 y.1 y.2 w).mono fun _ _ ⟨he,q,os,hw⟩=>⟨he,hw ▸ below_grow w q os⟩
def SortedI (l:List ID):Prop:=l.Pairwise (fun a b=>ltID b a=false)
abbrev vAsc:Value:=.func (.func 104) #[.agg #[]] #[]
end
section
open Go.RowKit Go.Shelf Go.Sort
theorem bits_len_any (n:Nat) (w:World) (hn:n<=1000):Calls Tryz.prog 151 #[.int .u64 (n:Int)] w fun e w'=>(∃ k:Int,e= .returned (.int .i64 k))/\w=w':=
 (Tryz.bits_Len n w (by omega) (by omega)).mono fun _ _ h=>⟨⟨_,h.1⟩,h.2.symm⟩
end
section
open Go.RowKit Go.MapKept Go.ChangeMaps Go.Shelf
theorem insN_any (w:World):Calls Tryz.prog 202 #[.slice none 0 0,.int .i64 0,.int .i64 0,vAsc] w (fun e w'=>e= .returned (.tuple #[])/\w=w'):=by
 go_enter Tryz.func202,Tryz.ntmps202;go_wp2_with fail
 refine wp_loop_rounds 1 ?_;rw [rounds_succ];go_wp2_with fail
 go_end0;exact ⟨rfl,rfl⟩
theorem pdqN_any (k:Int) (w:World):Calls Tryz.prog 156 #[.slice none 0 0,.int .i64 0,.int .i64 0,.int .i64 k,vAsc] w (fun e w'=>e= .returned (.tuple #[])/\w=w'):=by
 go_enter Tryz.func156,Tryz.ntmps156;go_wp2_with fail
 refine wp_loop_rounds 1 ?_;rw [rounds_succ];go_wp2_with (go_at_call 202;refine (insN_any _).mono ?_;rintro e w1 ⟨rfl,rfl⟩)
 refine bodyPost_ret (v:=.tuple #[]) (results_none rfl _ _ _) rfl ?_;exact ⟨rfl,rfl⟩
theorem sortN_any (w:World):Calls Tryz.prog 103 #[.slice none 0 0,vAsc] w (fun e w'=>e= .returned (.tuple #[])/\w=w'):=by
 go_enter Tryz.func103,Tryz.ntmps103;go_wp2_with (first | (go_at_call 151;refine (bits_len_any 0 _ (by omega)).mono ?_;rintro e w1 ⟨⟨k,rfl⟩,rfl⟩) | (go_at_call 156;refine (pdqN_any _ _).mono ?_;rintro e w1 ⟨rfl,rfl⟩))
 go_end0;exact ⟨rfl,rfl⟩
end
section
open Go.RowKit Go.Shelf Go.Sort
attribute [local go_sem] wext_cell
def RowA (w:World) (g:Nat) (d:Array ID):Prop:=RowI w g d.toList
theorem getA (d:Array ID) {j:Nat} (h:j<d.size):d.toList.getD j id0=d[j]! :=by
 rw [getElem!_pos d j h,zA,Array.getElem?_toList,Array.getElem?_eq_getElem h];rfl
section
variable {w w':World} {g:Nat} {d:Array ID}
theorem RowA.on (h:RowA w g d) (hb:Below w.heap.size w w'):RowA w' g d:=RowI.on h hb
theorem RowA.at (h:RowA w g d) {j:Nat} (hj:j<d.size) {x:ID} (hx:d[j]! =x):w.cell? ⟨g,j*2,none⟩=some (.int .u64 x.1)/\w.cell? ⟨g,j*2+1,none⟩=some (.int .i64 x.2)/\w.frozen? ⟨g,j*2,none⟩=false/\w.frozen? ⟨g,j*2+1,none⟩=false:=
 RowI.cells h (by simpa using hj) ((getA d hj).trans hx)
theorem swp_list (d:Array ID) {i j:Nat} (hi:i<d.size) (hj:j<d.size):(swp d i j).toList=(d.toList.set i d[j]!).set j d[i]! :=by
 unfold swp;rw [Array.toList_setIfInBounds,Array.toList_setIfInBounds]
theorem RowA.swp (h:RowA w g d) {i j:Nat} (hi:i<d.size) (hj:j<d.size) {x y:ID} (hx:d[i]! =x) (hy:d[j]! =y):
 RowA ((((w.setCell ⟨g,i*2,none⟩ (.int .u64 y.1)).setCell ⟨g,i*2+1,none⟩ (.int .i64 y.2)).setCell ⟨g,j*2,none⟩ (.int .u64 x.1)).setCell ⟨g,j*2+1,none⟩ (.int .i64 x.2)) g (swp d i j):=by
 unfold RowA;rw [swp_list d hi hj,hx,hy];exact RowI.put (RowI.put h i (by simpa using hi) y) j (by simpa using hj) x
theorem gsw {a:World} (h:a.grownBy w (some g)) (i j:Nat) (x y:ID):a.grownBy ((((w.setCell ⟨g,i*2,none⟩ (.int .u64 y.1)).setCell ⟨g,i*2+1,none⟩ (.int .i64 y.2)).setCell ⟨g,j*2,none⟩ (.int .u64 x.1)).setCell ⟨g,j*2+1,none⟩ (.int .i64 x.2)) (some g):=
 g_set (p:=⟨g,j*2+1,none⟩) (g_set (p:=⟨g,j*2,none⟩) (g_set (p:=⟨g,i*2+1,none⟩) (g_set (p:=⟨g,i*2,none⟩) h (.inl rfl) (.int .u64 y.1)) (.inl rfl) (.int .i64 y.2)) (.inl rfl) (.int .u64 x.1)) (.inl rfl) (.int .i64 x.2)
end
abbrev ltA:ID->ID->Bool:=ltOf cmpID
abbrev SortP (a b:Nat) (d:Array ID) (g:Nat) (w:World) (e:Ending) (w':World):Prop:=
 e= .returned (.tuple #[])/\∃ d',PermIn a b d d'/\SortedIn ltA a b d'/\RowA w' g d'/\w.grownBy w' (some g)
theorem insA_any (g c a b:Nat) (d:Array ID) (w:World) (h:RowA w g d) (hab:a<=b) (hb:b<=d.size) (hn:d.size<=1000000) (hg:g<w.heap.size):
 Calls Tryz.prog 202 #[.slice (some ⟨g,0,none⟩) d.size c,.int .i64 a,.int .i64 b,vAsc] w (SortP a b d g w):=by
 have H:=hid h;clear h;go_enter Tryz.func202,Tryz.ntmps202;go_wp2_with fail
 go_loopw [8] (fun v wr=>∃ (i:Nat) (dk:Array ID),a<i/\i<=b+1/\v= .int .i64 (i:Int)/\dk.size=d.size/\Hid (insOuter ltA a b i dk=insOuter ltA a b (a+1) d)/\RowA wr g dk/\w.grownBy wr (some g)) (fun v _=>b+1-(intOf v).toNat)
 case atStart=>exact ⟨a+1,d,by omega,by omega,by go_num,rfl,rfl,H.out,g_refl _ _⟩
 obtain ⟨i,dk,hai,hib,rfl,hsk,HO,hr,hgr⟩:=hrel;have R0:=hid hr;have G0:=hid hgr;clear hr hgr;by_cases hlt:i<b
 · have hlti:(i:Int)<(b:Int):=by omega
   go_wp2_with fail
   go_loopw [9] (fun v wq=>∃ (j:Nat) (dj:Array ID),a<=j/\j<=i/\v= .int .i64 (j:Int)/\dj.size=d.size/\Hid (insInner ltA a j dj=insInner ltA a i dk)/\RowA wq g dj/\w.grownBy wq (some g)) (fun v _=>(intOf v).toNat)
   case atStart=>exact ⟨i,dk,by omega,zB _,rfl,hsk,rfl,R0.out,G0.out⟩
   rename World=>wq;obtain ⟨j,dj,haj,hji,rfl,hsj,HI,hr,hgr⟩:=hrel;have R1:=hid hr;have G1:=hid hgr;clear hr hgr;have hgq:g<wq.heap.size:=Nat.lt_of_lt_of_le hg G1.out.size
   have out:(j<=a∨ltA dj[j]! dj[j-1]! =false)->Hid (insOuter ltA a b (i+1) dj=insOuter ltA a b (a+1) d):=fun hs=>by
    show _=_;rw [<- HO.out,insOuter_go _ _ _ _ _ hlt, <- HI.out,insInner_stop _ _ _ _ hs]
   have OUT:=hid out;clear out;by_cases hja:a<j
   · obtain ⟨m,rfl⟩:∃ m,j=m+1:=⟨j-1,by omega⟩;have hjaz:decide ((a:Int)<(m:Int)+1)=true:=decide_eq_true (by omega);obtain ⟨x,hx⟩:∃ x,dj[m+1]! =x:=⟨_,rfl⟩;obtain ⟨y,hy⟩:∃ y,dj[m]! =y:=⟨_,rfl⟩;obtain ⟨a0,a1,_,_⟩:=R1.out.at (j:=m+1) (by omega) hx;obtain ⟨b0,b1,_,_⟩:=R1.out.at (j:=m) (by omega) hy;have HX:=hid hx;have HY:=hid hy;have k1:(m:Int)+1<(d.size:Int):=by omega
     have k2:(m:Int)<(d.size:Int):=by omega
     clear hx hy;by_cases hc:ltA x y=true
     · have hcm:decide (cmpID x y<0)=true:=hc;have HC:=hid hc;clear hc;go_wp2_with fail
       refine wp_region_ext (by kernel_rfl) (by kernel_rfl) ?_;repeat (go_big_quiet_step ((go_at_call 104;exact ext_call (asc_any x y _))))
       refine wpQuiet_nil ?_;intro w1 hb1;have R2:=hid (R1.out.on hb1);have G2:Hid (w.grownBy w1 (some g)):=g_below G1.out hb1;clear a0 a1 b0 b1 hcm hb1;obtain ⟨a0,a1,a2,a3⟩:=R2.out.at (j:=m+1) (by omega) HX.out;obtain ⟨b0,b1,b2,b3⟩:=R2.out.at (j:=m) (by omega) HY.out;go_wp2_with fail
       go_region
       go_wp2_with fail
       go_roundw
       case rel=>
        refine ⟨m,swp dj (m+1) m,by omega,by omega,by go_num,by rw [size_swp];exact hsj,?_,R2.out.swp (by omega) (by omega) HX.out HY.out,?_⟩
        · rw [Hid, <- HI.out,insInner_go ltA a (m+1) dj hja (by rw [HX.out,show m+1-1=m from rfl,HY.out];exact HC.out)];rfl
        have hgg:=gsw G2.out (m+1) m x y;exact ⟨hgg.os,hgg.tape,hgg.output,hgg.size,hgg.block⟩
       simp [intOf]
     have hcf:ltA x y=false:=by simpa using hc
     have hcm:decide (cmpID x y<0)=false:=hcf;have HC:=hid hcf;clear hc hcf;go_wp2_with fail
     refine wp_region_ext (by kernel_rfl) (by kernel_rfl) ?_;repeat (go_big_quiet_step ((go_at_call 104;exact ext_call (asc_any x y _))))
     refine wpQuiet_nil ?_;intro w1 hb1;have R2:=hid (R1.out.on hb1);have G2:Hid (w.grownBy w1 (some g)):=g_below G1.out hb1;clear a0 a1 b0 b1 hcm hb1;go_wp2_with fail
     go_roundw
     case rel=>exact ⟨i+1,dj,by omega,by omega,by go_num,hsj,OUT.out (.inr (by rw [HX.out,show m+1-1=m from rfl,HY.out];exact HC.out)),R2.out,G2.out⟩
     simp [intOf];omega
   have hjaz:decide ((a:Int)<(j:Int))=false:=decide_eq_false (by omega);go_wp2_with fail
   go_quiet (fail)
   go_wp2_with fail
   go_roundw
   case rel=>exact ⟨i+1,dj,by omega,by omega,by go_num,hsj,OUT.out (.inl (by omega)),R1.out.on (bdrewN (Below.refl _ _) _),g_drewN G1.out _⟩
   simp [intOf];omega
 have hlti:¬ (i:Int)<(b:Int):=by omega
 go_wp2_with fail
 go_end0
 have e:insertionSort ltA d a b=dk:=by
  unfold Sort.insertionSort;rw [<- HO.out,insOuter_stop _ _ _ _ _ hlt]
 have hS:=insertionSort_holds (lt:=ltA) swoID d a b hab hb;rw [e] at hS;exact ⟨rfl,dk,hS.1,hS.2,R0.out,G0.out⟩
end
section
open Go.RowKit Go.Shelf Go.Sort
attribute [local go_sem] wext_cell
abbrev PermP (a b:Nat) (d:Array ID) (g:Nat) (w:World) (e:Ending) (w':World):Prop:=
 e= .returned (.tuple #[])/\∃ d',PermIn a b d d'/\RowA w' g d'/\w.grownBy w' (some g)
theorem perm_swp {a b i j:Nat} {d dk:Array ID} (h:PermIn a b d dk) (hi:a<=i) (hib:i<b) (hj:a<=j) (hjb:j<b) (hb:b<=d.size):PermIn a b d (swp dk i j):=
 permIn_trans _ _ _ _ _ h (swp_permIn _ _ _ _ _ hi hib hj hjb (by rw [h.1];exact hb))
theorem revA_any (g c a b:Nat) (d:Array ID) (w:World) (h:RowA w g d) (hab:a<b) (hb:b<=d.size) (hn:d.size<=1000000) (hg:g<w.heap.size):
 Calls Tryz.prog 206 #[.slice (some ⟨g,0,none⟩) d.size c,.int .i64 a,.int .i64 b,vAsc] w (PermP a b d g w):=by
 have H:=hid h;clear h;obtain ⟨m,rfl⟩:∃ m,b=m+1:=⟨b-1,by omega⟩;go_enter Tryz.func206,Tryz.ntmps206;go_wp2_with fail
 go_loopw [8,9] (fun s8 s9 wr=>∃ (i j:Nat) (dk:Array ID),a<=i/\j<m+1/\i<=j+1/\s8= .int .i64 (i:Int)/\s9= .int .i64 (j:Int)/\Hid (PermIn a (m+1) d dk)/\RowA wr g dk/\w.grownBy wr (some g)) (fun s8 s9 _=>(intOf s9+1-intOf s8).toNat)
 case atStart=>exact ⟨a,m,d,zB _,by omega,by omega,rfl,by go_num,permIn_refl _ _ _,H.out,g_refl _ _⟩
 obtain ⟨i,j,dk,hai,hjm,hij,rfl,rfl,HP,hr,hgr⟩:=hrel;have R0:=hid hr;have G0:=hid hgr;have HSZ:Hid (dk.size=d.size):=HP.out.1;clear hr hgr;by_cases hlt:i<j
 · obtain ⟨q,hq⟩:∃ q,j=q+1:=⟨j-1,by omega⟩;obtain ⟨x,HX⟩:∃ x,Hid (dk[i]! =x):=⟨_,rfl⟩;obtain ⟨y,HY⟩:∃ y,Hid (dk[j]! =y):=⟨_,rfl⟩;have hi:i<d.size:=by omega
   have hj:j<d.size:=by omega
   have HALL:=hid (show a<=i/\j<m+1/\i<j/\j=q+1/\i<dk.size/\j<dk.size by have:=HSZ.out;exact ⟨hai,hjm,hlt,hq,by omega,by omega⟩);have hwq:IntKind.i64.wrap ((j:Int)-1)=(q:Int):=by rw [IntWalk.i64_in _ (by omega)];omega
   have n1:¬ i=j:=by omega
   have n2:¬ j=i:=by omega
   have n3:¬ i*2=j*2+1:=by omega
   have n4:¬ i*2+1=j*2:=by omega
   have n5:¬ j*2=i*2+1:=by omega
   have n6:¬ j*2+1=i*2:=by omega
   obtain ⟨a0,a1,a2,a3⟩:=R0.out.at (j:=i) HALL.out.2.2.2.2.1 HX.out;obtain ⟨b0,b1,b2,b3⟩:=R0.out.at (j:=j) HALL.out.2.2.2.2.2 HY.out;clear hij hjm hai hq;go_upto_region 3 with fail
   go_region
   go_wp2_with fail
   go_roundw
   case rel=>
    obtain ⟨k1,k2,k3,k4,k5,k6⟩:=HALL.out;refine ⟨i+1,q,swp dk i j,by omega,by omega,by omega,by go_num,rfl,perm_swp HP.out k1 (by omega) (by omega) k2 hb,R0.out.swp k5 k6 HX.out HY.out,?_⟩;have hgg:=gsw G0.out i j x y;exact ⟨hgg.os,hgg.tape,hgg.output,hgg.size,hgg.block⟩
   have:=HALL.out;simp [intOf];omega
 have hlt':¬ (i:Int)<(j:Int):=by omega
 go_wp2_with fail
 go_end0;exact ⟨rfl,dk,HP.out,R0.out,G0.out⟩
end
section
open Go.RowKit Go.Shelf Go.Sort
section
variable {lt:ID->ID->Bool} {a i j:Nat} {dk:Array ID}
theorem pl_up (h:i<=j) (hp:lt dk[i]! dk[a]! =true):partLoop lt a i j dk=partLoop lt a (i+1) j dk:=by
 rw [partLoop_eq lt a i j dk,partLoop_eq lt a (i+1) j dk,scanUp_go (fun x=>lt x dk[a]!) dk j i h hp]
theorem pl_down (h:i<=j) (h0:0<i) (hs:lt dk[i]! dk[a]! =false) (hj:lt dk[j]! dk[a]! =false):partLoop lt a i j dk=partLoop lt a i (j-1) dk:=by
 rw [partLoop_eq lt a i j dk,partLoop_eq lt a i (j-1) dk,scanUp_end (fun x=>lt x dk[a]!) dk j i (.inr hs),scanUp_end (fun x=>lt x dk[a]!) dk (j-1) i (.inr hs),
  scanDown_go (fun x=> !lt x dk[a]!) dk i j h (by omega) (by simp [hj])]
theorem pl_stop (h:j<i):partLoop lt a i j dk=(j,dk):=
 part_break lt a i j dk (i2:=i) (j2:=j) (scanUp_end _ _ _ _ (.inl (by omega))).symm (scanDown_end _ _ _ _ (.inl (by omega))).symm h
theorem pl_swap (h:i<=j) (hs:lt dk[i]! dk[a]! =false) (hj:lt dk[j]! dk[a]! =true):partLoop lt a i j dk=partLoop lt a (i+1) (j-1) (swp dk i j):=
 part_go lt a i j dk (i2:=i) (j2:=j) (scanUp_end (fun x=>lt x dk[a]!) dk j i (.inr hs)).symm (scanDown_end (fun x=> !lt x dk[a]!) dk i j (.inr (by simp [hj]))).symm (by omega)
theorem pe_up (h:i<=j) (hp:lt dk[a]! dk[i]! =false):partEqLoop lt a i j dk=partEqLoop lt a (i+1) j dk:=by
 rw [partEqLoop_eq lt a i j dk,partEqLoop_eq lt a (i+1) j dk,scanUp_go (fun x=> !lt dk[a]! x) dk j i h (by simp [hp])]
theorem pe_down (h:i<=j) (h0:0<i) (hs:lt dk[a]! dk[i]! =true) (hj:lt dk[a]! dk[j]! =true):partEqLoop lt a i j dk=partEqLoop lt a i (j-1) dk:=by
 rw [partEqLoop_eq lt a i j dk,partEqLoop_eq lt a i (j-1) dk,scanUp_end (fun x=> !lt dk[a]! x) dk j i (.inr (by simp [hs])),scanUp_end (fun x=> !lt dk[a]! x) dk (j-1) i (.inr (by simp [hs])),
  scanDown_go (fun x=>lt dk[a]! x) dk i j h (by omega) hj]
theorem pe_stop (h:j<i):partEqLoop lt a i j dk=(i,dk):=
 partEq_break lt a i j dk (i2:=i) (j2:=j) (scanUp_end _ _ _ _ (.inl (by omega))).symm (scanDown_end _ _ _ _ (.inl (by omega))).symm h
theorem pe_swap (h:i<=j) (hs:lt dk[a]! dk[i]! =true) (hj:lt dk[a]! dk[j]! =false):partEqLoop lt a i j dk=partEqLoop lt a (i+1) (j-1) (swp dk i j):=
 partEq_go lt a i j dk (i2:=i) (j2:=j) (scanUp_end (fun x=> !lt dk[a]! x) dk j i (.inr (by simp [hs]))).symm (scanDown_end (fun x=>lt dk[a]! x) dk i j (.inr hj)).symm (by omega)
end
theorem RowA.lt {w:World} {g:Nat} {d:Array ID} (h:RowA w g d):g<w.heap.size:=by
 obtain ⟨cur,h1,_⟩:=h;exact h1.lt
structure PSt (L:Nat->Nat->Array ID->Nat×Array ID) (T:Nat×Array ID) (a b:Nat) (d:Array ID) (g:Nat) (w:World) (i j:Nat) (dk:Array ID) (wr:World):Prop where
 ai:a<i
 ij:i<=j+1
 jb:j<b
 bs:b<=d.size
 sz:dk.size=d.size
 eq:L i j dk=T
 row:RowA wr g dk
 gr:w.grownBy wr (some g)
namespace PSt
variable {L:Nat->Nat->Array ID->Nat×Array ID} {T:Nat×Array ID} {a b:Nat} {d:Array ID} {g:Nat} {w:World} {i j:Nat} {dk:Array ID} {wr w1:World}
theorem on (h:PSt L T a b d g w i j dk wr) (hb:Below wr.heap.size wr w1):PSt L T a b d g w i j dk w1:={ h with row:=h.row.on hb,gr:=g_below h.gr hb }
theorem up (h:PSt L T a b d g w i j dk wr) (hij:i<=j) (e:L i j dk=L (i+1) j dk):PSt L T a b d g w (i+1) j dk wr:=
 ⟨by have:=h.ai;omega,by omega,h.jb,h.bs,h.sz,e.symm.trans h.eq,h.row,h.gr⟩
theorem down (h:PSt L T a b d g w i j dk wr) (hij:i<=j) (e:L i j dk=L i (j-1) dk):PSt L T a b d g w i (j-1) dk wr:=
 ⟨h.ai,by omega,by have:=h.jb;omega,h.bs,h.sz,e.symm.trans h.eq,h.row,h.gr⟩
theorem swap (h:PSt L T a b d g w i j dk wr) (hij:i<j) (e:L i j dk=L (i+1) (j-1) (swp dk i j)) (row:RowA w1 g (swp dk i j)) (gr:w.grownBy w1 (some g)):PSt L T a b d g w (i+1) (j-1) (swp dk i j) w1:=
 ⟨by have:=h.ai;omega,by omega,by have:=h.jb;omega,h.bs,by rw [size_swp];exact h.sz,e.symm.trans h.eq,row,gr⟩
theorem is (h:PSt L T a b d g w i j dk wr):i<=d.size/\j<d.size/\a<d.size/\a<i/\i<=j+1/\dk.size=d.size:=by
 have:=h.ai;have:=h.ij;have:=h.jb;have:=h.bs;exact ⟨by omega,by omega,by omega,h.ai,h.ij,h.sz⟩
end PSt
end
section
open Go.RowKit Go.Shelf Go.Sort
attribute [local go_sem] wext_cell
abbrev PartP (a b p:Nat) (d:Array ID) (g:Nat) (w:World) (e:Ending) (w':World):Prop:=
 ∃ (mid:Nat) (al:Bool) (d':Array ID),e= .returned (.tuple #[.int .i64 (mid:Int),.bool al])/\Hid ((partition ltA d a b p).1=mid)/\Hid ((partition ltA d a b p).2.2=d')/\RowA w' g d'/\w.grownBy w' (some g)
theorem partA_any (g c a b p:Nat) (d:Array ID) (w:World) (h:RowA w g d) (hap:a<=p) (hpb:p<b) (hb:b<=d.size) (hn:d.size<=1000000) (hg:g<w.heap.size):
 Calls Tryz.prog 209 #[.slice (some ⟨g,0,none⟩) d.size c,.int .i64 a,.int .i64 b,.int .i64 p,vAsc] w (PartP a b p d g w):=by
 have H:=hid h;clear h;obtain ⟨m,rfl⟩:∃ m,b=m+1:=⟨b-1,by omega⟩;obtain ⟨T,HT⟩:∃ T,Hid (partLoop ltA a (a+1) m (swp d a p)=T):=⟨_,rfl⟩;have HT1:Hid ((partition ltA d a (m+1) p).1=T.1):=by rw [Hid,partition_fst, <- HT.out];rfl
 have HT2:Hid ((partition ltA d a (m+1) p).2.2=swp T.2 T.1 a):=by rw [Hid,partition_arr, <- HT.out];rfl
 obtain ⟨d0,HD0⟩:∃ d0,Hid (swp d a p=d0):=⟨_,rfl⟩;rw [HD0.out] at HT;have HAM:=hid (show a<=m by omega);have HSZ:Hid (d0.size=d.size):=by rw [Hid, <- HD0.out,size_swp]
 go_enter Tryz.func209,Tryz.ntmps209;go_upto_region 1 with fail
 go_cut [] from 14 to 27 (fun wr=>Hid (RowA wr g (swp d a p))/\Hid (w.grownBy wr (some g)))
 case first=>
  obtain ⟨x,HX⟩:∃ x,Hid (d[a]! =x):=⟨_,rfl⟩;obtain ⟨y,HY⟩:∃ y,Hid (d[p]! =y):=⟨_,rfl⟩;have hAs:a<d.size:=by omega
  have hBs:p<d.size:=by omega
  obtain ⟨a0,a1,a2,a3⟩:=H.out.at (j:=a) hAs HX.out;obtain ⟨b0,b1,b2,b3⟩:=H.out.at (j:=p) hBs HY.out;have k1:(a:Int)<(d.size:Int):=by omega
  have k2:(p:Int)<(d.size:Int):=by omega
  have HSW:=hid (H.out.swp hAs hBs HX.out HY.out);have HGW:=hid (gsw (g_refl w (some g)) a p x y);clear hAs hBs;by_cases hAB:a=p
  · subst hAB;obtain rfl:x=y:=HX.out.symm.trans HY.out;go_region
    go_wp2_with fail
    go_meet;exact ⟨HSW.out,HGW.out.os,HGW.out.tape,HGW.out.output,HGW.out.size,HGW.out.block⟩
  have n1:¬ a=p:=hAB;have n2:¬ p=a:=fun e=>hAB e.symm;have n3:¬ a*2=p*2+1:=by omega
  have n4:¬ a*2+1=p*2:=by omega
  have n5:¬ p*2=a*2+1:=by omega
  have n6:¬ p*2+1=a*2:=by omega
  clear hAB;go_region
  go_wp2_with fail
  go_meet;exact ⟨HSW.out,HGW.out.os,HGW.out.tape,HGW.out.output,HGW.out.size,HGW.out.block⟩
 obtain ⟨HR,HG⟩:=hcut;have P0:Hid (PSt (partLoop ltA a) T a (m+1) d g w (a+1) m d0 wc):=⟨by omega,by have:=HAM.out;omega,by omega,hb,HSZ.out,HT.out,by rw [<- HD0.out];exact HR.out,HG.out⟩;have hw2:IntKind.i64.wrap ((m:Int)+1-1)=(m:Int):=by rw [IntWalk.i64_in _ (by omega)];omega
 clear HR HG;go_upto_block 0 with fail
 go_cut [12] from 32 to 49 (fun s wr=>∃ i:Nat,s= .int .i64 (i:Int)/\Hid ((a+1)<=i)/\Hid (PSt (partLoop ltA a) T a (m+1) d g w i m d0 wr)/\Hid (i<=m->ltA d0[i]! d0[a]! =false))
 case first=>
  go_wp2_with fail
  go_loopw [12] (fun v wr=>∃ i:Nat,v= .int .i64 (i:Int)/\Hid ((a+1)<=i)/\Hid (PSt (partLoop ltA a) T a (m+1) d g w i m d0 wr)) (fun v _=>m+1-(intOf v).toNat)
  case atStart=>exact ⟨(a+1),by go_num,zB _,P0⟩
  obtain ⟨i,rfl,HII,Q⟩:=hrel;obtain ⟨q1,q2,q3,q4,q5,q6⟩:=Q.out.is;by_cases hle:i<=m
  · have hd:decide (i<=m)=true:=decide_eq_true hle;obtain ⟨x,HX⟩:∃ x,Hid (d0[i]! =x):=⟨_,rfl⟩;obtain ⟨y,HY⟩:∃ y,Hid (d0[a]! =y):=⟨_,rfl⟩;obtain ⟨a0,a1,_,_⟩:=Q.out.row.at (j:=i) (by omega) HX.out;obtain ⟨b0,b1,_,_⟩:=Q.out.row.at (j:=a) (by omega) HY.out;have k1:(a:Int)<(d.size:Int):=by omega
    have k2:(i:Int)<(d.size:Int):=by omega
    have hgw:g<wr.heap.size:=Q.out.row.lt;have HL:=hid (show i<=m/\a<i/\i<=m+1 from ⟨hle,q4,q5⟩);skip
    clear hle q1 q2 q3 q4 q5 q6;by_cases hc:ltA x y=true
    · have hcm:decide (cmpID x y<0)=true:=hc;have HC:=hid hc;clear hc;go_wp2_with fail
      refine wp_region_ext (by kernel_rfl) (by kernel_rfl) ?_;repeat (go_big_quiet_step ((go_at_call 104;exact ext_call (asc_any x y _))))
      refine wpQuiet_nil ?_;intro w1 hb1;have Q1:=hid (Q.out.on hb1);clear a0 a1 b0 b1 hcm hb1;go_wp2_with fail
      go_roundw
      case rel=>exact ⟨i+1,by go_num,Nat.le_succ_of_le HII.out,Q1.out.up HL.out.1 (pl_up HL.out.1 (by rw [HX.out,HY.out];exact HC.out))⟩
      have:=HL.out;simp [intOf];omega
    have hc:ltA x y=false:=by simpa using hc
    have hcm:decide (cmpID x y<0)=false:=hc;have HC:=hid hc;clear hc;go_wp2_with fail
    refine wp_region_ext (by kernel_rfl) (by kernel_rfl) ?_;repeat (go_big_quiet_step ((go_at_call 104;exact ext_call (asc_any x y _))))
    refine wpQuiet_nil ?_;intro w1 hb1;have Q1:=hid (Q.out.on hb1);clear a0 a1 b0 b1 hcm hb1;go_wp2_with fail
    go_meet;exact ⟨i,rfl,HII,Q1,fun _=>by rw [HX.out,HY.out];exact HC.out⟩
  have hd:decide (i<=m)=false:=decide_eq_false hle;have HN:=hid hle;skip
  clear hle;go_wp2_with fail
  go_quiet (fail)
  go_wp2_with fail
  go_meet;exact ⟨i,rfl,HII,Q.out.on (bdrewN (Below.refl _ _) _),fun h=>absurd h HN.out⟩
 obtain ⟨i1,rfl,HI1,P1,S1⟩:=hcut;clear P0;go_upto_block 2 with fail
 go_cut [13] from 50 to 68 (fun s wr=>∃ j:Nat,s= .int .i64 (j:Int)/\Hid (j<=m)/\Hid (PSt (partLoop ltA a) T a (m+1) d g w i1 j d0 wr)/\Hid (i1<=j->ltA d0[i1]! d0[a]! =false)/\Hid (i1<=j->ltA d0[j]! d0[a]! =true))
 case first=>
  go_wp2_with fail
  go_loopw [13] (fun v wr=>∃ j:Nat,v= .int .i64 (j:Int)/\j<=m/\Hid (PSt (partLoop ltA a) T a (m+1) d g w i1 j d0 wr)) (fun v _=>(intOf v).toNat)
  case atStart=>exact ⟨m,rfl,zB _,P1⟩
  obtain ⟨j,rfl,hjJ,Q⟩:=hrel;obtain ⟨q1,q2,q3,q4,q5,q6⟩:=Q.out.is;by_cases hle:i1<=j
  · have hd:decide (i1<=j)=true:=decide_eq_true hle;obtain ⟨x,HX⟩:∃ x,Hid (d0[j]! =x):=⟨_,rfl⟩;obtain ⟨y,HY⟩:∃ y,Hid (d0[a]! =y):=⟨_,rfl⟩;obtain ⟨a0,a1,_,_⟩:=Q.out.row.at (j:=j) (by omega) HX.out;obtain ⟨b0,b1,_,_⟩:=Q.out.row.at (j:=a) (by omega) HY.out;have k1:(a:Int)<(d.size:Int):=by omega
    have k2:(j:Int)<(d.size:Int):=by omega
    have hgw:g<wr.heap.size:=Q.out.row.lt;have HL:=hid (show i1<=j/\a<i1/\i1<=j+1 from ⟨hle,q4,q5⟩);have HJ:=hid hjJ;clear hle q1 q2 q3 q4 q5 q6 hjJ;by_cases hc:ltA x y=true
    · have hcm:decide (cmpID x y<0)=true:=hc;have HC:=hid hc;clear hc;go_wp2_with fail
      refine wp_region_ext (by kernel_rfl) (by kernel_rfl) ?_;repeat (go_big_quiet_step ((go_at_call 104;exact ext_call (asc_any x y _))))
      refine wpQuiet_nil ?_;intro w1 hb1;have Q1:=hid (Q.out.on hb1);clear a0 a1 b0 b1 hcm hb1;go_wp2_with fail
      go_meet;exact ⟨j,rfl,HJ,Q1,fun h=>S1.out (by have:=HJ.out;omega),fun _=>by rw [HX.out,HY.out];exact HC.out⟩
    have hc:ltA x y=false:=by simpa using hc
    obtain ⟨q,hq⟩:∃ q,j=q+1:=⟨j-1,by have:=HL.out;omega⟩;subst hq;have hd2:decide ((i1:Int)<=(q:Int)+1)=true:=decide_eq_true (by have:=HL.out;omega);have hcm:decide (cmpID x y<0)=false:=hc;have HC:=hid hc;clear hc;go_wp2_with fail
    refine wp_region_ext (by kernel_rfl) (by kernel_rfl) ?_;repeat (go_big_quiet_step ((go_at_call 104;exact ext_call (asc_any x y _))))
    refine wpQuiet_nil ?_;intro w1 hb1;have Q1:=hid (Q.out.on hb1);clear a0 a1 b0 b1 hcm hb1;go_wp2_with fail
    go_roundw
    case rel=>exact ⟨q,by go_num,by have:=HJ.out;omega,Q1.out.down HL.out.1 (pl_down HL.out.1 (by have:=HL.out;omega) (S1.out (by have:=HL.out;have:=HJ.out;omega)) (by rw [HX.out,HY.out];exact HC.out))⟩
    simp [intOf]
  have hd:decide (i1<=j)=false:=decide_eq_false hle;have HN:=hid hle;have HJ:=hid hjJ;clear hle hjJ;go_wp2_with fail
  go_quiet (fail)
  go_wp2_with fail
  go_meet;exact ⟨j,rfl,HJ,Q.out.on (bdrewN (Below.refl _ _) _),fun h=>absurd h HN.out,fun h=>absurd h HN.out⟩
 obtain ⟨j1,rfl,HJ1,P2,S2,S3⟩:=hcut;clear P1 S1;obtain ⟨q1,q2,q3,q4,q5,q6⟩:=P2.out.is;by_cases hgt:j1<i1
 · have hgz:decide (j1<i1)=true:=decide_eq_true hgt;have HRES:Hid (T=(j1,d0)):=P2.out.eq.symm.trans (pl_stop hgt);clear hgt;go_upto_region 8 with fail
   go_cut [] from 72 to 85 (fun wr=>Hid (RowA wr g (swp d0 j1 a))/\Hid (w.grownBy wr (some g)))
   case first=>
    obtain ⟨x,HX⟩:∃ x,Hid (d0[j1]! =x):=⟨_,rfl⟩;obtain ⟨y,HY⟩:∃ y,Hid (d0[a]! =y):=⟨_,rfl⟩;have hAs:j1<d0.size:=by omega
    have hBs:a<d0.size:=by omega
    obtain ⟨a0,a1,a2,a3⟩:=P2.out.row.at (j:=j1) hAs HX.out;obtain ⟨b0,b1,b2,b3⟩:=P2.out.row.at (j:=a) hBs HY.out;have k1:(j1:Int)<(d.size:Int):=by omega
    have k2:(a:Int)<(d.size:Int):=by omega
    have HSW:=hid (P2.out.row.swp hAs hBs HX.out HY.out);have HGW:=hid (gsw P2.out.gr j1 a x y);clear hAs hBs;by_cases hAB:j1=a
    · subst hAB;obtain rfl:x=y:=HX.out.symm.trans HY.out;go_region
      go_wp2_with fail
      go_meet;exact ⟨HSW.out,HGW.out.os,HGW.out.tape,HGW.out.output,HGW.out.size,HGW.out.block⟩
    have n1:¬ j1=a:=hAB;have n2:¬ a=j1:=fun e=>hAB e.symm;have n3:¬ j1*2=a*2+1:=by omega
    have n4:¬ j1*2+1=a*2:=by omega
    have n5:¬ a*2=j1*2+1:=by omega
    have n6:¬ a*2+1=j1*2:=by omega
    clear hAB;go_region
    go_wp2_with fail
    go_meet;exact ⟨HSW.out,HGW.out.os,HGW.out.tape,HGW.out.output,HGW.out.size,HGW.out.block⟩
   obtain ⟨HR,HG⟩:=hcut;go_wp2_with fail
   go_ret2;exact ⟨j1,true,_,rfl,HT1.out.trans (congrArg Prod.fst HRES.out),HT2.out.trans (congrArg (fun t:Nat×Array ID=>swp t.2 t.1 a) HRES.out),HR.out,HG.out⟩
 have hgz:decide (j1<i1)=false:=decide_eq_false hgt;have hle:i1<=j1:=by omega
 have hlt:i1<j1:=by
  rcases Nat.lt_or_ge i1 j1 with h | h
  · exact h
  obtain rfl:i1=j1:=by omega
  have e1:=S2.out hle;have e2:=S3.out hle;rw [e1] at e2;cases e2
 have HE:=hid (pl_swap hle (S2.out hle) (S3.out hle));have HLT:=hid hlt;clear hgt hle;go_upto_region 10 with fail
 go_cut [] from 87 to 100 (fun wr=>Hid (RowA wr g (swp d0 i1 j1))/\Hid (w.grownBy wr (some g)))
 case first=>
  obtain ⟨x,HX⟩:∃ x,Hid (d0[i1]! =x):=⟨_,rfl⟩;obtain ⟨y,HY⟩:∃ y,Hid (d0[j1]! =y):=⟨_,rfl⟩;have hAs:i1<d0.size:=by omega
  have hBs:j1<d0.size:=by omega
  obtain ⟨a0,a1,a2,a3⟩:=P2.out.row.at (j:=i1) hAs HX.out;obtain ⟨b0,b1,b2,b3⟩:=P2.out.row.at (j:=j1) hBs HY.out;have k1:(i1:Int)<(d.size:Int):=by omega
  have k2:(j1:Int)<(d.size:Int):=by omega
  have HSW:=hid (P2.out.row.swp hAs hBs HX.out HY.out);have HGW:=hid (gsw P2.out.gr i1 j1 x y);clear hAs hBs;have hAB:¬ i1=j1:=by have:=HLT.out;omega
  have n1:¬ i1=j1:=hAB;have n2:¬ j1=i1:=fun e=>hAB e.symm;have n3:¬ i1*2=j1*2+1:=by omega
  have n4:¬ i1*2+1=j1*2:=by omega
  have n5:¬ j1*2=i1*2+1:=by omega
  have n6:¬ j1*2+1=i1*2:=by omega
  clear hAB;go_region
  go_wp2_with fail
  go_meet;exact ⟨HSW.out,HGW.out.os,HGW.out.tape,HGW.out.output,HGW.out.size,HGW.out.block⟩
 obtain ⟨HR,HG⟩:=hcut;have P3:=hid (P2.out.swap HLT.out HE.out HR.out HG.out);clear P2 HR HG S2 S3;obtain ⟨z,hz⟩:∃ z,j1=z+1:=⟨j1-1,by omega⟩;subst hz;clear hlt;go_upto_block 4 with fail
 go_cut [12,13] from 105 to 162 (fun s12 s13 wr=>∃ (i j:Nat) (dk:Array ID),s12= .int .i64 (i:Int)/\s13= .int .i64 (j:Int)/\j<i/\Hid (PSt (partLoop ltA a) T a (m+1) d g w i j dk wr))
 case first=>
  go_wp2_with fail
  go_loopw [12,13] (fun s12 s13 wr=>∃ (i j:Nat) (dk:Array ID),s12= .int .i64 (i:Int)/\s13= .int .i64 (j:Int)/\Hid (PSt (partLoop ltA a) T a (m+1) d g w i j dk wr)) (fun s12 s13 _=>(intOf s13+1-intOf s12).toNat)
  case atStart=>exact ⟨i1+1,z,_,by go_num,by go_num,P3⟩
  rename World=>wz;obtain ⟨i2,j2,dk,rfl,rfl,P4⟩:=hrel;go_upto_block 6 with fail
  go_cut [12] from 105 to 122 (fun s wr=>∃ i:Nat,s= .int .i64 (i:Int)/\Hid (i2<=i)/\Hid (PSt (partLoop ltA a) T a (m+1) d g w i j2 dk wr)/\Hid (i<=j2->ltA dk[i]! dk[a]! =false))
  case first=>
   go_wp2_with fail
   go_loopw [12] (fun v wr=>∃ i:Nat,v= .int .i64 (i:Int)/\Hid (i2<=i)/\Hid (PSt (partLoop ltA a) T a (m+1) d g w i j2 dk wr)) (fun v _=>j2+1-(intOf v).toNat)
   case atStart=>exact ⟨i2,rfl,zB _,P4⟩
   obtain ⟨i,rfl,HII,Q⟩:=hrel;obtain ⟨q1,q2,q3,q4,q5,q6⟩:=Q.out.is;by_cases hle:i<=j2
   · have hd:decide (i<=j2)=true:=decide_eq_true hle;obtain ⟨x,HX⟩:∃ x,Hid (dk[i]! =x):=⟨_,rfl⟩;obtain ⟨y,HY⟩:∃ y,Hid (dk[a]! =y):=⟨_,rfl⟩;obtain ⟨a0,a1,_,_⟩:=Q.out.row.at (j:=i) (by omega) HX.out;obtain ⟨b0,b1,_,_⟩:=Q.out.row.at (j:=a) (by omega) HY.out;have k1:(a:Int)<(d.size:Int):=by omega
     have k2:(i:Int)<(d.size:Int):=by omega
     have hgw:g<wr.heap.size:=Q.out.row.lt;have HL:=hid (show i<=j2/\a<i/\i<=j2+1 from ⟨hle,q4,q5⟩);skip
     clear hle q1 q2 q3 q4 q5 q6;by_cases hc:ltA x y=true
     · have hcm:decide (cmpID x y<0)=true:=hc;have HC:=hid hc;clear hc;go_wp2_with fail
       refine wp_region_ext (by kernel_rfl) (by kernel_rfl) ?_;repeat (go_big_quiet_step ((go_at_call 104;exact ext_call (asc_any x y _))))
       refine wpQuiet_nil ?_;intro w1 hb1;have Q1:=hid (Q.out.on hb1);clear a0 a1 b0 b1 hcm hb1;go_wp2_with fail
       go_roundw
       case rel=>exact ⟨i+1,by go_num,Nat.le_succ_of_le HII.out,Q1.out.up HL.out.1 (pl_up HL.out.1 (by rw [HX.out,HY.out];exact HC.out))⟩
       have:=HL.out;simp [intOf];omega
     have hc:ltA x y=false:=by simpa using hc
     have hcm:decide (cmpID x y<0)=false:=hc;have HC:=hid hc;clear hc;go_wp2_with fail
     refine wp_region_ext (by kernel_rfl) (by kernel_rfl) ?_;repeat (go_big_quiet_step ((go_at_call 104;exact ext_call (asc_any x y _))))
     refine wpQuiet_nil ?_;intro w1 hb1;have Q1:=hid (Q.out.on hb1);clear a0 a1 b0 b1 hcm hb1;go_wp2_with fail
     go_meet;exact ⟨i,rfl,HII,Q1,fun _=>by rw [HX.out,HY.out];exact HC.out⟩
   have hd:decide (i<=j2)=false:=decide_eq_false hle;have HN:=hid hle;skip
   clear hle;go_wp2_with fail
   go_quiet (fail)
   go_wp2_with fail
   go_meet;exact ⟨i,rfl,HII,Q.out.on (bdrewN (Below.refl _ _) _),fun h=>absurd h HN.out⟩
  obtain ⟨i3,rfl,HI3,P5,S5⟩:=hcut;clear P4;go_upto_block 8 with fail
  go_cut [13] from 123 to 141 (fun s wr=>∃ j:Nat,s= .int .i64 (j:Int)/\Hid (j<=j2)/\Hid (PSt (partLoop ltA a) T a (m+1) d g w i3 j dk wr)/\Hid (i3<=j->ltA dk[i3]! dk[a]! =false)/\Hid (i3<=j->ltA dk[j]! dk[a]! =true))
  case first=>
   go_wp2_with fail
   go_loopw [13] (fun v wr=>∃ j:Nat,v= .int .i64 (j:Int)/\j<=j2/\Hid (PSt (partLoop ltA a) T a (m+1) d g w i3 j dk wr)) (fun v _=>(intOf v).toNat)
   case atStart=>exact ⟨j2,rfl,zB _,P5⟩
   obtain ⟨j,rfl,hjJ,Q⟩:=hrel;obtain ⟨q1,q2,q3,q4,q5,q6⟩:=Q.out.is;by_cases hle:i3<=j
   · have hd:decide (i3<=j)=true:=decide_eq_true hle;obtain ⟨x,HX⟩:∃ x,Hid (dk[j]! =x):=⟨_,rfl⟩;obtain ⟨y,HY⟩:∃ y,Hid (dk[a]! =y):=⟨_,rfl⟩;obtain ⟨a0,a1,_,_⟩:=Q.out.row.at (j:=j) (by omega) HX.out;obtain ⟨b0,b1,_,_⟩:=Q.out.row.at (j:=a) (by omega) HY.out;have k1:(a:Int)<(d.size:Int):=by omega
     have k2:(j:Int)<(d.size:Int):=by omega
     have hgw:g<wr.heap.size:=Q.out.row.lt;have HL:=hid (show i3<=j/\a<i3/\i3<=j+1 from ⟨hle,q4,q5⟩);have HJ:=hid hjJ;clear hle q1 q2 q3 q4 q5 q6 hjJ;by_cases hc:ltA x y=true
     · have hcm:decide (cmpID x y<0)=true:=hc;have HC:=hid hc;clear hc;go_wp2_with fail
       refine wp_region_ext (by kernel_rfl) (by kernel_rfl) ?_;repeat (go_big_quiet_step ((go_at_call 104;exact ext_call (asc_any x y _))))
       refine wpQuiet_nil ?_;intro w1 hb1;have Q1:=hid (Q.out.on hb1);clear a0 a1 b0 b1 hcm hb1;go_wp2_with fail
       go_meet;exact ⟨j,rfl,HJ,Q1,fun h=>S5.out (by have:=HJ.out;omega),fun _=>by rw [HX.out,HY.out];exact HC.out⟩
     have hc:ltA x y=false:=by simpa using hc
     obtain ⟨q,hq⟩:∃ q,j=q+1:=⟨j-1,by have:=HL.out;omega⟩;subst hq;have hd2:decide ((i3:Int)<=(q:Int)+1)=true:=decide_eq_true (by have:=HL.out;omega);have hcm:decide (cmpID x y<0)=false:=hc;have HC:=hid hc;clear hc;go_wp2_with fail
     refine wp_region_ext (by kernel_rfl) (by kernel_rfl) ?_;repeat (go_big_quiet_step ((go_at_call 104;exact ext_call (asc_any x y _))))
     refine wpQuiet_nil ?_;intro w1 hb1;have Q1:=hid (Q.out.on hb1);clear a0 a1 b0 b1 hcm hb1;go_wp2_with fail
     go_roundw
     case rel=>exact ⟨q,by go_num,by have:=HJ.out;omega,Q1.out.down HL.out.1 (pl_down HL.out.1 (by have:=HL.out;omega) (S5.out (by have:=HL.out;have:=HJ.out;omega)) (by rw [HX.out,HY.out];exact HC.out))⟩
     simp [intOf]
   have hd:decide (i3<=j)=false:=decide_eq_false hle;have HN:=hid hle;have HJ:=hid hjJ;clear hle hjJ;go_wp2_with fail
   go_quiet (fail)
   go_wp2_with fail
   go_meet;exact ⟨j,rfl,HJ,Q.out.on (bdrewN (Below.refl _ _) _),fun h=>absurd h HN.out,fun h=>absurd h HN.out⟩
  obtain ⟨j3,rfl,HJ3,P6,S6,S7⟩:=hcut;clear P5 S5;obtain ⟨q1,q2,q3,q4,q5,q6⟩:=P6.out.is;by_cases hgt:j3<i3
  · have hgz:decide (j3<i3)=true:=decide_eq_true hgt;go_wp2_with fail
    go_meet;exact ⟨i3,j3,dk,rfl,rfl,hgt,P6⟩
  have hgz:decide (j3<i3)=false:=decide_eq_false hgt;have hle:i3<=j3:=by omega
  have hlt:i3<j3:=by
   rcases Nat.lt_or_ge i3 j3 with h | h
   · exact h
   obtain rfl:i3=j3:=by omega
   have e1:=S6.out hle;have e2:=S7.out hle;rw [e1] at e2;cases e2
  have HE:=hid (pl_swap hle (S6.out hle) (S7.out hle));have HLT:=hid hlt;clear hgt hle;go_upto_region 18 with fail
  go_cut [] from 145 to 158 (fun wr=>Hid (RowA wr g (swp dk i3 j3))/\Hid (w.grownBy wr (some g)))
  case first=>
   obtain ⟨x,HX⟩:∃ x,Hid (dk[i3]! =x):=⟨_,rfl⟩;obtain ⟨y,HY⟩:∃ y,Hid (dk[j3]! =y):=⟨_,rfl⟩;have hAs:i3<dk.size:=by omega
   have hBs:j3<dk.size:=by omega
   obtain ⟨a0,a1,a2,a3⟩:=P6.out.row.at (j:=i3) hAs HX.out;obtain ⟨b0,b1,b2,b3⟩:=P6.out.row.at (j:=j3) hBs HY.out;have k1:(i3:Int)<(d.size:Int):=by omega
   have k2:(j3:Int)<(d.size:Int):=by omega
   have HSW:=hid (P6.out.row.swp hAs hBs HX.out HY.out);have HGW:=hid (gsw P6.out.gr i3 j3 x y);clear hAs hBs;have hAB:¬ i3=j3:=by have:=HLT.out;omega
   have n1:¬ i3=j3:=hAB;have n2:¬ j3=i3:=fun e=>hAB e.symm;have n3:¬ i3*2=j3*2+1:=by omega
   have n4:¬ i3*2+1=j3*2:=by omega
   have n5:¬ j3*2=i3*2+1:=by omega
   have n6:¬ j3*2+1=i3*2:=by omega
   clear hAB;go_region
   go_wp2_with fail
   go_meet;exact ⟨HSW.out,HGW.out.os,HGW.out.tape,HGW.out.output,HGW.out.size,HGW.out.block⟩
  obtain ⟨HR,HG⟩:=hcut;have P7:=hid (P6.out.swap HLT.out HE.out HR.out HG.out);clear P6 HR HG S6 S7;obtain ⟨z,hz⟩:∃ z,j3=z+1:=⟨j3-1,by omega⟩;subst hz;clear hlt;go_wp2_with fail
  go_roundw
  case rel=>exact ⟨i3+1,z,_,by go_num,by go_num,P7⟩
  have h1:=HI3.out;have h2:=HJ3.out;have h3:=HLT.out;simp [intOf];omega
 obtain ⟨i,j,dk,rfl,rfl,hgt,P8⟩:=hcut;clear P3;obtain ⟨q1,q2,q3,q4,q5,q6⟩:=P8.out.is;have HRES:Hid (T=(j,dk)):=P8.out.eq.symm.trans (pl_stop hgt);clear hgt;go_upto_region 21 with fail
 go_cut [] from 163 to 176 (fun wr=>Hid (RowA wr g (swp dk j a))/\Hid (w.grownBy wr (some g)))
 case first=>
  obtain ⟨x,HX⟩:∃ x,Hid (dk[j]! =x):=⟨_,rfl⟩;obtain ⟨y,HY⟩:∃ y,Hid (dk[a]! =y):=⟨_,rfl⟩;have hAs:j<dk.size:=by omega
  have hBs:a<dk.size:=by omega
  obtain ⟨a0,a1,a2,a3⟩:=P8.out.row.at (j:=j) hAs HX.out;obtain ⟨b0,b1,b2,b3⟩:=P8.out.row.at (j:=a) hBs HY.out;have k1:(j:Int)<(d.size:Int):=by omega
  have k2:(a:Int)<(d.size:Int):=by omega
  have HSW:=hid (P8.out.row.swp hAs hBs HX.out HY.out);have HGW:=hid (gsw P8.out.gr j a x y);clear hAs hBs;by_cases hAB:j=a
  · subst hAB;obtain rfl:x=y:=HX.out.symm.trans HY.out;go_region
    go_wp2_with fail
    go_meet;exact ⟨HSW.out,HGW.out.os,HGW.out.tape,HGW.out.output,HGW.out.size,HGW.out.block⟩
  have n1:¬ j=a:=hAB;have n2:¬ a=j:=fun e=>hAB e.symm;have n3:¬ j*2=a*2+1:=by omega
  have n4:¬ j*2+1=a*2:=by omega
  have n5:¬ a*2=j*2+1:=by omega
  have n6:¬ a*2+1=j*2:=by omega
  clear hAB;go_region
  go_wp2_with fail
  go_meet;exact ⟨HSW.out,HGW.out.os,HGW.out.tape,HGW.out.output,HGW.out.size,HGW.out.block⟩
 obtain ⟨HR,HG⟩:=hcut;go_wp2_with fail
 go_ret2;exact ⟨j,false,_,rfl,HT1.out.trans (congrArg Prod.fst HRES.out),HT2.out.trans (congrArg (fun t:Nat×Array ID=>swp t.2 t.1 a) HRES.out),HR.out,HG.out⟩
end
end Go.Proofs.YteabgcollokgjaaGreatDoor
