/- Contracts of the walk, part 18. -/
import Derived.Test.YtmiknfneeipkeaaGreatS17
open Go.Lib (hid)
namespace Go.Proofs.YtmiknfneeipkeaaGreat
open Go.RowKit Go.Shelf Go.Sort
attribute [local go_sem] wext_cell
set_option maxRecDepth 100000 in
set_option maxHeartbeats 4000000 in
theorem insC_any (g S c a b:Nat) (d:Array CN) (w:World) (h:RowC w g S d) (hab:a<=b) (hb:b<=d.size) (hn:d.size<=1000000000):
 Calls Tryz.prog 166 #[.slice (some ⟨g,0,none⟩) d.size c,.int .i64 a,.int .i64 b,vC] w (SorC a b d g S w):=by
 have hg:=h.lt;have H:=hid h;clear h;go_enter Tryz.func166,Tryz.ntmps166;go_wp2_with fail
 go_loopw [8] (fun v wr=>∃ (i:Nat) (dk:Array CN),a<i/\i<=b+1/\v= .int .i64 (i:Int)/\dk.size=d.size/\Hid (insOuter ltC a b i dk=insOuter ltC a b (a+1) d)/\RowC wr g S dk/\w.grownBy wr (some g)) (fun v _=>b+1-(intOf v).toNat)
 case atStart=>exact ⟨a+1,d,by omega,by omega,by go_num,rfl,rfl,H.out,g_refl _ _⟩
 obtain ⟨i,dk,hai,hib,rfl,hsk,HO,hr,hgr⟩:=hrel;have R0:=hid hr;have G0:=hid hgr;clear hr hgr;by_cases hlt:i<b
 · have hlti:(i:Int)<(b:Int):=by omega
   go_wp2_with fail
   go_loopw [9] (fun v wq=>∃ (j:Nat) (dj:Array CN),a<=j/\j<=i/\v= .int .i64 (j:Int)/\dj.size=d.size/\Hid (insInner ltC a j dj=insInner ltC a i dk)/\RowC wq g S dj/\w.grownBy wq (some g)) (fun v _=>(intOf v).toNat)
   case atStart=>exact ⟨i,dk,by omega,Nat.le_refl _,rfl,hsk,rfl,R0.out,G0.out⟩
   rename World=>wq;obtain ⟨j,dj,haj,hji,rfl,hsj,HI,hr,hgr⟩:=hrel;have R1:=hid hr;have G1:=hid hgr;clear hr hgr;have hgq:g<wq.heap.size:=Nat.lt_of_lt_of_le hg G1.out.size
   have out:(j<=a∨ltC dj[j]! dj[j-1]! =false)->Hid (insOuter ltC a b (i+1) dj=insOuter ltC a b (a+1) d):=fun hs=>by
    show _=_;rw [<- HO.out,insOuter_go _ _ _ _ _ hlt, <- HI.out,insInner_stop _ _ _ _ hs]
   have OUT:=hid out;clear out;by_cases hja:a<j
   · obtain ⟨m,rfl⟩:∃ m,j=m+1:=⟨j-1,by omega⟩;have hjaz:decide ((a:Int)<(m:Int)+1)=true:=decide_eq_true (by omega);obtain ⟨x,hx⟩:∃ x,dj[m+1]! =x:=⟨_,rfl⟩;obtain ⟨y,hy⟩:∃ y,dj[m]! =y:=⟨_,rfl⟩;obtain ⟨a0,a1,a2,a3⟩:=R1.out.at (j:=m+1) (by omega) hx;obtain ⟨b0,b1,b2,b3⟩:=R1.out.at (j:=m) (by omega) hy;have HX:=hid hx;have HY:=hid hy;have k1:(m:Int)+1<(d.size:Int):=by omega
     have k2:(m:Int)<(d.size:Int):=by omega
     clear hx hy;by_cases hc:ltC x y=true
     · have hcm:decide (cmpCN x y<0)=true:=hc;have HC:=hid hc;clear hc;go_wp2_with fail
       refine wp_region_ext (by kernel_rfl) (by kernel_rfl) ?_;repeat (go_big_quiet_step ((go_at_call 85;exact ext_call (cmp85_any x y _))))
       refine wpQuiet_nil ?_;intro w1 hb1;have R2:=hid (R1.out.on hb1);have G2:Hid (w.grownBy w1 (some g)):=g_below G1.out hb1;clear a0 a1 a2 a3 b0 b1 b2 b3 hcm hb1;obtain ⟨a0,a1,a2,a3⟩:=R2.out.at (j:=m+1) (by omega) HX.out;obtain ⟨b0,b1,b2,b3⟩:=R2.out.at (j:=m) (by omega) HY.out;have f0:=fun o=>R2.out.fz o;go_wp2_with fail
       go_region
       go_wp2_with fail
       go_roundw
       case rel=>
        refine ⟨m,swp dj (m+1) m,by omega,by omega,by go_num,by rw [size_swp];exact hsj,?_,(R2.out.swp (by omega) (by omega) HX.out HY.out).drew,?_⟩
        · rw [Hid, <- HI.out,insInner_go ltC a (m+1) dj hja (by rw [HX.out,show m+1-1=m from rfl,HY.out];exact HC.out)];rfl
        exact g_drew1 (g_put4 (g_put4 G2.out (m+1) y) m x)
       simp [intOf]
     have hcf:ltC x y=false:=by simpa using hc
     have hcm:decide (cmpCN x y<0)=false:=hcf;have HC:=hid hcf;clear hc hcf;go_wp2_with fail
     refine wp_region_ext (by kernel_rfl) (by kernel_rfl) ?_;repeat (go_big_quiet_step ((go_at_call 85;exact ext_call (cmp85_any x y _))))
     refine wpQuiet_nil ?_;intro w1 hb1;have R2:=hid (R1.out.on hb1);have G2:Hid (w.grownBy w1 (some g)):=g_below G1.out hb1;clear a0 a1 a2 a3 b0 b1 b2 b3 hcm hb1;go_wp2_with fail
     go_roundw
     case rel=>exact ⟨i+1,dj,by omega,by omega,by go_num,hsj,OUT.out (.inr (by rw [HX.out,show m+1-1=m from rfl,HY.out];exact HC.out)),R2.out,G2.out⟩
     simp [intOf];omega
   have hjaz:decide ((a:Int)<(j:Int))=false:=decide_eq_false (by omega);go_wp2_with fail
   go_quiet (fail)
   go_wp2_with fail
   go_roundw
   case rel=>exact ⟨i+1,dj,by omega,by omega,by go_num,hsj,OUT.out (.inl (by omega)),R1.out.on (bdrewN (Below.refl _ _) _),g_drewN G1.out _⟩
   simp [intOf];omega
 have hlti:¬ (i:Int)<(b:Int):=by omega
 go_wp2_with fail
 go_end0
 have e:insertionSort ltC d a b=dk:=by
  unfold Sort.insertionSort;rw [<- HO.out,insOuter_stop _ _ _ _ _ hlt]
 have hS:=insertionSort_holds (lt:=ltC) swoCN d a b hab hb;rw [e] at hS;exact ⟨rfl,dk,hS.1,hS.2,R0.out,G0.out⟩
end Go.Proofs.YtmiknfneeipkeaaGreat
namespace Go.Proofs.YtmiknfneeipkeaaGreat
open Go.RowKit Go.Shelf Go.Sort
attribute [local go_sem] wext_cell
theorem sub_ww:Hid (∀ p q:Nat,q<=p->p<=4000000000->IntKind.i64.wrap ((p:Int)-(q:Int))=((p-q:Nat):Int)):=fun p q h1 h2=>by
 rw [show (p:Int)-(q:Int)=((p-q:Nat):Int) by omega];exact IntWalk.i64_in _ (by omega)
set_option maxRecDepth 100000 in
set_option maxHeartbeats 8000000 in
theorem symm_any:∀ (N g S c a m b:Nat) (d:Array CN) (w:World),b-a<=N->RowC w g S d->a<m->m<b->b<=d.size->d.size<=1000000000->SortedIn ltC a m d->SortedIn ltC m b d->
 Calls Tryz.prog 167 #[.slice (some ⟨g,0,none⟩) d.size c,.int .i64 a,.int .i64 m,.int .i64 b,vC] w (SorC a b d g S w):=by
 intro N;induction N with
 | zero=>intro g S c a m b d w h;omega
 | succ N ih=>
  intro g S c a m b d w hN h ham hmb hb hn hs1 hs2;have H:=hid h;have HS1:=hid hs1;have HS2:=hid hs2;have IH:=hid ih;have SUB:=sub_ww;have hg:=h.lt;have hw0:=SUB.out m a (by omega) (by omega);have hw1:=SUB.out b m (by omega) (by omega);clear h hs1 hs2 ih;go_enter Tryz.func167,Tryz.ntmps167;by_cases hc1:m-a=1
  · have hm1:((m-a:Nat):Int)=1:=by omega
    have hma:m=a+1:=by omega
    have HMA:=hid hma;clear hc1 hma;go_wp2_with fail
    go_loopw [10,11] (fun v10 v11 wr=>∃ i j:Nat,m<=i/\i<=j/\j<=b/\v10= .int .i64 (i:Int)/\v11= .int .i64 (j:Int)/\Hid (m<i->ltC d[i-1]! d[a]! =true)/\Hid (j<b->ltC d[j]! d[a]! =false)/\RowC wr g S d/\w.grownBy wr (some g)) (fun v10 v11 _=>(intOf v11).toNat-(intOf v10).toNat)
    case atStart=>exact ⟨m,b,Nat.le_refl _,by omega,Nat.le_refl _,rfl,rfl,(fun h=>absurd h (Nat.lt_irrefl _)),(fun h=>absurd h (Nat.lt_irrefl _)),H.out,g_refl _ _⟩
    obtain ⟨i,j,hmi,hij,hjb,rfl,rfl,HI,HJ,hr,hgr⟩:=hrel;have R0:=hid hr;have G0:=hid hgr;clear hr hgr hw0 hw1 hm1;have hgq:g<wr.heap.size:=R0.out.lt;by_cases hlt:i<j
    · obtain ⟨h,Hh⟩:∃ h:Nat,Hid (h=(i+j) / 2):=⟨_,rfl⟩;have hh1:i<=h:=by have:=Hh.out;omega
      have hh2:h<j:=by have:=Hh.out;omega
      have He:Hid (((i:Int)+(j:Int)) / 2=((h:Nat):Int)):=by have:=Hh.out;unfold Hid;omega
      obtain ⟨x,hx⟩:∃ x,d[h]! =x:=⟨_,rfl⟩;obtain ⟨y,hy⟩:∃ y,d[a]! =y:=⟨_,rfl⟩;obtain ⟨a0,a1,a2,a3⟩:=R0.out.at (j:=h) (by omega) hx;obtain ⟨b0,b1,b2,b3⟩:=R0.out.at (j:=a) (by omega) hy;have HX:=hid hx;have HY:=hid hy;have k1:(h:Int)<(d.size:Int):=by omega
      have k2:(a:Int)<(d.size:Int):=by omega
      clear hx hy;obtain ⟨v,hv⟩:∃ v,ltC x y=v:=⟨_,rfl⟩;have hcm:decide (cmpCN x y<0)=v:=hv;have HV:=hid hv;clear hv;go_wp2_with fail
      rw [He.out];cases v with
      | true=>
       refine wp_region_ext (by kernel_rfl) (by kernel_rfl) ?_;repeat (go_big_quiet_step ((go_at_call 85;exact ext_call (cmp85_any x y _))))
       refine wpQuiet_nil ?_;intro w1 hb1;have R2:=hid (R0.out.on hb1);have G2:Hid (w.grownBy w1 (some g)):=g_below G0.out hb1;clear a0 a1 a2 a3 b0 b1 b2 b3 hcm hb1;go_wp2_with fail
       go_roundw
       case rel=>exact ⟨h+1,j,by omega,by omega,hjb,by go_num,rfl,(fun _=>by rw [Nat.add_sub_cancel,HX.out,HY.out];exact HV.out),HJ,R2.out,G2.out⟩
       simp [intOf];omega
      | false=>
       refine wp_region_ext (by kernel_rfl) (by kernel_rfl) ?_;repeat (go_big_quiet_step ((go_at_call 85;exact ext_call (cmp85_any x y _))))
       refine wpQuiet_nil ?_;intro w1 hb1;have R2:=hid (R0.out.on hb1);have G2:Hid (w.grownBy w1 (some g)):=g_below G0.out hb1;clear a0 a1 a2 a3 b0 b1 b2 b3 hcm hb1;go_wp2_with fail
       go_roundw
       case rel=>exact ⟨i,h,hmi,hh1,by omega,rfl,rfl,HI,(fun _=>by rw [HX.out,HY.out];exact HV.out),R2.out,G2.out⟩
       simp [intOf];omega
    obtain rfl:i=j:=by omega
    have HFIN:Hid (SortedIn ltC a b (rotA d a (a+1) i)):=ins_right swoCN (by rw [<- HMA.out];exact HS2.out) (by have:=HMA.out;omega) hjb hb (fun h=>HI.out (by have:=HMA.out;omega)) HJ.out;have HPERM:Hid (PermIn a b d (rotA d a (a+1) i)):=rotA_permIn d (by omega) (by have:=HMA.out;omega) (Nat.le_refl _) hjb hb;have hwi:=SUB.out i 1 (by omega) (by omega);obtain ⟨I1,HI1⟩:∃ z,Hid (i-1=z):=⟨_,rfl⟩;rw [HI1.out] at hwi;have hi1:a<=I1/\I1<d.size:=by have:=HI1.out;have:=HMA.out;omega
    have HI2:Hid (I1+1=i):=by have:=HI1.out;have:=HMA.out;unfold Hid;omega
    go_wp2_with fail
    go_loopw [13] (fun v13 wq=>∃ k:Nat,a<=k/\k<=I1/\v13= .int .i64 (k:Int)/\RowC wq g S (rotA d a (a+1) (k+1))/\w.grownBy wq (some g)) (fun v13 _=>I1-(intOf v13).toNat)
    case atStart=>exact ⟨a,Nat.le_refl _,hi1.1,rfl,by rw [rotA_right];exact R0.out,G0.out⟩
    rename World=>wq;obtain ⟨k,hak,hki,rfl,hr,hgr⟩:=hrel;have R1:=hid hr;have G1:=hid hgr;clear hr hgr R0 G0;have hwi2:IntKind.i64.wrap ((i:Int)-1)=(I1:Int):=hwi;by_cases hlk:k<I1
    · have hkd:decide (k<I1)=true:=decide_eq_true hlk;have k1:(k:Int)+1<(d.size:Int):=by omega
      have k2:(k:Int)<(d.size:Int):=by omega
      obtain ⟨dk,HDK⟩:∃ z,Hid (rotA d a (a+1) (k+1)=z):=⟨_,rfl⟩;have HSZ:Hid (dk.size=d.size):=by rw [Hid, <- HDK.out,rotA_size]
      have HNX:Hid (rotA d a (a+1) (k+1+1)=swp dk k (k+1)):=by rw [Hid, <- HDK.out];exact (rot_one_right d (a:=a) (k:=k+1) (by omega) (by omega)).symm
      rw [HDK.out] at R1;obtain ⟨x,hx⟩:∃ z,dk[k]! =z:=⟨_,rfl⟩;obtain ⟨y,hy⟩:∃ z,dk[(k+1)]! =z:=⟨_,rfl⟩;obtain ⟨a0,a1,a2,a3⟩:=R1.out.at (j:=k) (by rw [HSZ.out];omega) hx;obtain ⟨b0,b1,b2,b3⟩:=R1.out.at (j:=(k+1)) (by rw [HSZ.out];omega) hy;have f0:=fun o=>R1.out.fz o;have HX:=hid hx;have HY:=hid hy;clear hx hy;go_wp2_with fail
      go_region
      go_wp2_with fail
      go_roundw
      case rel=>exact ⟨k+1,by omega,by omega,by go_num,by rw [HNX.out];exact (R1.out.swp (by rw [HSZ.out];omega) (by rw [HSZ.out];omega) HX.out HY.out).drew,g_drew1 (g_put4 (g_put4 G1.out k y) (k+1) x)⟩
      simp [intOf];omega
    obtain rfl:k=I1:=by omega
    have hkd:decide (k<k)=false:=decide_eq_false (Nat.lt_irrefl _);rw [HI2.out] at R1;go_wp2_with fail
    go_end0;exact ⟨rfl,_,HPERM.out,HFIN.out,R1.out,G1.out⟩
  have hm1:(((m-a:Nat):Int)==1)=false:=by rw [beq_eq_false_iff_ne];omega
  by_cases hc2:b-m=1
  · have hm2:((b-m:Nat):Int)=1:=by omega
    have hmb1:b=m+1:=by omega
    have HMB:=hid hmb1;clear hc1 hc2 hmb1;go_wp2_with fail
    go_loopw [14,15] (fun v14 v15 wr=>∃ i j:Nat,a<=i/\i<=j/\j<=m/\v14= .int .i64 (i:Int)/\v15= .int .i64 (j:Int)/\Hid (a<i->ltC d[m]! d[i-1]! =false)/\Hid (j<m->ltC d[m]! d[j]! =true)/\RowC wr g S d/\w.grownBy wr (some g)) (fun v14 v15 _=>(intOf v15).toNat-(intOf v14).toNat)
    case atStart=>exact ⟨a,m,Nat.le_refl _,by omega,Nat.le_refl _,rfl,rfl,(fun h=>absurd h (Nat.lt_irrefl _)),(fun h=>absurd h (Nat.lt_irrefl _)),H.out,g_refl _ _⟩
    obtain ⟨i,j,hai,hij,hjm,rfl,rfl,HI,HJ,hr,hgr⟩:=hrel;have R0:=hid hr;have G0:=hid hgr;clear hr hgr hw0 hw1 hm1 hm2;have hgq:g<wr.heap.size:=R0.out.lt;by_cases hlt:i<j
    · obtain ⟨h,Hh⟩:∃ h:Nat,Hid (h=(i+j) / 2):=⟨_,rfl⟩;have hh1:i<=h:=by have:=Hh.out;omega
      have hh2:h<j:=by have:=Hh.out;omega
      have He:Hid (((i:Int)+(j:Int)) / 2=((h:Nat):Int)):=by have:=Hh.out;unfold Hid;omega
      obtain ⟨x,hx⟩:∃ x,d[m]! =x:=⟨_,rfl⟩;obtain ⟨y,hy⟩:∃ y,d[h]! =y:=⟨_,rfl⟩;obtain ⟨a0,a1,a2,a3⟩:=R0.out.at (j:=m) (by omega) hx;obtain ⟨b0,b1,b2,b3⟩:=R0.out.at (j:=h) (by omega) hy;have HX:=hid hx;have HY:=hid hy;have k1:(h:Int)<(d.size:Int):=by omega
      have k2:(m:Int)<(d.size:Int):=by omega
      clear hx hy;obtain ⟨v,hv⟩:∃ v,ltC x y=v:=⟨_,rfl⟩;have hcm:decide (cmpCN x y<0)=v:=hv;have HV:=hid hv;clear hv;go_wp2_with fail
      rw [He.out];cases v with
      | true=>
       refine wp_region_ext (by kernel_rfl) (by kernel_rfl) ?_;repeat (go_big_quiet_step ((go_at_call 85;exact ext_call (cmp85_any x y _))))
       refine wpQuiet_nil ?_;intro w1 hb1;have R2:=hid (R0.out.on hb1);have G2:Hid (w.grownBy w1 (some g)):=g_below G0.out hb1;clear a0 a1 a2 a3 b0 b1 b2 b3 hcm hb1;go_wp2_with fail
       go_roundw
       case rel=>exact ⟨i,h,hai,hh1,by omega,rfl,rfl,HI,(fun _=>by rw [HX.out,HY.out];exact HV.out),R2.out,G2.out⟩
       simp [intOf];omega
      | false=>
       refine wp_region_ext (by kernel_rfl) (by kernel_rfl) ?_;repeat (go_big_quiet_step ((go_at_call 85;exact ext_call (cmp85_any x y _))))
       refine wpQuiet_nil ?_;intro w1 hb1;have R2:=hid (R0.out.on hb1);have G2:Hid (w.grownBy w1 (some g)):=g_below G0.out hb1;clear a0 a1 a2 a3 b0 b1 b2 b3 hcm hb1;go_wp2_with fail
       go_roundw
       case rel=>exact ⟨h+1,j,by omega,by omega,hjm,by go_num,rfl,(fun _=>by rw [Nat.add_sub_cancel,HX.out,HY.out];exact HV.out),HJ,R2.out,G2.out⟩
       simp [intOf];omega
    obtain rfl:i=j:=by omega
    have HFIN:Hid (SortedIn ltC a b (rotA d i m (m+1))):=by
     rw [HMB.out];exact ins_left swoCN HS1.out hai hjm (by omega) HI.out HJ.out
    have HPERM:Hid (PermIn a b d (rotA d i m (m+1))):=rotA_permIn d hjm (by omega) hai (by omega) hb;go_wp2_with fail
    go_loopw [17] (fun v17 wq=>∃ k:Nat,i<=k/\k<=m/\v17= .int .i64 (k:Int)/\RowC wq g S (rotA d k m (m+1))/\w.grownBy wq (some g)) (fun v17 _=>(intOf v17).toNat)
    case atStart=>exact ⟨m,hjm,Nat.le_refl _,rfl,by rw [rotA_left _ _ _ (by omega)];exact R0.out,G0.out⟩
    rename World=>wq;obtain ⟨k,hik,hkm,rfl,hr,hgr⟩:=hrel;have R1:=hid hr;have G1:=hid hgr;clear hr hgr R0 G0;by_cases hlk:i<k
    · have hkd:decide (i<k)=true:=decide_eq_true hlk;obtain ⟨k,rfl⟩:∃ k',k=k'+1:=⟨k-1,by omega⟩;have k1:(k:Int)+1<(d.size:Int):=by omega
      have k2:(k:Int)<(d.size:Int):=by omega
      obtain ⟨dk,HDK⟩:∃ z,Hid (rotA d (k+1) m (m+1)=z):=⟨_,rfl⟩;have HSZ:Hid (dk.size=d.size):=by rw [Hid, <- HDK.out,rotA_size]
      have HNX:Hid (rotA d k m (m+1)=swp dk (k+1) k):=by rw [Hid, <- HDK.out];exact (rot_one_left d (k:=k+1) (m:=m) (by omega) hkm (by omega)).symm
      rw [HDK.out] at R1;obtain ⟨x,hx⟩:∃ z,dk[(k+1)]! =z:=⟨_,rfl⟩;obtain ⟨y,hy⟩:∃ z,dk[k]! =z:=⟨_,rfl⟩;obtain ⟨a0,a1,a2,a3⟩:=R1.out.at (j:=(k+1)) (by rw [HSZ.out];omega) hx;obtain ⟨b0,b1,b2,b3⟩:=R1.out.at (j:=k) (by rw [HSZ.out];omega) hy;have f0:=fun o=>R1.out.fz o;have HX:=hid hx;have HY:=hid hy;clear hx hy;go_wp2_with fail
      go_region
      go_wp2_with fail
      go_roundw
      case rel=>exact ⟨k,by omega,by omega,by go_num,by rw [HNX.out];exact (R1.out.swp (by rw [HSZ.out];omega) (by rw [HSZ.out];omega) HX.out HY.out).drew,g_drew1 (g_put4 (g_put4 G1.out (k+1) y) k x)⟩
      simp [intOf]
    obtain rfl:i=k:=by omega
    have hkd:decide (i<i)=false:=decide_eq_false (Nat.lt_irrefl _);go_wp2_with fail
    go_end0;exact ⟨rfl,_,HPERM.out,HFIN.out,R1.out,G1.out⟩
  have hm2:(((b-m:Nat):Int)==1)=false:=by rw [beq_eq_false_iff_ne];omega
  obtain ⟨mid,HMID⟩:∃ h:Nat,Hid (h=(a+b) / 2):=⟨_,rfl⟩;have hmid1:a<=mid/\mid<b:=by have:=HMID.out;omega
  have He:Hid (((a:Int)+(b:Int)) / 2=((mid:Nat):Int)):=by have:=HMID.out;unfold Hid;omega
  obtain ⟨n,HNN⟩:∃ h:Nat,Hid (mid+m=h):=⟨_,rfl⟩;have hnn:mid+m=n:=HNN.out
  have hwn:IntKind.i64.wrap ((mid:Int)+(m:Int))=(n:Int):=by
   rw [show (mid:Int)+(m:Int)=(n:Int) by omega];exact IntWalk.i64_in _ (by omega)
  clear hc1 hc2;go_upto_region 25 with fail
  rw [He.out];go_upto_if 140 with fail
  go_cut [20,21] from 138 to 147 (fun v20 v21 w'=>∃ s0 r0:Nat,Hid ((mid<m/\s0=mid+m-b/\r0=mid)∨(m<=mid/\s0=a/\r0=m))/\v20= .int .i64 (s0:Int)/\v21= .int .i64 (r0:Int)/\w=w')
  case first=>
   by_cases hmm:mid<m
   · have hd:decide (m>mid)=true:=decide_eq_true hmm;have hd2:decide (mid<m)=true:=decide_eq_true hmm;have hwb:=SUB.out n b (by have:=HMID.out;omega) (by omega);clear hnn;go_wp2_with fail
     go_meet;exact ⟨n-b,mid,.inl ⟨hmm,by rw [HNN.out],rfl⟩,rfl,rfl,rfl⟩
   have hd:decide (m>mid)=false:=decide_eq_false hmm;have hd2:decide (mid<m)=false:=decide_eq_false hmm;clear hnn;go_wp2_with fail
   go_meet;exact ⟨a,m,.inr ⟨by omega,rfl,rfl⟩,rfl,rfl,rfl⟩
  obtain ⟨s0,r0,HCC,rfl,rfl,rfl⟩:=hcut;have hb0:a<=s0/\s0<=r0/\r0<=mid/\r0<=m:=by have:=HCC.out;have:=HMID.out;omega
  have hwp:=SUB.out n 1 (by omega) (by omega);obtain ⟨p,HP⟩:∃ z,Hid (n-1=z):=⟨_,rfl⟩;rw [HP.out] at hwp;have hwp2:IntKind.i64.wrap ((n:Int)-1)=(p:Int):=hwp;have hpn:p+1=n:=by have:=HP.out;omega
  clear hwp;go_wp2_with fail
  go_loopw [20,21] (fun v20 v21 wr=>∃ i j:Nat,s0<=i/\i<=j/\j<=r0/\v20= .int .i64 (i:Int)/\v21= .int .i64 (j:Int)/\Hid (s0<i->ltC d[p-(i-1)]! d[i-1]! =false)/\Hid (j<r0->ltC d[p-j]! d[j]! =true)/\RowC wr g S d/\w.grownBy wr (some g)) (fun v20 v21 _=>(intOf v21).toNat-(intOf v20).toNat)
  case atStart=>exact ⟨s0,r0,Nat.le_refl _,hb0.2.1,Nat.le_refl _,rfl,rfl,(fun h=>absurd h (Nat.lt_irrefl _)),(fun h=>absurd h (Nat.lt_irrefl _)),H.out,g_refl _ _⟩
  obtain ⟨i,j,hsi,hij,hjr,rfl,rfl,HI,HJ,hr,hgr⟩:=hrel;have R0:=hid hr;have G0:=hid hgr;clear hr hgr hw0 hw1 hm1 hm2;have hgq:g<wr.heap.size:=R0.out.lt;by_cases hlt:i<j
  · obtain ⟨h,Hh⟩:∃ h:Nat,Hid (h=(i+j) / 2):=⟨_,rfl⟩;have hh1:i<=h:=by have:=Hh.out;omega
    have hh2:h<j:=by have:=Hh.out;omega
    have He2:Hid (((i:Int)+(j:Int)) / 2=((h:Nat):Int)):=by have:=Hh.out;unfold Hid;omega
    have hph:=SUB.out p h (by omega) (by omega);obtain ⟨q,HQ⟩:∃ z,Hid (p-h=z):=⟨_,rfl⟩;rw [HQ.out] at hph;have hqs:q<d.size:=by have:=HQ.out;have:=HCC.out;have:=HMID.out;omega
    obtain ⟨x,hx⟩:∃ x,d[q]! =x:=⟨_,rfl⟩;obtain ⟨y,hy⟩:∃ y,d[h]! =y:=⟨_,rfl⟩;obtain ⟨a0,a1,a2,a3⟩:=R0.out.at (j:=q) hqs hx;obtain ⟨b0,b1,b2,b3⟩:=R0.out.at (j:=h) (by omega) hy;have HX:=hid hx;have HY:=hid hy;have k1:(h:Int)<(d.size:Int):=by omega
    have k2:(q:Int)<(d.size:Int):=by omega
    clear hx hy;obtain ⟨v,hv⟩:∃ v,ltC x y=v:=⟨_,rfl⟩;have hcm:decide (cmpCN x y<0)=v:=hv;have HV:=hid hv;have HPN:=hid hpn;have HNN2:=hid hnn;clear hv hpn hnn;go_wp2_with fail
    rw [He2.out];cases v with
    | true=>
     refine wp_region_ext (by kernel_rfl) (by kernel_rfl) ?_;repeat (go_big_quiet_step ((go_at_call 85;exact ext_call (cmp85_any x y _))))
     refine wpQuiet_nil ?_;intro w1 hb1;have R2:=hid (R0.out.on hb1);have G2:Hid (w.grownBy w1 (some g)):=g_below G0.out hb1;clear a0 a1 a2 a3 b0 b1 b2 b3 hcm hb1;go_wp2_with fail
     go_roundw
     case rel=>exact ⟨i,h,hsi,hh1,by omega,rfl,rfl,HI,(fun _=>by rw [HQ.out,HX.out,HY.out];exact HV.out),R2.out,G2.out⟩
     simp [intOf];omega
    | false=>
     refine wp_region_ext (by kernel_rfl) (by kernel_rfl) ?_;repeat (go_big_quiet_step ((go_at_call 85;exact ext_call (cmp85_any x y _))))
     refine wpQuiet_nil ?_;intro w1 hb1;have R2:=hid (R0.out.on hb1);have G2:Hid (w.grownBy w1 (some g)):=g_below G0.out hb1;clear a0 a1 a2 a3 b0 b1 b2 b3 hcm hb1;go_wp2_with fail
     go_roundw
     case rel=>exact ⟨h+1,j,by omega,by omega,hjr,by go_num,rfl,(fun _=>by rw [Nat.add_sub_cancel,HQ.out,HX.out,HY.out];exact HV.out),HJ,R2.out,G2.out⟩
     simp [intOf];omega
  obtain rfl:i=j:=by omega
  have hcut:=symm_cut swoCN HS1.out HS2.out ham hmb HMID.out HCC.out hsi hjr (fun h=>by rw [hnn,show n-1=p by omega];exact HI.out h) (fun h=>by rw [hnn,show n-1=p by omega];exact HJ.out h);rw [hnn] at hcut;obtain ⟨q1,q2,q3,q4,q5,q6,q7,q8⟩:=hcut;have hsp:=split_all HS1.out HS2.out q1 q2 q3 q4 hb q7 q8;rw [q5] at hsp;have hwe:=SUB.out n i (by omega) (by omega);obtain ⟨e,HE⟩:∃ z,Hid (n-i=z):=⟨_,rfl⟩;rw [HE.out] at hwe hsp q3 q4 q5;obtain ⟨d1,HD1⟩:∃ z,Hid (rotA d i m e=z):=⟨_,rfl⟩;have HP1:Hid (PermIn a b d d1):=by rw [Hid, <- HD1.out];exact rotA_permIn d q2 q3 q1 q4 hb
  have HSZ:Hid (d1.size=d.size):=by rw [Hid, <- HD1.out,rotA_size]
  rw [HD1.out] at hsp;have hme:mid<=e:=by omega
  have HSP:=hid hsp;clear hsp q7 q8 q5;have HPN:=hid hpn;have HNN2:=hid hnn;clear hpn hnn HI HJ;go_upto_region 39 with fail
  go_cut [185] from 178 (fun s w'=>∃ v:Bool,s= .bool v/\Hid (v=true↔(i<m/\m<e))/\w'=wr)
  case first=>
   by_cases c1:i<m
   · have hk1:decide (i<m)=true:=decide_eq_true c1;by_cases c2:m<e
     · have hk2:decide (m<e)=true:=decide_eq_true c2;go_wp2_with fail
       go_meet;exact ⟨true,rfl,⟨fun _=>⟨c1,c2⟩,fun _=>rfl⟩,rfl⟩
     have hk2:decide (m<e)=false:=decide_eq_false c2;go_wp2_with fail
     go_meet;exact ⟨false,rfl,⟨fun h=>by (cases h),fun h=>absurd h.2 c2⟩,rfl⟩
   have hk1:decide (i<m)=false:=decide_eq_false c1;go_wp2_with fail
   go_meet;exact ⟨false,rfl,⟨fun h=>by (cases h),fun h=>absurd h.1 c1⟩,rfl⟩
  obtain ⟨v,rfl,HVV,rfl⟩:=hcut;go_upto_if 185 with fail
  go_cut [] from 186 (fun w'=>RowC w' g S d1/\w.grownBy w' (some g))
  case first=>
   cases v with
   | true=>
    obtain ⟨c1,c2⟩:=HVV.out.1 rfl;have HC:=hid (rot_any g S c i m e d _ R0.out c1 c2 (by omega) hn vC);rw [HD1.out] at HC;go_wp2_with (go_at_call 204;(with_reducible refine HC.out.mono ?_);refine halt_ ?_)
    rintro en w2 rfl r2 g2;have R2:=hid r2;have G2:=hid (g_trans G0.out g2);clear r2 g2 HC;go_wp2_with fail
    go_meet;exact ⟨R2.out,G2.out⟩
   | false=>
    have hd1:d1=d:=by
     by_cases c1:i<m
     · have c2:¬ m<e:=fun h=>by have:=HVV.out.2 ⟨c1,h⟩;cases this
       rw [<- HD1.out,show e=m by omega,rotA_right]
     rw [<- HD1.out,show i=m by omega,rotA_left _ _ _ q3]
    have R2:=R0.out;rw [<- hd1] at R2;have R3:=hid R2;clear hd1 R2;go_wp2_with fail
    go_meet;exact ⟨R3.out,G0.out⟩
  obtain ⟨r1,g1⟩:=hcut;have R1:=hid r1;have G1:=hid g1;clear r1 g1 R0 G0;rename World=>wa;go_upto_region 41 with fail
  go_cut [199] from 192 (fun s w'=>∃ v:Bool,s= .bool v/\Hid (v=true↔(a<i/\i<mid))/\RowC w' g S d1/\w.grownBy w' (some g))
  case first=>
   by_cases c1:a<i
   · have hk1:decide (a<i)=true:=decide_eq_true c1;by_cases c2:i<mid
     · have hk2:decide (i<mid)=true:=decide_eq_true c2;go_wp2_with fail
       go_meet;exact ⟨true,rfl,⟨fun _=>⟨c1,c2⟩,fun _=>rfl⟩,R1.out,G1.out⟩
     have hk2:decide (i<mid)=false:=decide_eq_false c2;go_wp2_with fail
     go_meet;exact ⟨false,rfl,⟨fun h=>by (cases h),fun h=>absurd h.2 c2⟩,R1.out,G1.out⟩
   have hk1:decide (a<i)=false:=decide_eq_false c1;go_wp2_with fail
   go_meet;exact ⟨false,rfl,⟨fun h=>by (cases h),fun h=>absurd h.1 c1⟩,R1.out,G1.out⟩
  obtain ⟨v,rfl,HVV,r1,g1⟩:=hcut;have R1:=hid r1;have G1:=hid g1;clear r1 g1;go_upto_if 199 with fail
  go_cut [] from 200 (fun w'=>∃ d2,PermIn a mid d1 d2/\SortedIn ltC a mid d2/\RowC w' g S d2/\w.grownBy w' (some g))
  case first=>
   cases v with
   | true=>
    obtain ⟨c1,c2⟩:=HVV.out.1 rfl;have HC:=hid (IH.out g S c a i mid d1 _ (by omega) R1.out c1 c2 (by rw [HSZ.out];omega) (by rw [HSZ.out];exact hn) HSP.out.1 HSP.out.2.1);rw [HSZ.out] at HC;go_wp2_with (go_at_call 167;(with_reducible refine HC.out.mono ?_);refine halt_ ?_)
    rintro en w2 rfl d2 p2 s2 r2 g2;have R2:=hid r2;have P2:=hid p2;have S2:=hid s2;have G2:=hid (g_trans G1.out g2);clear r2 g2 p2 s2 HC;go_wp2_with fail
    go_meet;exact ⟨d2,P2.out,S2.out,R2.out,G2.out⟩
   | false=>
    have HS:Hid (SortedIn ltC a mid d1):=by
     by_cases c1:a<i
     · have c2:¬ i<mid:=fun h=>by have:=HVV.out.2 ⟨c1,h⟩;cases this
       have:i=mid:=by omega
       rw [<- this];exact HSP.out.1
     have:i=a:=by omega
     have h2:=HSP.out.2.1;rw [this] at h2;exact h2
    go_wp2_with fail
    go_meet;exact ⟨d1,permIn_refl _ _ _,HS.out,R1.out,G1.out⟩
  obtain ⟨d2,p2,s2,r2,g2⟩:=hcut;have R2:=hid r2;have P2:=hid p2;have S2:=hid s2;have G2:=hid g2;clear r2 g2 p2 s2 R1 G1;rename World=>wb;have HSZ2:Hid (d2.size=d.size):=by rw [Hid,P2.out.1,HSZ.out]
  have HX2:Hid (Cross ltC a mid b d2):=cross_left P2.out (by rw [HSZ.out];omega) HSP.out.2.2.2.2;have HS3:Hid (SortedIn ltC mid e d2/\SortedIn ltC e b d2):=⟨sorted_same HSP.out.2.2.1 (fun q h1 h2=>P2.out.2.1 q (.inr h1)),sorted_same HSP.out.2.2.2.1 (fun q h1 h2=>P2.out.2.1 q (.inr (by omega)))⟩;have HP2:Hid (PermIn a b d d2):=permIn_trans _ _ _ _ _ HP1.out (permIn_mono _ _ _ _ _ _ (Nat.le_refl _) (by omega) (by rw [HSZ.out];exact hb) P2.out);have FIN:Hid (∀ d3,PermIn mid b d2 d3->SortedIn ltC mid b d3->PermIn a b d d3/\SortedIn ltC a b d3):=fun d3 p3 s3=>⟨permIn_trans _ _ _ _ _ HP2.out (permIn_mono _ _ _ _ _ _ (by omega) (Nat.le_refl _) (by rw [HSZ2.out];exact hb) p3),sorted_join (sorted_same S2.out (fun q h1 h2=>p3.2.1 q (.inl h2))) s3 (cross_right p3 (by rw [HSZ2.out];exact hb) HX2.out)⟩;go_upto_region 43 with fail
  go_cut [213] from 206 (fun s w'=>∃ v:Bool,s= .bool v/\Hid (v=true↔(mid<e/\e<b))/\RowC w' g S d2/\w.grownBy w' (some g))
  case first=>
   by_cases c1:mid<e
   · have hk1:decide (mid<e)=true:=decide_eq_true c1;by_cases c2:e<b
     · have hk2:decide (e<b)=true:=decide_eq_true c2;go_wp2_with fail
       go_meet;exact ⟨true,rfl,⟨fun _=>⟨c1,c2⟩,fun _=>rfl⟩,R2.out,G2.out⟩
     have hk2:decide (e<b)=false:=decide_eq_false c2;go_wp2_with fail
     go_meet;exact ⟨false,rfl,⟨fun h=>by (cases h),fun h=>absurd h.2 c2⟩,R2.out,G2.out⟩
   have hk1:decide (mid<e)=false:=decide_eq_false c1;go_wp2_with fail
   go_meet;exact ⟨false,rfl,⟨fun h=>by (cases h),fun h=>absurd h.1 c1⟩,R2.out,G2.out⟩
  obtain ⟨v,rfl,HVV,r2,g2⟩:=hcut;have R2:=hid r2;have G2:=hid g2;clear r2 g2;cases v with
  | true=>
   obtain ⟨c1,c2⟩:=HVV.out.1 rfl;have HC:=hid (IH.out g S c mid e b d2 _ (by have:=HMID.out;omega) R2.out c1 c2 (by rw [HSZ2.out];exact hb) (by rw [HSZ2.out];exact hn) HS3.out.1 HS3.out.2);rw [HSZ2.out] at HC;go_wp2_with (go_at_call 167;(with_reducible refine HC.out.mono ?_);refine halt_ ?_)
   rintro en w2 rfl d3 p3 s3 r3 g3;have R3:=hid r3;have F3:=hid (FIN.out d3 p3 s3);have G3:=hid (g_trans G2.out g3);clear r3 g3 p3 s3 HC;go_wp2_with fail
   go_end0;exact ⟨rfl,d3,F3.out.1,F3.out.2,R3.out,G3.out⟩
  | false=>
   have F3:Hid (PermIn a b d d2/\SortedIn ltC a b d2):=by
    by_cases c1:mid<e
    · have c2:¬ e<b:=fun h=>by have:=HVV.out.2 ⟨c1,h⟩;cases this
      have:e=b:=by omega
      have h2:=HS3.out.1;rw [this] at h2;exact FIN.out d2 (permIn_refl _ _ _) h2
    have:e=mid:=by have:=HE.out;have:=HNN.out;omega
    have h2:=HS3.out.2;rw [this] at h2;exact FIN.out d2 (permIn_refl _ _ _) h2
   go_wp2_with fail
   go_end0;exact ⟨rfl,d2,F3.out.1,F3.out.2,R2.out,G2.out⟩
end Go.Proofs.YtmiknfneeipkeaaGreat
namespace Go.Proofs.YtmiknfneeipkeaaGreat
open Go.RowKit Go.Shelf Go.Sort
attribute [local go_sem] wext_cell
section
variable {α:Type} [Inhabited α] {lt:α->α->Bool}
def Fst (lt:α->α->Bool) (bs a:Nat) (d:Array α):Prop:=∀ i j,i<j->j<a->i / bs=j / bs->lt d[j]! d[i]! =false
def Snd (lt:α->α->Bool) (bs a n:Nat) (d:Array α):Prop:=∀ i j,a<=i->i<j->j<n->i / bs=j / bs->lt d[j]! d[i]! =false
theorem fst_step {bs a q hi:Nat} {d d':Array α} (h:Fst lt bs a d) (hb:0<bs) (ha:a=bs*q) (hp:PermIn a hi d d') (hs:SortedIn lt a hi d'):Fst lt bs hi d':=by
 intro i j hij hj he;by_cases c1:j<a
 · rw [hp.2.1 j (.inl c1),hp.2.1 i (.inl (by omega))];exact h i j hij c1 he
 by_cases c2:a<=i
 · exact hs i j c2 hij hj
 exfalso
 have h1:i / bs<q:=Nat.div_lt_of_lt_mul (by omega);have h2:q<=j / bs:=(Nat.le_div_iff_mul_le hb).2 (by rw [Nat.mul_comm];omega);omega
theorem snd_step {bs a hi n:Nat} {d d':Array α} (h:Snd lt bs a n d) (ha:a<=hi) (hp:PermIn a hi d d'):Snd lt bs hi n d':=by
 intro i j hi1 hij hj he;rw [hp.2.1 j (.inr (by omega)),hp.2.1 i (.inr hi1)];exact h i j (by omega) hij hj he
theorem snd_part {bs a n lo k hi:Nat} {d:Array α} (h:Snd lt bs a n d) (hb:0<bs) (ha:a<=lo) (hlo:lo=bs*k) (h1:hi<=lo+bs) (h2:hi<=n):SortedIn lt lo hi d:=by
 intro i j hi1 hij hj;refine h i j (by omega) hij (by omega) ?_
 have e:∀ x,lo<=x->x<lo+bs->x / bs=k:=fun x h3 h4=>by
  have h5:k<=x / bs:=(Nat.le_div_iff_mul_le hb).2 (by rw [Nat.mul_comm];omega);have h6:x / bs<k+1:=Nat.div_lt_of_lt_mul (by rw [Nat.mul_add];omega);omega
 rw [e i hi1 (by omega),e j (by omega) (by omega)]
theorem fst_snd {bs n:Nat} {d:Array α} (h:Fst lt bs n d):Snd lt bs 0 n d:=fun i j _ hij hj he=>h i j hij hj he
theorem fst_all {bs n:Nat} {d:Array α} (h:Fst lt bs n d) (hb:n<=bs):SortedIn lt 0 n d:=fun i j _ hij hj=>h i j hij hj (by rw [Nat.div_eq_of_lt (by omega),Nat.div_eq_of_lt (by omega)])
end
set_option maxRecDepth 100000 in
set_option maxHeartbeats 8000000 in
theorem stableC_any (g S c:Nat) (d:Array CN) (w:World) (h:RowC w g S d) (hn:d.size<=1000000000):
 Calls Tryz.prog 128 #[.slice (some ⟨g,0,none⟩) d.size c,.int .i64 (d.size:Int),vC] w (SorC 0 d.size d g S w):=by
 have H:=hid h;clear h;obtain ⟨n,HNN⟩:∃ n,Hid (d.size=n):=⟨_,rfl⟩;rw [HNN.out] at hn |-; go_enter Tryz.func128,Tryz.ntmps128;go_wp2_with fail
 go_loopw [7,8] (fun v7 v8 wr=>∃ (q a:Nat) (dk:Array CN),Hid (a=20*q)/\a<=n/\v7= .int .i64 (a:Int)/\v8= .int .i64 ((a+20:Nat):Int)/\Hid (dk.size=n)/\Hid (PermIn 0 n d dk/\Fst ltC 20 a dk)/\RowC wr g S dk/\w.grownBy wr (some g)) (fun v7 _ _=>n-(intOf v7).toNat)
 case atStart=>exact ⟨0,0,d,rfl,Nat.zero_le _,rfl,rfl,HNN.out,⟨permIn_refl _ _ _,fun i j h1 h2=>absurd h2 (Nat.not_lt_zero _)⟩,H.out,g_refl _ _⟩
 obtain ⟨q,a,dk,HA,han,rfl,rfl,HSZ,HI,hr,hgr⟩:=hrel;have R0:=hid hr;have G0:=hid hgr;clear hr hgr H;obtain ⟨b,HBB⟩:∃ b,Hid (a+20=b):=⟨_,rfl⟩;have hbb:=HBB.out;rw [HBB.out];by_cases hlt:b<=n
 · have hk1:decide (b<=n)=true:=decide_eq_true hlt;have HC:=hid (insC_any g S c a b dk wr R0.out (by omega) (by rw [HSZ.out];exact hlt) (by rw [HSZ.out];exact hn));rw [HSZ.out] at HC
   have hw:IntKind.i64.wrap ((b:Int)+20)=((b+20:Nat):Int):=by
    rw [show (b:Int)+20=((b+20:Nat):Int) by omega];exact IntWalk.i64_in _ (by omega)
   clear hbb;go_wp2_with (go_at_call 166;(with_reducible refine HC.out.mono ?_);refine halt_ ?_)
   rintro en w2 ⟨rfl,d2,p2,s2,r2,g2⟩;have R2:=hid r2;have HSZ2:Hid (d2.size=n):=by rw [Hid,p2.1,HSZ.out]
   have HI2:Hid (PermIn 0 n d d2/\Fst ltC 20 b d2):=⟨permIn_trans _ _ _ _ _ HI.out.1 (permIn_mono _ _ _ _ _ _ (Nat.zero_le _) hlt (by rw [HSZ.out];exact Nat.le_refl _) p2),fst_step HI.out.2 (by omega) HA.out p2 s2⟩;have G2:=hid (g_trans G0.out g2);clear r2 g2 p2 s2 HC;go_wp2_with fail
   go_roundw
   case rel=>exact ⟨q+1,b,d2,by have:=HA.out;have:=HBB.out;unfold Hid;omega,hlt,rfl,rfl,HSZ2.out,HI2.out,R2.out,G2.out⟩
   have:=HBB.out;simp [intOf];omega
 have hk1:decide (b<=n)=false:=decide_eq_false hlt;have HC:=hid (insC_any g S c a n dk wr R0.out (by omega) (by rw [HSZ.out];exact Nat.le_refl _) (by rw [HSZ.out];exact hn));rw [HSZ.out] at HC;clear hbb;go_wp2_with (go_at_call 166;(with_reducible refine HC.out.mono ?_);refine halt_ ?_)
 rintro en w2 ⟨rfl,d2,p2,s2,r2,g2⟩;have R2:=hid r2;have HSZ2:Hid (d2.size=n):=by rw [Hid,p2.1,HSZ.out]
 have HI2:Hid (PermIn 0 n d d2/\Fst ltC 20 n d2):=⟨permIn_trans _ _ _ _ _ HI.out.1 (permIn_mono _ _ _ _ _ _ (Nat.zero_le _) (Nat.le_refl _) (by rw [HSZ.out];exact Nat.le_refl _) p2),fst_step HI.out.2 (by omega) HA.out p2 s2⟩;have G2:=hid (g_trans G0.out g2);clear r2 g2 p2 s2 HC R0 G0 HI;go_wp2_with fail
 go_loopw [6] (fun v6 wr=>∃ (bs:Nat) (dk:Array CN),0<bs/\bs<=2000000000/\v6= .int .i64 (bs:Int)/\Hid (dk.size=n)/\Hid (PermIn 0 n d dk/\Fst ltC bs n dk)/\RowC wr g S dk/\w.grownBy wr (some g)) (fun v6 _=>n-(intOf v6).toNat)
 case atStart=>exact ⟨20,d2,by omega,by omega,rfl,HSZ2.out,HI2.out,R2.out,G2.out⟩
 rename World=>wq;obtain ⟨bs,dk2,hbs0,hbs1,rfl,HSZ3,HI3,hr,hgr⟩:=hrel;have R3:=hid hr;have G3:=hid hgr;clear hr hgr R2 G2;by_cases hlb:bs<n
 · have hk2:decide (bs<n)=true:=decide_eq_true hlb;obtain ⟨b2,HB2⟩:∃ z,Hid (2*bs=z):=⟨_,rfl⟩;have hb2:=HB2.out
   have hw2:IntKind.i64.wrap (2*(bs:Int))=(b2:Int):=by
    rw [show 2*(bs:Int)=(b2:Int) by omega];exact IntWalk.i64_in _ (by omega)
   clear hb2;go_wp2_with fail
   go_loopw [7,8] (fun v7 v8 wr=>∃ (q a b:Nat) (dk:Array CN),Hid (a=b2*q)/\a<=n/\Hid (b=a+b2)/\v7= .int .i64 (a:Int)/\v8= .int .i64 (b:Int)/\Hid (dk.size=n)/\Hid (PermIn 0 n d dk/\Fst ltC b2 a dk/\Snd ltC bs a n dk)/\RowC wr g S dk/\w.grownBy wr (some g)) (fun v7 _ _=>n-(intOf v7).toNat)
   case atStart=>exact ⟨0,0,b2,dk2,rfl,Nat.zero_le _,by rw [Hid,Nat.zero_add],rfl,rfl,HSZ3.out,⟨HI3.out.1,(fun i j h1 h2=>absurd h2 (Nat.not_lt_zero _)),fst_snd HI3.out.2⟩,R3.out,G3.out⟩
   rename World=>wz;obtain ⟨q3,a3,b3,dk3,HA3,han3,HB3,rfl,rfl,HSZ4,HI4,hr,hgr⟩:=hrel;have R4:=hid hr;have G4:=hid hgr;clear hr hgr R3 G3;have hb2:=HB2.out;have hb3:=HB3.out;obtain ⟨m3,HM3⟩:∃ z,Hid (a3+bs=z):=⟨_,rfl⟩;have hm3:=HM3.out
   have hw3:IntKind.i64.wrap ((a3:Int)+(bs:Int))=(m3:Int):=by
    rw [show (a3:Int)+(bs:Int)=(m3:Int) by omega];exact IntWalk.i64_in _ (by omega)
   have HAK:Hid (a3=bs*(2*q3)):=by
    have h1:=HA3.out;rw [<- HB2.out] at h1;rw [Hid,h1,Nat.mul_comm 2 bs,Nat.mul_assoc]
   have HMK:Hid (m3=bs*(2*q3+1)):=by
    rw [Hid, <- HM3.out,Nat.mul_add,Nat.mul_one, <- HAK.out]
   by_cases hlt3:b3<=n
   · have hk3:decide (b3<=n)=true:=decide_eq_true hlt3;have HC:=hid (symm_any _ g S c a3 m3 b3 dk3 wz (Nat.le_refl _) R4.out (by omega) (by omega) (by rw [HSZ4.out];exact hlt3) (by rw [HSZ4.out];exact hn) (snd_part HI4.out.2.2 hbs0 (Nat.le_refl _) HAK.out (by omega) (by omega)) (snd_part HI4.out.2.2 hbs0 (by omega) HMK.out (by omega) hlt3));rw [HSZ4.out] at HC
     have hw4:IntKind.i64.wrap ((b3:Int)+(b2:Int))=((b3+b2:Nat):Int):=by
      rw [show (b3:Int)+(b2:Int)=((b3+b2:Nat):Int) by omega];exact IntWalk.i64_in _ (by omega)
     clear hb2 hb3 hm3;go_wp2_with (go_at_call 167;(with_reducible refine HC.out.mono ?_);refine halt_ ?_)
     rintro en w5 ⟨rfl,d5,p5,s5,r5,g5⟩;have R5:=hid r5;have HSZ5:Hid (d5.size=n):=by rw [Hid,p5.1,HSZ4.out]
     have HI5:Hid (PermIn 0 n d d5/\Fst ltC b2 b3 d5/\Snd ltC bs b3 n d5):=⟨permIn_trans _ _ _ _ _ HI4.out.1 (permIn_mono _ _ _ _ _ _ (Nat.zero_le _) hlt3 (by rw [HSZ4.out];exact Nat.le_refl _) p5),fst_step HI4.out.2.1 (by have:=HB2.out;omega) HA3.out p5 s5,snd_step HI4.out.2.2 (by have:=HB3.out;omega) p5⟩;have G5:=hid (g_trans G4.out g5);clear r5 g5 p5 s5 HC;go_wp2_with fail
     go_roundw
     case rel=>exact ⟨q3+1,b3,b3+b2,d5,by rw [Hid,HB3.out,HA3.out,Nat.mul_add,Nat.mul_one],hlt3,rfl,rfl,rfl,HSZ5.out,HI5.out,R5.out,G5.out⟩
     have:=HB3.out;have:=HB2.out;simp [intOf];omega
   have hk3:decide (b3<=n)=false:=decide_eq_false hlt3
   have hw5:IntKind.i64.wrap ((bs:Int)*2)=(b2:Int):=by
    rw [show (bs:Int)*2=(b2:Int) by omega];exact IntWalk.i64_in _ (by omega)
   by_cases hm4:m3<n
   · have hk4:decide (m3<n)=true:=decide_eq_true hm4;have HC:=hid (symm_any _ g S c a3 m3 n dk3 wz (Nat.le_refl _) R4.out (by omega) hm4 (by rw [HSZ4.out];exact Nat.le_refl _) (by rw [HSZ4.out];exact hn) (snd_part HI4.out.2.2 hbs0 (Nat.le_refl _) HAK.out (by omega) (by omega)) (snd_part HI4.out.2.2 hbs0 (by omega) HMK.out (by omega) (Nat.le_refl _)));rw [HSZ4.out] at HC;clear hb2 hb3 hm3;go_wp2_with (go_at_call 167;(with_reducible refine HC.out.mono ?_);refine halt_ ?_)
     rintro en w5 ⟨rfl,d5,p5,s5,r5,g5⟩;have R5:=hid r5;have HSZ5:Hid (d5.size=n):=by rw [Hid,p5.1,HSZ4.out]
     have HI5:Hid (PermIn 0 n d d5/\Fst ltC b2 n d5):=⟨permIn_trans _ _ _ _ _ HI4.out.1 (permIn_mono _ _ _ _ _ _ (Nat.zero_le _) (Nat.le_refl _) (by rw [HSZ4.out];exact Nat.le_refl _) p5),fst_step HI4.out.2.1 (by have:=HB2.out;omega) HA3.out p5 s5⟩;have G5:=hid (g_trans G4.out g5);clear r5 g5 p5 s5 HC;go_wp2_with fail
     go_roundw
     case rel=>exact ⟨b2,d5,by have:=HB2.out;omega,by have:=HB2.out;omega,rfl,HSZ5.out,HI5.out,R5.out,G5.out⟩
     have:=HB2.out;simp [intOf];omega
   have hk4:decide (m3<n)=false:=decide_eq_false hm4;have HI5:Hid (PermIn 0 n d dk3/\Fst ltC b2 n dk3):=⟨HI4.out.1,fst_step HI4.out.2.1 (by omega) HA3.out (permIn_refl _ _ _) (snd_part HI4.out.2.2 hbs0 (Nat.le_refl _) HAK.out (by omega) (Nat.le_refl _))⟩;clear hb2 hb3 hm3;go_wp2_with fail
   go_roundw
   case rel=>exact ⟨b2,dk3,by have:=HB2.out;omega,by have:=HB2.out;omega,rfl,HSZ4.out,HI5.out,R4.out,G4.out⟩
   have:=HB2.out;simp [intOf];omega
 have hk2:decide (bs<n)=false:=decide_eq_false hlb;have HF:Hid (PermIn 0 n d dk2/\SortedIn ltC 0 n dk2):=⟨HI3.out.1,fst_all HI3.out.2 (by omega)⟩;go_wp2_with fail
 go_end0;exact ⟨rfl,dk2,HF.out.1,HF.out.2,R3.out,G3.out⟩
end Go.Proofs.YtmiknfneeipkeaaGreat
