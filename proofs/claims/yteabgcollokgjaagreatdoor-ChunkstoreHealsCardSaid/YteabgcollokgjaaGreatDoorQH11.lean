/- Q -/
import Derived.Test.YteabgcollokgjaaGreatDoorQH10
set_option linter.unusedSimpArgs false
set_option linter.unusedVariables false
set_option maxRecDepth 100000
set_option maxHeartbeats 32000000
open Go.Lib (hid)
open Nat renaming le_refl → zA,lt_of_lt_of_le → zB,le_trans → zC,le_of_lt → zD
namespace Go.Proofs.YteabgcollokgjaaGreatDoor
section
open Go.RowKit Go.Shelf Go.Sort
attribute [local go_sem] wext_cell
theorem hp_pre {a b:Nat} (hab:a<b) (hb:b<=1000000):∃ hi q p:Nat,IntKind.i64.wrap ((b:Int)-(a:Int))=(hi:Int)/\IntKind.i64.wrap ((hi:Int)-1)=(p:Int)/\wrap64 ((p:Int) / 2)=(q:Int)/\Hid (hi=b-a/\p=hi-1/\q=p / 2/\1<=hi):=by
 obtain ⟨hi,hhi⟩:∃ hi:Nat,hi=b-a:=⟨_,rfl⟩;have h1:1<=hi:=by omega
 have h2:hi<=1000000:=by omega
 have e1:(b:Int)-(a:Int)=(hi:Int):=by omega
 have e2:(hi:Int)-1=((hi-1:Nat):Int):=by omega
 refine ⟨hi,(hi-1) / 2,hi-1,?_,?_,?_,hhi,rfl,rfl,h1⟩
 · rw [e1,IntWalk.i64_in _ (by omega)]
 · rw [e2,IntWalk.i64_in _ (by omega)]
 clear e1 e2 hhi hab hb;unfold wrap64;omega
theorem heapA_any (g c a b:Nat) (d:Array ID) (w:World) (h:RowA w g d) (hab:a<b) (hb:b<=d.size) (hn:d.size<=1000000) (hg:g<w.heap.size):
 Calls Tryz.prog 203 #[.slice (some ⟨g,0,none⟩) d.size c,.int .i64 a,.int .i64 b,vAsc] w (SortP a b d g w):=by
 have H:=hid h;clear h;obtain ⟨hi,q,p,hw1,hw2,hwq,HF⟩:=hp_pre hab (zC hb hn);have hhi1:1<=hi:=HF.out.2.2.2;have hhi2:a+hi<=d.size:=by rw [HF.out.1,Nat.add_sub_cancel' (zD hab)];exact hb
 have HHI:Hid (hi=b-a):=HF.out.1;have HP:Hid (p=hi-1):=HF.out.2.1;have HQ:Hid (q=p / 2):=HF.out.2.2.1;have hq1:q<=d.size:=zC (by rw [HQ.out,HP.out];exact zC (Nat.div_le_self _ _) (Nat.sub_le _ _)) (zC (Nat.le_add_left hi a) hhi2);have HBQ:Hid (b-a=hi):=HHI.out.symm;go_enter Tryz.func203,Tryz.ntmps203;go_wp2_with fail
 rw [hwq];go_loopw [11] (fun v wr=>∃ (k:Nat) (z:Int) (dj:Array ID),k<=q+1/\z=(k:Int)-1/\v= .int .i64 z/\dj.size=d.size/\Hid (heapBuild ltA hi a k dj=heapBuild ltA hi a (q+1) d)/\RowA wr g dj/\w.grownBy wr (some g)) (fun v _=>(intOf v+1).toNat)
 case atStart=>exact ⟨q+1,(q:Int),d,zA _,by omega,rfl,rfl,rfl,H.out,g_refl _ _⟩
 obtain ⟨k,z,dj,hk,hz,rfl,hsj,HO,hr,hgr⟩:=hrel;have R0:=hid hr;have G0:=hid hgr;have HSZ:=hid hsj;clear hr hgr hsj;cases k with
 | succ m=>
  obtain rfl:z=(m:Int):=by omega
  have HS:=hid (siftA_any g c hi a m dj wr R0.out (by rw [HSZ.out];exact hhi2) (.inr (by rw [HSZ.out];exact zC (Nat.le_of_lt_succ hk) hq1)) (by rw [HSZ.out];exact hn) (zB hg G0.out.size));rw [HSZ.out] at HS;clear hz;go_wp2_with (go_at_call 257;(with_reducible refine HS.out.mono ?_);refine halt_ ?_)
  rintro e w2 ⟨rfl,d2,hd2,hs2,hr2,hg2⟩;have R2:=hid hr2;have G2:=hid (g_trans G0.out hg2);have HS2:=hid hs2;have HD2:=hid hd2;clear hd2 hs2 hr2 hg2 HS;go_wp2_with fail
  go_roundw
  case rel=>
   refine ⟨m,(m:Int)-1,d2,by omega,rfl,by go_num,HS2.out,?_,R2.out,G2.out⟩;rw [Hid, <- HO.out, <- HD2.out];rfl
  first | (simp [intOf];done) | (simp [intOf];omega)
 | zero=>
  obtain rfl:z= -1:=by omega
  obtain ⟨d1,HD1⟩:∃ d1,Hid (heapBuild ltA hi a (q+1) d=d1):=⟨_,rfl⟩;have HDJ:Hid (dj=d1):=by rw [Hid, <- HD1.out, <- HO.out];rfl
  clear hz;go_wp2_with fail
  rename World=>wa;go_loopw [12] (fun v wr=>∃ (k:Nat) (z:Int) (dj:Array ID),k<=hi/\z=(k:Int)-1/\v= .int .i64 z/\dj.size=d.size/\Hid (heapPop ltA a k dj=heapPop ltA a hi d1)/\RowA wr g dj/\w.grownBy wr (some g)) (fun v _=>(intOf v+1).toNat)
  case atStart=>exact ⟨hi,(p:Int),dj,zA _,by have:=HP.out;omega,rfl,HSZ.out,by rw [Hid,HDJ.out],R0.out,G0.out⟩
  rename World=>wz;obtain ⟨k,z,dk,hk2,hz,rfl,hsk,HO2,hr,hgr⟩:=hrel;have R3:=hid hr;have G3:=hid hgr;have HSK:=hid hsk;clear hr hgr hsk R0 G0;cases k with
  | succ m=>
   obtain rfl:z=(m:Int):=by omega
   clear hz;obtain ⟨P,HPP⟩:∃ P:Nat,P=a+m:=⟨_,rfl⟩;have hP:P<d.size:=by omega
   have ha:a<d.size:=by omega
   have hwP:IntKind.i64.wrap ((a:Int)+(m:Int))=(P:Int):=by
    clear hwq hw1 hw2;rw [IntWalk.i64_in _ (by omega)];omega
   have HPH:=hid HPP;have HPS:=hid (And.intro ha hP);have HDS:=hid hn;clear HPP hP ha;go_upto_region 10 with fail
   go_cut [] from 36 to 53 (fun wr=>Hid (RowA wr g (swp dk a P))/\Hid (w.grownBy wr (some g)))
   case first=>
    obtain ⟨x,HX⟩:∃ x,Hid (dk[a]! =x):=⟨_,rfl⟩;obtain ⟨y,HY⟩:∃ y,Hid (dk[P]! =y):=⟨_,rfl⟩;have hAs:a<dk.size:=by rw [HSK.out];exact HPS.out.1
    have hBs:P<dk.size:=by rw [HSK.out];exact HPS.out.2
    obtain ⟨a0,a1,a2,a3⟩:=R3.out.at (j:=a) hAs HX.out;obtain ⟨b0,b1,b2,b3⟩:=R3.out.at (j:=P) hBs HY.out;have k1:(P:Int)<(d.size:Int):=Int.ofNat_lt.2 HPS.out.2;have k2:(a:Int)<(d.size:Int):=Int.ofNat_lt.2 HPS.out.1;have HSW:=hid (R3.out.swp hAs hBs HX.out HY.out);have HGW:=hid (gsw G3.out a P x y);clear hAs hBs;by_cases hAB:P=a
    · subst hAB;obtain rfl:x=y:=HX.out.symm.trans HY.out;go_region
      go_wp2_with fail
      go_meet;exact ⟨HSW.out,HGW.out.os,HGW.out.tape,HGW.out.output,HGW.out.size,HGW.out.block⟩
    have n1:¬ P=a:=hAB;have n2:¬ a=P:=fun e=>hAB e.symm;have n3:¬ P*2=a*2+1:=by omega
    have n4:¬ P*2+1=a*2:=by omega
    have n5:¬ a*2=P*2+1:=by omega
    have n6:¬ a*2+1=P*2:=by omega
    clear hAB;go_region
    go_wp2_with fail
    go_meet;exact ⟨HSW.out,HGW.out.os,HGW.out.tape,HGW.out.output,HGW.out.size,HGW.out.block⟩
   obtain ⟨HR4,HG4⟩:=hcut;obtain ⟨dn,HDN⟩:∃ dn,Hid (swp dk a P=dn):=⟨_,rfl⟩;rw [HDN.out] at HR4;have HSN:Hid (dn.size=d.size):=by rw [Hid, <- HDN.out,size_swp];exact HSK.out
   have HS:=siftA_any g c m a 0 dn wc HR4.out (by rw [HSN.out];have:=HPH.out;have:=HPS.out.2;omega) (.inr (Nat.zero_le _)) (by rw [HSN.out];exact HDS.out) (zB hg HG4.out.size);rw [HSN.out,show ((0:Nat):Int)=0 from rfl] at HS;have HS:=hid HS;go_wp2_with (go_at_call 257;(with_reducible refine HS.out.mono ?_);refine halt_ ?_)
   rintro e w2 ⟨rfl,d2,hd2,hs2,hr2,hg2⟩;have R4:=hid hr2;have G4:Hid (w.grownBy w2 (some g)):=g_trans HG4.out hg2;have HS2:=hid hs2;have HD2:=hid hd2;clear hd2 hs2 hr2 hg2 HS HR4 HG4;go_wp2_with fail
   go_roundw
   case rel=>
    refine ⟨m,(m:Int)-1,d2,by omega,rfl,by go_num,HS2.out,?_,R4.out,G4.out⟩;rw [Hid, <- HO2.out, <- HD2.out, <- HDN.out];exact congrArg (fun z=>heapPop ltA a m (siftDown ltA m a 0 (swp dk a z))) HPH.out
   first | (simp [intOf];done) | (simp [intOf];omega)
  | zero=>
   obtain rfl:z= -1:=by omega
   clear hz;go_wp2_with fail
   refine bodyPost_ret (v:=.tuple #[]) (results_none rfl _ _ _) rfl ?_
   have e:Sort.heapSort ltA d a b=dk:=by
    unfold Sort.heapSort;rw [HBQ.out,show (hi-1) / 2+1=q+1 by rw [HQ.out,HP.out],HD1.out, <- HO2.out];rfl
   have hS:=heapSort_holds (lt:=ltA) swoID d a b (zD hab) hb;rw [e] at hS;exact ⟨rfl,dk,hS.1,hS.2,R3.out,G3.out⟩
end
section
open Go.RowKit Go.Shelf Go.Sort
structure QSt (A B:Nat) (d0:Array ID) (a b:Nat) (d:Array ID) (g:Nat) (w wr:World):Prop where
 ab:a<=b
 bs:b<=d.size
 sz:d.size=d0.size
 below:Sort.Below ltA a b d
 fin:∀ R,PermIn a b d R->SortedIn ltA a b R->PermIn A B d0 R/\SortedIn ltA A B R
 row:RowA wr g d
 gr:w.grownBy wr (some g)
namespace QSt
variable {A B:Nat} {d0:Array ID} {a b:Nat} {d d':Array ID} {g:Nat} {w wr w1:World}
theorem start (h:RowA w g d) (hab:a<=b) (hb:b<=d.size) (hB:Sort.Below ltA a b d):QSt a b d a b d g w w:=
 ⟨hab,hb,rfl,hB,fun _ h1 h2=>⟨h1,h2⟩,h,g_refl _ _⟩
theorem on (h:QSt A B d0 a b d g w wr) (hb:Go.RowKit.Below wr.heap.size wr w1):QSt A B d0 a b d g w w1:={ h with row:=h.row.on hb,gr:=g_below h.gr hb }
theorem same (h:QSt A B d0 a b d g w wr) (row:RowA w1 g d) (gr:wr.grownBy w1 (some g)):QSt A B d0 a b d g w w1:={ h with row:=row,gr:=g_trans h.gr gr }
theorem perm (h:QSt A B d0 a b d g w wr) (hp:PermIn a b d d') (row:RowA w1 g d') (gr:wr.grownBy w1 (some g)):QSt A B d0 a b d' g w w1:=
 ⟨h.ab,by rw [hp.1];exact h.bs,by rw [hp.1];exact h.sz,h.below.perm h.bs hp,fun R h1 h2=>h.fin R (permIn_trans _ _ _ _ _ hp h1) h2,row,g_trans h.gr gr⟩
theorem sort (h:QSt A B d0 a b d g w wr) (hp:PermIn a b d d') (hs:SortedIn ltA a b d') (row:RowA w1 g d') (gr:wr.grownBy w1 (some g)) (e:Ending) (he:e= .returned (.tuple #[])):SortP A B d0 g w e w1:=
 ⟨he,d',(h.fin d' hp hs).1,(h.fin d' hp hs).2,row,g_trans h.gr gr⟩
theorem done (h:QSt A B d0 a b d g w wr) (hs:SortedIn ltA a b d) (e:Ending) (he:e= .returned (.tuple #[])):SortP A B d0 g w e wr:=
 ⟨he,d,(h.fin d (permIn_refl _ _ _) hs).1,(h.fin d (permIn_refl _ _ _) hs).2,h.row,h.gr⟩
theorem equal (h:QSt A B d0 a b d g w wr) {p mid:Nat} (ha:0<a) (hap:a<=p) (hpb:p<b) (hn:ltA d[a-1]! d[p]! =false) (hx:partitionEqual ltA d a b p=(mid,d')) (row:RowA w1 g d') (gr:wr.grownBy w1 (some g)):
 a<mid/\mid<=b/\QSt A B d0 mid b d' g w w1:=by
 obtain ⟨h1,h2,h3,h4,h5⟩:=round_eq swoID (partitionEqual_holds ltA) ha hap hpb h.bs h.below hn hx;refine ⟨h1,h2,h2,by rw [h3];exact h.bs,h3.trans h.sz,h4,fun R r1 r2=>?_,row,g_trans h.gr gr⟩;obtain ⟨q1,q2⟩:=h5 R r1 r2;exact h.fin R q1 q2
theorem part (h:QSt A B d0 a b d g w wr) {p mid:Nat} {al:Bool} (hap:a<=p) (hpb:p<b) (hx1:(partition ltA d a b p).1=mid) (hx2:(partition ltA d a b p).2.2=d') (row:RowA w1 g d') (gr:wr.grownBy w1 (some g)):
 a<=mid/\mid<b/\d'.size=d0.size/\b<=d'.size/\RowA w1 g d'/\w.grownBy w1 (some g)/\Sort.Below ltA a mid d'/\Sort.Below ltA (mid+1) b d'/\
 (∀ L w2,PermIn a mid d' L->SortedIn ltA a mid L->RowA w2 g L->w1.grownBy w2 (some g)->QSt A B d0 (mid+1) b L g w w2)/\
 (∀ L w2,PermIn (mid+1) b d' L->SortedIn ltA (mid+1) b L->RowA w2 g L->w1.grownBy w2 (some g)->QSt A B d0 a mid L g w w2):=by
 have hx:partition ltA d a b p=(mid,(partition ltA d a b p).2.1,d'):=by rw [<- hx1, <- hx2]
 obtain ⟨h1,h2,h3,h4,h5,h6,h7⟩:=round_part swoID (partition_holds ltA) hap hpb h.bs h.below hx;refine ⟨h1,h2,h3.trans h.sz,by rw [h3];exact h.bs,row,g_trans h.gr gr,h4,h5,fun L w2 hL hs r g2=>?_,fun L w2 hL hs r g2=>?_⟩
 · obtain ⟨q1,q2⟩:=h6 L hL hs;refine ⟨by omega,by rw [hL.1,h3];exact h.bs,by rw [hL.1,h3];exact h.sz,q1,fun R r1 r2=>?_,r,g_trans (g_trans h.gr gr) g2⟩;obtain ⟨s1,s2⟩:=q2 R r1 r2;exact h.fin R s1 s2
 obtain ⟨q1,q2⟩:=h7 L hL hs;refine ⟨h1,by rw [hL.1,h3];have:=h.bs;omega,by rw [hL.1,h3];exact h.sz,q1,fun R r1 r2=>?_,r,g_trans (g_trans h.gr gr) g2⟩;obtain ⟨s1,s2⟩:=q2 R r1 r2;exact h.fin R s1 s2
end QSt
end
section
open Go.RowKit Go.Shelf Go.Sort
attribute [local go_sem] wext_cell
def PdqOk (n:Nat):Prop:=
 ∀ (g c a b lim:Nat) (d:Array ID) (w:World),RowA w g d->a<=b->b<=d.size->b-a<n->b-a<50->d.size<=1000000->lim<=1000->Sort.Below ltA a b d->g<w.heap.size->
  Calls Tryz.prog 156 #[.slice (some ⟨g,0,none⟩) d.size c,.int .i64 a,.int .i64 b,.int .i64 lim,vAsc] w (SortP a b d g w)
theorem pdq_len {a b:Nat} (h:a<=b) (hb:b<=1000000):∃ L:Nat,IntKind.i64.wrap ((b:Int)-(a:Int))=(L:Int)/\Hid (L=b-a):=by
 refine ⟨b-a,?_,rfl⟩;rw [IntWalk.i64_in _ (by omega)];omega
theorem pdq_rev {a b p:Nat} (h1:a<=p) (h2:p<b) (hb:b<=1000000):∃ m k q:Nat,IntKind.i64.wrap ((b:Int)-1)=(m:Int)/\IntKind.i64.wrap ((p:Int)-(a:Int))=(k:Int)/\IntKind.i64.wrap ((m:Int)-(k:Int))=(q:Int)/\Hid (a<=q/\q<b):=by
 refine ⟨b-1,p-a,b-1-(p-a),?_,?_,?_,by unfold Hid;omega⟩
 · rw [IntWalk.i64_in _ (by omega)];omega
 · rw [IntWalk.i64_in _ (by omega)];omega
 rw [IntWalk.i64_in _ (by omega)];omega
theorem pdq_lim {l:Nat} (h0:l≠0) (h:l<=1000):∃ k:Nat,IntKind.i64.wrap ((l:Int)-1)=(k:Int)/\Hid (k<=1000):=by
 refine ⟨l-1,?_,by unfold Hid;omega⟩;rw [IntWalk.i64_in _ (by omega)];omega
theorem pdqA_step (n:Nat) (ih:PdqOk n):PdqOk (n+1):=by
 intro g c a b lim d w h hab hb hn h50 hz hlim hB hg;have IH:=hid ih;have Q0:=hid (QSt.start h hab hb hB);have HS:=hid (show b-a<n+1/\b-a<50/\d.size<=1000000/\b<=d.size from ⟨hn,h50,hz,hb⟩);have HLM:=hid hlim;have HG:=hid hg;clear ih h hab hb hn h50 hz hB hg hlim;go_enter Tryz.func156,Tryz.ntmps156;go_wp2_with fail
 go_loopg [1,2,3,10,11] (b-a) (fun kx s1 s2 s3 s10 s11 wr=>∃ (a' b' lm:Nat) (wb wp:Bool) (dk:Array ID),s1= .int .i64 (a':Int)/\s2= .int .i64 (b':Int)/\s3= .int .i64 (lm:Int)/\s10= .bool wb/\s11= .bool wp/\Hid (b'-a'<=kx)/\Hid (kx<=b-a)/\Hid (lm<=1000)/\Hid (QSt a b d a' b' dk g w wr))
 case atStart=>exact ⟨a,b,lim,true,true,d,rfl,rfl,rfl,rfl,rfl,zA _,zA _,HLM.out,Q0.out⟩
 obtain ⟨a',b',lm,wb,wp,dk,rfl,rfl,rfl,rfl,rfl,HK,HK2,HL,Q⟩:=hrel;obtain ⟨L,wL,HLL⟩:=pdq_len Q.out.ab (by have:=HS.out;have:=Q.out.bs;have:=Q.out.sz;omega);have HD:Hid (dk.size=d.size):=Q.out.sz;have HGR:Hid (g<wr.heap.size):=Q.out.row.lt;by_cases h12:L<=12
 · have h12z:(L:Int)<=12:=by omega
   have HC:=insA_any g c a' b' dk wr Q.out.row Q.out.ab Q.out.bs (by rw [HD.out];exact HS.out.2.2.1) HGR.out;rw [HD.out] at HC;have HC:=hid HC;clear h12;go_wp2_with (go_at_call 202;(with_reducible refine HC.out.mono ?_);refine halt_ ?_)
   first | rintro e w2 rfl d2 hp hs hr hg | rintro e w2 d2 rfl hp hs hr hg | rintro e w2 ⟨rfl,d2,hp,hs,hr,hg⟩
   have HX:=hid (Q.out.sort hp hs hr hg _ rfl);clear hp hs hr hg;go_wp2_with fail
   (try simp only [Exit.inBlock,Exit.then])
   refine bodyPost_ret (results_none rfl _ _ _) rfl ?_;exact HX.out
 have h12z:¬ (L:Int)<=12:=by omega
 have H12:Hid (12<b'-a'):=by have:=HLL.out;unfold Hid;omega
 have H50:Hid (b'-a'<50):=by have:=HS.out;have:=HK.out;have:=HK2.out;unfold Hid;omega
 clear h12;by_cases hl0:lm=0
 · subst hl0;have HC:=heapA_any g c a' b' dk wr Q.out.row (by have:=H12.out;omega) Q.out.bs (by rw [HD.out];exact HS.out.2.2.1) HGR.out;rw [HD.out] at HC;have HC:=hid HC;go_wp2_with (go_at_call 203;(with_reducible refine HC.out.mono ?_);refine halt_ ?_)
   first | rintro e w2 rfl d2 hp hs hr hg | rintro e w2 d2 rfl hp hs hr hg | rintro e w2 ⟨rfl,d2,hp,hs,hr,hg⟩
   have HX:=hid (Q.out.sort hp hs hr hg _ rfl);clear hp hs hr hg;go_wp2_with fail
   (try simp only [Exit.inBlock,Exit.then])
   refine bodyPost_ret (results_none rfl _ _ _) rfl ?_;exact HX.out
 have hl0z:((lm:Int)==0)=false:=by simp;omega
 obtain ⟨lm1,wlm,HLM1⟩:=pdq_lim hl0 HL.out;clear hl0;go_upto_if 39 with fail
 go_cut [3] from 21 to 147 (fun s3 wc=>∃ (l2:Nat) (d1:Array ID),s3= .int .i64 (l2:Int)/\Hid (l2<=1000)/\Hid (QSt a b d a' b' d1 g w wc))
 case first=>
  cases wb
  · have HC:=breakA_any g c a' b' dk wr Q.out.row H12.out Q.out.bs (by rw [HD.out];exact HS.out.2.2.1) HGR.out;rw [HD.out] at HC;have HC:=hid HC;go_wp2_with (go_at_call 204;(with_reducible refine HC.out.mono ?_);refine halt_ ?_)
    first | rintro e w2 rfl d2 hp hr hg | rintro e w2 d2 rfl hp hr hg | rintro e w2 ⟨rfl,d2,hp,hr,hg⟩
    have HX:=hid (Q.out.perm hp hr hg);clear hp hr hg;go_wp2_with fail
    go_meet;exact ⟨lm1,d2,rfl,HLM1,HX⟩
  go_wp2_with fail
  go_meet;exact ⟨lm,dk,rfl,HL,Q⟩
 obtain ⟨l2,d1,rfl,HL2,Q1⟩:=hcut;clear Q HD HGR HL HLM1 wlm;have HD:Hid (d1.size=d.size):=Q1.out.sz;have HC:=chooseA_any g c a' b' d1 wc Q1.out.row H12.out H50.out Q1.out.bs (by rw [HD.out];exact HS.out.2.2.1) Q1.out.row.lt;rw [HD.out] at HC;have HC:=hid HC;go_upto_if 56 with (go_at_call 205;(with_reducible refine HC.out.mono ?_);refine halt_ ?_)
 first | rintro e w2 p z rfl HP hbw | rintro e w2 ⟨p,z,rfl,HP,hbw⟩
 have Q2:=hid (Q1.out.on hbw);clear hbw HC Q1;go_upto_if 56 with fail
 go_cut [13,14] from 21 to 147 (fun s13 s14 wc=>∃ (p:Nat) (z:Int) (d2:Array ID),s13= .int .i64 (p:Int)/\s14= .int .i64 z/\Hid (a'<=p/\p<b')/\Hid (QSt a b d a' b' d2 g w wc))
 case first=>
  by_cases hz:z=2
  · subst hz;have HC:=revA_any g c a' b' d1 w2 Q2.out.row (by have:=H12.out;omega) Q2.out.bs (by rw [HD.out];exact HS.out.2.2.1) Q2.out.row.lt;rw [HD.out] at HC;have HC:=hid HC;obtain ⟨m,k,q,wm,wk,wq,HQ⟩:=pdq_rev HP.out.1 HP.out.2.1 (by have:=HS.out;have:=Q2.out.bs;have:=Q2.out.sz;omega);go_wp2_with (go_at_call 206;(with_reducible refine HC.out.mono ?_);refine halt_ ?_)
    first | rintro e w3 rfl d2 hp hr hg | rintro e w3 d2 rfl hp hr hg | rintro e w3 ⟨rfl,d2,hp,hr,hg⟩
    have HX:=hid (Q2.out.perm hp hr hg);clear hp hr hg;go_wp2_with fail
    go_meet;exact ⟨q,1,d2,rfl,rfl,HQ,HX⟩
  have hzz:(z==2)=false:=by simpa using hz
  clear hz;go_wp2_with fail
  go_meet;exact ⟨p,z,d1,rfl,rfl,⟨HP.out.1,HP.out.2.1⟩,Q2⟩
 clear HD Q2 HP;rename World=>wd;obtain ⟨p,z,d2,rfl,rfl,HP,Q3⟩:=hcut;have HD:Hid (d2.size=d.size):=Q3.out.sz;go_upto_region 15 with fail
 go_cut [75] from 21 to 147 (fun s75 wx=>∃ q:Bool,s75= .bool q/\wx=wd)
 case first=>
  cases wb<;>cases wp<;>(cases hz1:(z==1)<;>(go_wp2_with fail;go_meet;exact ⟨_,rfl,rfl⟩))
 obtain ⟨q,rfl,rfl⟩:=hcut;go_upto_if 75 with fail
 go_cut [] from 21 to 147 (fun wx=>Hid (QSt a b d a' b' d2 g w wx))
 case first=>
  cases q
  · go_wp2_with fail
    go_meet;exact Q3
  have HC:=partialA_any g c a' b' d2 _ Q3.out.row Q3.out.below (by have:=H12.out;omega) H50.out Q3.out.bs (by rw [HD.out];exact HS.out.2.2.1) Q3.out.row.lt;rw [HD.out] at HC;have HC:=hid HC;go_wp2_with (go_at_call 207;(with_reducible refine HC.out.mono ?_);refine halt_ ?_)
  first | rintro e w3 r rfl HR HW | rintro e w3 ⟨r,rfl,HR,HW⟩
  have Q4:=hid (Q3.out.same HW.out.1 HW.out.2);clear HC;cases r
  · go_wp2_with fail
    go_meet;exact Q4
  have HX:=hid (Q4.out.done (HR.out rfl) _ rfl);go_wp2_with fail
  (try simp only [Exit.inBlock,Exit.then])
  refine bodyPost_ret (results_none rfl _ _ _) rfl ?_;exact HX.out
 have Q4:Hid (QSt a b d a' b' d2 g w _):=hcut;clear hcut Q3;go_upto_region 17 with fail
 go_cut [97] from 21 to 147 (fun s97 wx=>∃ q:Bool,s97= .bool q/\Hid (q=true->0<a'/\ltA d2[a'-1]! d2[p]! =false)/\Hid (QSt a b d a' b' d2 g w wx))
 case first=>
  have HD2:Hid (a'<d2.size/\p<d2.size):=by have:=Q4.out.bs;have:=HP.out;have:=H12.out;unfold Hid;omega
  by_cases ha:a'=0
  · subst ha;go_wp2_with fail
    go_quiet (fail)
    go_wp2_with fail
    go_meet;exact ⟨false,rfl,fun h=>absurd h (by decide),Q4.out.on (bdrewN (Below.refl _ _) _)⟩
  obtain ⟨m,HM⟩:∃ m,Hid (a'=m+1):=⟨a'-1,by unfold Hid;omega⟩;clear ha;have hw:IntKind.i64.wrap ((a':Int)-1)=(m:Int):=by have:=HM.out;have:=HD2.out;have:=HS.out;have:=HD.out;rw [IntWalk.i64_in _ (by omega)];omega
  obtain ⟨x,HX⟩:∃ x,Hid (d2[m]! =x):=⟨_,rfl⟩;obtain ⟨y,HY⟩:∃ y,Hid (d2[p]! =y):=⟨_,rfl⟩;obtain ⟨a0,a1,_,_⟩:=Q4.out.row.at (j:=m) (by have:=HM.out;have:=HD2.out;omega) HX.out;obtain ⟨b0,b1,_,_⟩:=Q4.out.row.at (j:=p) HD2.out.2 HY.out;have k1:(m:Int)<(d.size:Int):=by have:=HM.out;have:=HD2.out;have:=HD.out;omega
  have k2:(p:Int)<(d.size:Int):=by have:=HD2.out;have:=HD.out;omega
  have hgw:=Q4.out.row.lt;have hpos:decide (a'>0)=true:=decide_eq_true (by have:=HM.out;omega);have hpos2:decide (0<a')=true:=hpos;obtain ⟨cc,hc⟩:∃ cc,ltA x y=cc:=⟨_,rfl⟩;have hcm:decide (cmpID x y<0)=cc:=hc;have HC:=hid hc;clear hc
  cases cc<;>(
   go_wp2_with fail
   refine wp_region_ext (by kernel_rfl) (by kernel_rfl) ?_;repeat (go_big_quiet_step ((go_at_call 104;exact ext_call (asc_any x y _))))
   refine wpQuiet_nil ?_;intro w3 hb1;have Q5:=hid (Q4.out.on hb1);clear a0 a1 b0 b1 hcm hb1;go_wp2_with fail
   go_meet;first | exact ⟨true,rfl,fun _=>⟨by have:=HM.out;omega,by rw [show a'-1=m from by have:=HM.out;omega,HX.out,HY.out];exact HC.out⟩,Q5⟩ | exact ⟨false,rfl,fun h=>absurd h (by decide),Q5⟩)
 obtain ⟨q,rfl,HQ,Q5⟩:=hcut;clear Q4;cases q
 · have HC:=partA_any g c a' b' p d2 _ Q5.out.row HP.out.1 HP.out.2 Q5.out.bs (by rw [HD.out];exact HS.out.2.2.1) Q5.out.row.lt;rw [HD.out] at HC;have HC:=hid HC;go_upto_if 125 with (go_at_call 209;(with_reducible refine HC.out.mono ?_);refine halt_ ?_)
   first | rintro e w6 mid al rfl d6 H1 H2 hr hg | rintro e w6 mid al d6 rfl H1 H2 hr hg | rintro e w6 ⟨mid,al,d6,rfl,H1,H2,hr,hg⟩
   obtain ⟨p1,p2,p3,p4,p5,p6,p7,p8,p9,p10⟩:=Q5.out.part (al:=al) HP.out.1 HP.out.2 H1.out H2.out hr hg;have HM:=hid (And.intro p1 p2);have HD6:=hid p3;have HB6:=hid p4;have HR6:=hid p5;have HBL:=hid (And.intro p7 p8);have HT1:=hid p9;have HT2:=hid p10;clear p1 p2 p3 p4 p5 p6 p7 p8 p9 p10 hr hg H1 H2 HC;have HSM:Hid (b'<=1000000/\b'-a'<=n):=by have:=HS.out;have:=HB6.out;have:=HD6.out;have:=HK.out;have:=HK2.out;unfold Hid;omega
   obtain ⟨wl,v1,HWL⟩:=pdq_len HM.out.1 (by have:=HSM.out;have:=HM.out;omega);obtain ⟨wt,v2,HWT⟩:=pdq_len (zD HM.out.2) HSM.out.1;obtain ⟨M1,hm1⟩:∃ M1:Nat,M1=mid+1:=⟨_,rfl⟩;have v3:IntKind.i64.wrap ((mid:Int)+1)=(M1:Int):=by have:=HSM.out;have:=HM.out;rw [IntWalk.i64_in _ (by omega)];omega
   have HM1:=hid hm1;clear hm1;by_cases h4:wl<wt
   · have hd:decide (wl<wt)=true:=decide_eq_true h4;clear h4;have HC:=IH.out g c a' mid l2 d6 w6 HR6.out HM.out.1 (by have:=HM.out;have:=HB6.out;omega) (by have:=HM.out;have:=HSM.out;omega) (by have:=HM.out;have:=H50.out;omega) (by rw [HD6.out];exact HS.out.2.2.1) HL2.out HBL.out.1 HR6.out.lt;rw [HD6.out] at HC;have HC:=hid HC;go_wp2_with (go_at_call 156;(with_reducible refine HC.out.mono ?_);refine halt_ ?_)
     first | rintro e w7 rfl d7 hp hs hr hg | rintro e w7 d7 rfl hp hs hr hg | rintro e w7 ⟨rfl,d7,hp,hs,hr,hg⟩
     have Q7:=hid (HT1.out d7 w7 hp hs hr hg);clear hp hs hr hg HC;go_wp2_with fail
     go_roundg (b'-(mid+1))
     case measure=>have:=HM.out;have:=HK.out;omega
     exact ⟨mid+1,b',l2,_,al,d7,by rw [<- HM1.out],rfl,rfl,rfl,rfl,zA _,by have:=HM.out;have:=HK.out;have:=HK2.out;unfold Hid;omega,HL2,Q7⟩
   have hd:decide (wl<wt)=false:=decide_eq_false h4;clear h4;have HC:=IH.out g c M1 b' l2 d6 w6 HR6.out (by have:=HM.out;have:=HM1.out;omega) HB6.out (by have:=HM.out;have:=HSM.out;have:=HM1.out;omega) (by have:=HM.out;have:=H50.out;have:=HM1.out;omega) (by rw [HD6.out];exact HS.out.2.2.1) HL2.out (by rw [HM1.out];exact HBL.out.2) HR6.out.lt;rw [HD6.out] at HC;have HC:=hid HC;go_wp2_with (go_at_call 156;(with_reducible refine HC.out.mono ?_);refine halt_ ?_)
   first | rintro e w7 rfl d7 hp hs hr hg | rintro e w7 d7 rfl hp hs hr hg | rintro e w7 ⟨rfl,d7,hp,hs,hr,hg⟩
   have Q7:=hid (HT2.out d7 w7 (by rw [<- HM1.out];exact hp) (by rw [<- HM1.out];exact hs) hr hg);clear hp hs hr hg HC;go_wp2_with fail
   go_roundg (mid-a')
   case measure=>have:=HM.out;have:=HK.out;omega
   exact ⟨a',mid,l2,_,al,d7,rfl,rfl,rfl,rfl,rfl,zA _,by have:=HM.out;have:=HK.out;have:=HK2.out;unfold Hid;omega,HL2,Q7⟩
 have HQT:=hid (HQ.out rfl);have HC:=partEqA_any g c a' b' p d2 _ Q5.out.row HP.out.1 HP.out.2 Q5.out.bs (by rw [HD.out];exact HS.out.2.2.1) Q5.out.row.lt;rw [HD.out] at HC;have HC:=hid HC;go_wp2_with (go_at_call 208;(with_reducible refine HC.out.mono ?_);refine halt_ ?_)
 first | rintro e w6 mid rfl d6 HX hr hg | rintro e w6 mid d6 rfl HX hr hg | rintro e w6 ⟨mid,d6,rfl,HX,hr,hg⟩
 obtain ⟨h1,h2,h3⟩:=Q5.out.equal HQT.out.1 HP.out.1 HP.out.2 HQT.out.2 HX.out hr hg;have Q6:=hid h3;have HM:=hid (And.intro h1 h2);clear hr hg h1 h2 h3 HC HX;go_wp2_with fail
 go_roundg (b'-mid)
 case measure=>have:=HM.out;have:=HK.out;omega
 exact ⟨mid,b',l2,wb,wp,d6,rfl,rfl,rfl,rfl,rfl,zA _,by have:=HM.out;have:=HK.out;have:=HK2.out;unfold Hid;omega,HL2,Q6⟩
end
section
open Go.RowKit Go.Shelf Go.Sort
theorem pdqA_all:∀ n,PdqOk n
 | 0=>fun _ _ _ _ _ _ _ _ _ _ hn=>absurd hn (Nat.not_lt_zero _)
 | n+1=>pdqA_step n (pdqA_all n)
theorem bitLen_50 {n:Nat} (h:n<50):∃ k:Nat,k<=1000/\((Lib.bitLen n:Nat):Int)=(k:Int):=by
 have:(List.range 50).all (fun n=>decide (Lib.bitLen n<=1000))=true:=by decide
 rw [List.all_eq_true] at this;exact ⟨_,of_decide_eq_true (this n (List.mem_range.2 h)),rfl⟩
theorem bits_len50 (n:Nat) (w:World) (hn:n<50):Calls Tryz.prog 151 #[.int .u64 (n:Int)] w fun e w'=>(∃ k:Nat,k<=1000/\e= .returned (.int .i64 (k:Int)))/\w=w':=
 (Tryz.bits_Len n w (by omega) (by omega)).mono fun _ _ h=>by
   obtain ⟨k,h1,h2⟩:=bitLen_50 hn;refine ⟨⟨k,h1,?_⟩,h.2.symm⟩;rw [h.1,Int.toNat_natCast];exact congrArg (fun z=>Ending.returned (.int .i64 z)) h2
abbrev SortIP (g:Nat) (xs:List ID) (w:World) (e:Ending) (w':World):Prop:=
 e= .returned (.tuple #[])/\(∃ ys,ys.Perm xs/\SortedI ys/\RowI w' g ys)/\w.grownBy w' (some g)
theorem sortP_I {g:Nat} {xs:List ID} {w w':World} {e:Ending} (h:SortP 0 xs.toArray.size xs.toArray g w e w'):SortIP g xs w e w':=by
 obtain ⟨he,d',⟨p1,_,p3⟩,hs,hr,hg⟩:=h;refine ⟨he,⟨d'.toList,?_,?_,hr⟩,hg⟩
 · rw [<- p1] at p3;rw [Array.extract_size,p1,Array.extract_size] at p3;exact p3
 unfold SortedI;rw [List.pairwise_iff_getElem];intro i j hi hj hij;have hi':i<d'.size:=by simpa using hi
 have hj':j<d'.size:=by simpa using hj
 have h1:=hs i j (Nat.zero_le _) hij (by omega);rw [getElem!_pos d' i hi',getElem!_pos d' j hj'] at h1;rw [Array.getElem_toList,Array.getElem_toList, <- lt_cmpID];exact h1
theorem sortI49_any (g c:Nat) (xs:List ID) (w:World) (h:RowI w g xs) (hn:xs.length<50) (hg:g<w.heap.size):
 Calls Tryz.prog 103 #[.slice (some ⟨g,0,none⟩) xs.length c,vAsc] w (SortIP g xs w):=by
 have HC:Hid (∀ k:Nat,k<=1000->Calls Tryz.prog 156 #[.slice (some ⟨g,0,none⟩) xs.length c,.int .i64 0,.int .i64 xs.length,.int .i64 k,vAsc] w (SortIP g xs w)):=fun k hk=>
  (pdqA_all 50 g c 0 xs.toArray.size k xs.toArray w h (Nat.zero_le _) (zA _) (by simpa using hn) (by simpa using hn) (by simp;omega) hk (.inl rfl) hg).mono fun _ _ h=>sortP_I h
 have HB:=hid (bits_len50 xs.length w hn);clear h hg;go_enter Tryz.func103,Tryz.ntmps103;go_wp2_with (go_at_call 151;(with_reducible refine HB.out.mono ?_);refine halt_ ?_)
 rintro e w1 ⟨⟨k,hk,rfl⟩,rfl⟩;have HK:=hid (HC.out k hk);clear hk HC HB;go_wp2_with (go_at_call 156;(with_reducible refine HK.out.mono ?_);refine halt_ ?_)
 rintro e w2 ⟨rfl,hy,hgr⟩;have HY:=hid hy;have HG:=hid hgr;clear hy hgr;go_wp2_with fail
 go_end0;exact ⟨rfl,HY.out,HG.out⟩
end
section
open Go.RowKit Go.MapKept Go.ChangeMaps Go.Shelf
theorem own_iter {w:World} {base:Nat} {e:TypeId} {size n:Nat} {v:Value} {xs:List Value} (h:w.ownsRow base e size v n xs) {r:Nat} {m:Option Nat} {s:Nat} {seen:Array Nat} {c:Nat} (hr:w.heap[r]? =some (.mapIter m s seen c)):some r≠v.ownBlock:=by
 rcases h.2 with ⟨rfl,_⟩ | ⟨g',cap,cur,rfl,_,hh,_⟩
 · simp [Value.ownBlock]
 intro he;have:r=g':=by simpa [Value.ownBlock] using he
 subst this;rw [hr] at hh;cases hh
theorem RIs.own_ne {α β:Type} {ok:α->Prop} {kv:α->Value} {vv:β->Value} {w:World} {b r:Nat} {L done:List (α×β)} {cnt:Nat} (h:RIs ok kv vv w b r L done cnt) {base:Nat} {e:TypeId} {size n:Nat} {v:Value} {xs:List Value} (ho:w.ownsRow base e size v n xs):some r≠v.ownBlock:=by
 obtain ⟨es,clock,since,seen,c0,is,_,_,_,_,hr,_⟩:=h;exact own_iter ho hr
theorem MapIs.own_ne {α β:Type} {ok:α->Prop} {kv:α->Value} {vv:β->Value} {w:World} {b:Nat} {L:List (α×β)} (h:MapIs ok kv vv w b L) {base:Nat} {e:TypeId} {size n:Nat} {v:Value} {xs:List Value} (ho:w.ownsRow base e size v n xs):some b≠v.ownBlock:=by
 obtain ⟨es,clock,h1,_⟩:=h;rcases ho.2 with ⟨rfl,_⟩ | ⟨g',cap,cur,rfl,_,hh,_⟩
 · simp [Value.ownBlock]
 intro he;have:b=g':=by simpa [Value.ownBlock] using he
 subst this;rw [h1] at hh;cases hh
theorem nodup_le {l:List Nat} {n:Nat} (hn:l.Nodup) (h:∀ i∈l,i<n):l.length<=n:=by
 have h2:(l++(List.range n).filter (fun i=>decide (i ∉ l))).Nodup:=by
  refine List.nodup_append.2 ⟨hn,List.nodup_range.filter _,fun a ha b hb e=>?_⟩;subst e;simp at hb;exact hb.2 ha
 have hp:=(List.perm_ext_iff_of_nodup h2 (List.nodup_range (n:=n))).2 (fun a=>by
  simp only [List.mem_append,List.mem_filter,List.mem_range,decide_eq_true_eq];constructor
  · rintro (h1 | h1)
    · exact h a h1
    exact h1.1
  intro h1;by_cases ha:a∈l
  · exact .inl ha
  exact .inr ⟨h1,ha⟩)
 have:=hp.length_eq;rw [List.length_append,List.length_range] at this;omega
theorem RIs.len {α β:Type} {ok:α->Prop} {kv:α->Value} {vv:β->Value} {w:World} {b r:Nat} {L done:List (α×β)} {cnt:Nat} (h:RIs ok kv vv w b r L done cnt):done.length<=L.length:=by
 obtain ⟨es,clock,since,seen,c0,is,_,_,_,_,_,_,_,_,_,hnd,_,hd⟩:=h
 have h1:is.length=done.length:=by
  have:=congrArg List.length hd;simpa using this
 have h2:∀ i∈is,i∈List.range L.length:=by
  intro i hi;have:L[i]? ∈is.map (fun i=>L[i]?):=List.mem_map.2 ⟨i,hi,rfl⟩;rw [hd] at this;obtain ⟨c,_,hc⟩:=List.mem_map.1 this;exact List.mem_range.2 (List.getElem?_eq_some_iff.1 hc.symm).1
 have:=nodup_le hnd (fun i hi=>List.mem_range.1 (h2 i hi));omega
theorem own_onB {w w':World} {base:Nat} {e:TypeId} {size n:Nat} {v:Value} {xs:List Value} (h:w.ownsRow base e size v n xs) (hb:Below w.heap.size w w'):w'.ownsRow base e size v n xs:=
 h.kept (row:=none) (only_of_below hb none) (by
  cases hv:v.ownBlock with
  | none=>exact .inl rfl
  | some k=>exact .inr (by simp))
theorem wpList_next_ch (w:World) {ops:Array Oper} {rest:List Oper} {o:Oper} {a:Act} {Q:Exit->Act->World->Prop} (hg:o.guard=none) (it:Operand) (hop:o.op=Op.next it false) (b r:Nat) (L done:Chs) (cnt:Nat)
 (hit:a.eval it= .pointer (some ⟨r,0,none⟩)) (h:RIs okID vID vPl w b r L done cnt)
 (hDone:done.Perm L->wpList Tryz.prog ops Q rest (a.put o.dst (.tuple #[.bool false])) w)
 (hMore:∀ (i:ID) (pl:Pl) (w':World) (cnt':Nat),(i,pl)∈L->RIs okID vID vPl w' b r L (done++[(i,pl)]) cnt'->cnt'<cnt->w.grownBy w' (some r)->Hid (w'.heap.size=w.heap.size)->
   (Instr.entry (.pointer (some ⟨r,0,none⟩))).run Tryz.prog w'= .ok (.tuple #[.agg #[.int .u64 i.1,.int .i64 i.2],.agg #[.slice pl.A pl.len pl.cap,.int .i64 pl.f,.int .i64 pl.o]]) w'->wpList Tryz.prog ops Q rest (a.put o.dst (.tuple #[.bool true,.agg #[.int .u64 i.1,.int .i64 i.2],.agg #[.slice pl.A pl.len pl.cap,.int .i64 pl.f,.int .i64 pl.o]])) w'):
 wpList Tryz.prog ops Q (o::rest) a w:=
 wpList_next_is w hg it hop b r L done cnt hit h hDone (fun c w' cnt' h1 h2 h3 h4 h5 h6=>hMore c.1 c.2 w' cnt' h1 h2 h3 h4 h5 h6)
theorem own_rowI {w:World} {base g n cap:Nat} {xs:List ID} (h:w.ownsRow base 31 2 (.slice (some ⟨g,0,none⟩) n cap) n (xs.flatMap encID)):n=xs.length/\RowI w g xs/\g<w.heap.size/\base<=g:=by
 have hl:=h.1;rw [flat_len encID_len] at hl;have hn:n=xs.length:=by omega
 have hlt:=h.lt g rfl;refine ⟨hn,?_,hlt.2,hlt.1⟩;rcases h.2 with ⟨hv,_⟩ | ⟨g',cap',cur,hv,_,hh,hc1,hcs,hcs2,htk⟩
 · cases hv
 injection hv with h1 h2 h3;injection h1 with h1;injection h1 with h1;subst h1;refine ⟨cur,hh,?_,fun j hj=>?_⟩
 · show xs.length*2<=cur.size;have:=congrArg List.length htk;rw [List.length_take,flat_len encID_len] at this;simp at this;omega
 have e0:=flat_at encID_len id0 xs j 0 hj (by omega);have e1:=flat_at encID_len id0 xs j 1 hj (by omega);rw [<- htk,List.getElem?_take_of_lt (by omega)] at e0 e1;exact ⟨by simpa [encID] using e0,by simpa [encID] using e1⟩
def RI (w:World) (H:Nat) (A:Option Addr) (ys:List ID):Prop:=(A=none->ys=[])/\∀ ad,A=some ad->∃ g,ad=⟨g,0,none⟩/\RowI w g ys/\H<=g/\g<w.heap.size
def IdsPost (q:Pl->Bool) (C:Chs) (w:World) (e:Ending) (w':World):Prop:=
 ∃ A c ys,e= .returned (.slice A ys.length c)/\ys.Perm ((C.filter (fun c=>q c.2)).map (·.1))/\SortedI ys/\RI w' w.heap.size A ys/\Below w.heap.size w w'
def IdsPostC (q:Pl->Bool) (C:Chs) (w:World) (e:Ending) (w':World):Prop:=
 ∃ A c ys,e= .returned (.slice A ys.length c)/\ys.Perm ((C.filter (fun c=>q c.2)).map (·.1))/\SortedI ys/\RI w' w.heap.size A ys/\Below w.heap.size w w'/\ys.length<=c
theorem IdsPostC.less {q:Pl->Bool} {C:Chs} {w:World} {e:Ending} {w':World} (h:IdsPostC q C w e w'):IdsPost q C w e w':=by
 obtain ⟨A,c,ys,h1,h2,h3,h4,h5,_⟩:=h;exact ⟨A,c,ys,h1,h2,h3,h4,h5⟩
theorem filter_snoc (q:Pl->Bool) (D:Chs) (c:ID×Pl):((D++[c]).filter (fun c=>q c.2)).map (·.1)=(D.filter (fun c=>q c.2)).map (·.1)++if q c.2 then [c.1] else []:=by
 rw [List.filter_append,List.map_append];congr 1
 by_cases h:q c.2<;>simp [h]
theorem two_new (W:World) (x y:Value) (t:TypeId) (H:Nat) (hH:W.heap.size=H):∀ j u,[x,y][j]? =some u->(W.alloc (.cells #[x,y] t)).cell? ((⟨H,0,none⟩:Addr).add j)=some u:=by
 intro j u hu;rw [lit_add,Nat.zero_add,new_cell W t #[x,y] H hH j];simpa using hu
theorem ids_anyC (F:Nat) (q:Pl->Bool) (ps cm:Nat) (C:Chs) (w:World) (hc:w.cell? ⟨ps,2,none⟩=some (.map (some cm))) (hm:MapIs okID vID vPl w cm C) (hn:((C.filter (fun c=>q c.2)).map (·.1)).length<=49) (hC:C.length<=1000000)
 (hF:∀ args W,(callFunc F args).run Tryz.prog W= .ok (.enter F args) W)
 (hq:∀ pl W,Calls Tryz.prog F #[.agg #[.slice pl.A pl.len pl.cap,.int .i64 pl.f,.int .i64 pl.o]] W (fun e w'=>e= .returned (.bool (q pl))/\Below W.heap.size W w')):
 Calls Tryz.prog 90 #[vPtr ps,.func (.func F) #[] #[]] w (IdsPostC q C w):=by
 obtain ⟨i0,hi,hz0,hz1,hz2⟩:=info_parts info31;have Hm:=hid hm;have HN:=hid hn;have HQ:=hid hq;have hbw:=hm.lt;clear hm hq hn;go_enter Tryz.func90,Tryz.ntmps90;go_wp2_with (at_range;refine wpList_range_is _ rfl _ 128 rfl 31 138 Tryz.underlying128 cm C rfl Hm.out ?_;intro w0 hrg0 hg0 hs0)
 have Hrg0:=hid hrg0;have Hb0:Hid (Below w.heap.size w w0):=(Below.refl w.heap.size w).grown hg0 (zA _) (by simp);clear hrg0 hg0 hs0;go_frame
 go_loopw [5] (fun v5 wr=>∃ (done:Chs) (n:Nat) (A:Option Addr) (cap cnt:Nat),v5= .slice A n cap/\RIs okID vID vPl wr cm w.heap.size C done cnt/\wr.ownsRow w.heap.size 31 2 (.slice A n cap) n (((done.filter (fun c=>q c.2)).map (·.1)).flatMap encID)/\Below w.heap.size w wr) (fun _ wr=>wr.rangeLeft cm w.heap.size)
 case atStart=>exact ⟨[],0,none,0,_,rfl,Hrg0.out,World.ownsRow_nil _ _ _ _,Hb0.out⟩
 obtain ⟨done,n,A,cap,cnt,rfl,hrg,hown,hb⟩:=hrel;have hsz:=hb.size;have Hleft:=hid hrg.left_eq;have Hrg:=hid hrg;have Hown:=hid hown;have Hb:=hid hb;clear hrg hown hb
 go_wp2_with (first
  | (at_next;refine wpList_next_ch _ rfl _ rfl cm w.heap.size C done cnt rfl Hrg.out (fun hp=>?_) (fun i pl w1 cnt1 hc1 hrg1 hlt1 hg1 hs1 hen=>?_))
  | (at_builtin;refine halt_ ?_)
  | (go_at_call 103;refine halt_ ?_))
 · have hlen:n=((done.filter (fun c=>q c.2)).map (·.1)).length:=by
    have:=Hown.out.1;rw [flat_len encID_len] at this;omega
   have hpm:((done.filter (fun c=>q c.2)).map (·.1)).Perm ((C.filter (fun c=>q c.2)).map (·.1)):=(hp.filter _).map _;have hl12:((done.filter (fun c=>q c.2)).map (·.1)).length<=49:=by rw [hpm.length_eq];exact HN.out
   obtain ⟨zs,HZ⟩:∃ zs,Hid ((done.filter (fun c=>q c.2)).map (·.1)=zs):=⟨_,rfl⟩;rw [HZ.out] at hlen hpm hl12 Hown;have Hpm:=hid hpm;clear hp hpm;subst hlen;cases A with
   | none=>
    have hz0:zs=[]:=by
     rcases Hown.out.2 with ⟨hv,hx⟩ | ⟨g,cap',cur,hv,_⟩
     · injection hv with _ h2 _;exact List.eq_nil_of_length_eq_zero h2
     cases hv
    subst hz0
    have hcap:cap=0:=by
     rcases Hown.out.2 with ⟨hv,hx⟩ | ⟨g,cap',cur,hv,_⟩
     · injection hv
     cases hv
    subst hcap;refine (sortN_any wr).mono ?_;rintro e w2 ⟨rfl,rfl⟩;go_wp2_with fail
    go_ret;exact ⟨none,0,[],rfl,Hpm.out,List.Pairwise.nil,⟨fun _=>rfl,(fun ad e=>by cases e)⟩,Hb.out,zA _⟩
   | some ad=>
    obtain ⟨g,rfl⟩:∃ g,ad=⟨g,0,none⟩:=by
     rcases Hown.out.2 with ⟨hv,_⟩ | ⟨g,cap',cur,hv,_⟩
     · cases hv
     injection hv with h1 _ _;injection h1 with h1;exact ⟨g,h1⟩
    obtain ⟨_,hrow,hg2,hbg⟩:=own_rowI Hown.out
    have hlc:zs.length<=cap:=by
     rcases Hown.out.2 with ⟨hv,_⟩ | ⟨g',cap',cur,hv,_,_,hc1,_⟩
     · cases hv
     injection hv with _ _ h3;omega
    refine (sortI49_any g cap zs wr hrow (by omega) hg2).mono ?_;rintro e w2 ⟨rfl,⟨ys,hy1,hy2,hy3⟩,hgr⟩;have Y1:=hid hy1;have Y2:=hid hy2;have Y3:=hid hy3;have HG:=hid hgr;have hlz:zs.length=ys.length:=hy1.length_eq.symm;clear hy1 hy2 hy3 hgr hrow;rw [hlz] at hlc |-; go_wp2_with fail
    go_ret;refine ⟨some ⟨g,0,none⟩,cap,ys,rfl,Y1.out.trans Hpm.out,Y2.out,⟨(fun e=>by cases e),fun ad e=>?_⟩,Hb.out.grown HG.out Hb.out.size (fun k hk=>by injection hk with hk;omega),hlc⟩;injection e with e;subst e;exact ⟨g,rfl,Y3.out,hbg,zB hg2 HG.out.size⟩
 have Hc1:=hid hc1;have K1:Hid (w1.ownsRow w.heap.size 31 2 (.slice A n cap) n (((done.filter (fun c=>q c.2)).map (·.1)).flatMap encID)):=Hown.out.kept hg1 (.inr (fun e=>Hrg.out.own_ne Hown.out e.symm));have Hb1:Hid (Below w.heap.size w w1):=Hb.out.grown hg1 hsz (fun k hk=>by injection hk with hk;omega);have hsz1:=Hb1.out.size;have HF:=hid (filter_snoc q done (i,pl));have Hrg1:=hid hrg1;have Hlt1:=hid hlt1
 have hdl:n<=1000000:=by
  have h1:=hrg1.len;have h2:=K1.out.1;rw [flat_len encID_len,List.length_map] at h2;have h3:=List.length_filter_le (fun c:ID×Pl=>q c.2) done;simp at h1;omega
 clear hc1 hrg1 hlt1 hg1 hen;have IB:Hid (IsB ((w1.alloc (.cells #[.int .u64 i.1,.int .i64 i.2] 31)).alloc (.cells #[.slice pl.A pl.len pl.cap,.int .i64 pl.f,.int .i64 pl.o] 138)) w1.heap.size 31 #[.int .u64 i.1,.int .i64 i.2]):=(IsB.new _ _ _).alloc _;refine (HQ.out pl _).mono ?_;rintro e w2 ⟨rfl,hb2⟩;have K2:Hid (w2.ownsRow w.heap.size 31 2 (.slice A n cap) n (((done.filter (fun c=>q c.2)).map (·.1)).flatMap encID)):=own_onB ((K1.out.alloc _).alloc _) hb2;have Hb2:Hid (Below w.heap.size w w2):=((Hb1.out.alloc hsz1 _).alloc (by simp;omega) _).trans (hb2.mono (by simp;omega));have Hrg2:Hid (RIs okID vID vPl w2 cm w.heap.size C (done++[(i,pl)]) cnt1):=((Hrg1.out.alloc _).alloc _).on hb2;have IB2:=hid (IB.out.on hb2);have k0:w2.cell? ⟨w1.heap.size,0,none⟩=some (.int .u64 i.1):=IB2.out.cell 0;have k1:w2.cell? ⟨w1.heap.size,1,none⟩=some (.int .i64 i.2):=IB2.out.cell 1;have hs2:=Hb2.out.size;clear hb2;cases hq:q pl with
 | false=>
  have HQf:=hid hq;clear hq;go_wp2_with fail
  go_roundw
  case rel=>
   refine ⟨done++[(i,pl)],n,A,cap,cnt1,rfl,Hrg2.out,?_,Hb2.out⟩;rw [HF.out];simp only [HQf.out];simpa using K2.out
  rw [Hrg2.out.left_eq,Hleft.out];exact Hlt1.out
 | true=>
  have HQt:=hid hq;clear hq;go_wp2_with (at_builtin;refine halt_ ?_)
  refine wpList_append_lies _ rfl _ _ _ rfl w.heap.size 31 i0 _ 2 16 Tryz.underlying38 hi hz0 hz1 hz2 rfl (by decide) _ n _ rfl (K2.out.alloc _) ⟨w2.heap.size,0,none⟩ 1 1 [.int .u64 i.1,.int .i64 i.2] rfl rfl (two_new _ _ _ _ _ rfl) (encID_one i) (by omega) (by unfold maxLen;omega) (by omega) (by simp;omega) (w2.heap.size+1) (by simp) ?_;intro g2 cap2 w4 hown4 hgrow hat hltg;have Hown4:=hid hown4;have Hrg4:Hid (RIs okID vID vPl w4 cm w.heap.size C (done++[(i,pl)]) cnt1):=(Hrg2.out.alloc _).kept hgrow (Hrg2.out.map.own_ne K2.out) (Hrg2.out.own_ne K2.out);have Hb4:Hid (Below w.heap.size w w4):=(Hb2.out.alloc hs2 _).grown hgrow (by simp;omega) (fun k hk=>(K2.out.lt k hk).1);clear hown4 hgrow hat k0 k1;go_wp2_with fail
  go_roundw
  case rel=>
   refine ⟨done++[(i,pl)],n+1,some ⟨g2,0,none⟩,cap2,cnt1,rfl,Hrg4.out,?_,Hb4.out⟩;rw [HF.out];simp only [HQt.out,if_true];rw [List.flatMap_append];exact Hown4.out
  rw [Hrg4.out.left_eq,Hleft.out];exact Hlt1.out
theorem ids_any (F:Nat) (q:Pl->Bool) (ps cm:Nat) (C:Chs) (w:World) (hc:w.cell? ⟨ps,2,none⟩=some (.map (some cm))) (hm:MapIs okID vID vPl w cm C) (hn:((C.filter (fun c=>q c.2)).map (·.1)).length<=49) (hC:C.length<=1000000)
 (hF:∀ args W,(callFunc F args).run Tryz.prog W= .ok (.enter F args) W)
 (hq:∀ pl W,Calls Tryz.prog F #[.agg #[.slice pl.A pl.len pl.cap,.int .i64 pl.f,.int .i64 pl.o]] W (fun e w'=>e= .returned (.bool (q pl))/\Below W.heap.size W w')):
 Calls Tryz.prog 90 #[vPtr ps,.func (.func F) #[] #[]] w (IdsPost q C w):=(ids_anyC F q ps cm C w hc hm hn hC hF hq).mono fun _ _ h=>h.less
end
end Go.Proofs.YteabgcollokgjaaGreatDoor
