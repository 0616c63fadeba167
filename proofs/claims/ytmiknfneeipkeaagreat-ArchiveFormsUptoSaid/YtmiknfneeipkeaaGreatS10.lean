/- Contracts of the walk, part 10. -/
import Derived.Shelf.SlSortCmp.NoneTotal
import Derived.Shelf.SlicesE.Clone
import Derived.Ground.SlsfProg
import Derived.Ground.SlgnProg
import Derived.Ground.NamesProg
import Derived.Shelf.SlGeneric
import Derived.Test.YtmiknfneeipkeaaGreatProg
import Derived.Test.YtmiknfneeipkeaaGreatS09
import Derived.Test.YtmiknfneeipkeaaGreatS04
open Go.Lib (hid)
namespace Go.Proofs.YtmiknfneeipkeaaGreat
open Go.RowKit Go.MapKept Go.ChangeMaps Go.Shelf Go.Sort
attribute [local go_sem] wext_cell
def wholeP (l:List ID):ID:=l.foldl joinP (0,0)
theorem wholeP_snoc (l:List ID) (i:ID):wholeP (l++[i])=joinP (wholeP l) i:=by simp [wholeP]
theorem chunkB_valid {i:ID} (h:chunkB i=true):validB i=true:=by
 simp only [chunkB,Bool.and_eq_true] at h;exact h.1.1
theorem wholeP_ok:∀ (k:Nat) (l:List ID),l.length=k->l.all chunkB=true->sumZ l<=1048576->validB (wholeP l)=true/\(wholeP l).2=sumZ l/\0<=(wholeP l).1
 | 0,l,hk,_,_=>by
  obtain rfl:=List.eq_nil_of_length_eq_zero hk;exact ⟨by decide,rfl,by decide⟩
 | k+1,l,hk,ha,hs=>by
  rcases List.eq_nil_or_concat l with rfl | ⟨l,i,rfl⟩
  · simp at hk
  rw [List.concat_eq_append] at *; rw [List.all_append,Bool.and_eq_true] at ha;have hi:chunkB i=true:=by simpa using ha.2
  have hib:=chunkB_sound hi;rw [sumZ_snoc] at hs |-; have hp:=sum_take_bd (l:=l) (k:=l.length) (by rw [List.take_length];exact ha.1);rw [List.take_length] at hp;obtain ⟨h1,h2,h3⟩:=wholeP_ok k l (by simpa using hk) ha.1 (by omega);rw [wholeP_snoc];refine ⟨?_,?_,?_⟩
  · have e:joinP (wholeP l) i=((((( (wholeP l).1.toNat*powP i.2.toNat+i.1.toNat) % pP:Nat)):Int),(wholeP l).2+i.2):=rfl;have hm:((wholeP l).1.toNat*powP i.2.toNat+i.1.toNat) % pP<pP:=Nat.mod_lt _ pP_pos;rw [e];unfold pP at hm |-; simp only [validB,Bool.and_eq_true,Bool.or_eq_true,decide_eq_true_eq,beq_iff_eq];omega
  · show (wholeP l).2+i.2=_;rw [h2]
  show (0:Int)<=(((_:Nat)):Int);omega
theorem manE_zero {m:Man} (h:manE m=0):m.ids.all chunkB=true/\m.size=sumZ m.ids/\m.size<=1048576:=by
 have h1:=manE_all h;have h2:=manE_end (manE_len h) h1;rw [h] at h2;by_cases hc:m.size=sumZ m.ids/\m.size<=1048576
 · exact ⟨h1,hc⟩
 rw [if_neg hc] at h2;omega
theorem whole_take {m:Man} (h:manE m=0) {k:Nat} (hk:k<m.ids.length):validB (wholeP (m.ids.take k))=true/\(wholeP (m.ids.take k)).2+(m.ids.getD k (0,0)).2<=1048576/\0<=(wholeP (m.ids.take k)).1/\validB (m.ids.getD k (0,0))=true:=by
 obtain ⟨h1,h2,h3⟩:=manE_zero h;have e:m.ids=m.ids.take (k+1)++m.ids.drop (k+1):=(List.take_append_drop _ _).symm
 have hs:sumZ m.ids=sumZ (m.ids.take (k+1))+sumZ (m.ids.drop (k+1)):=by
  conv=>lhs;rw [e]
  show ((m.ids.take (k+1)++m.ids.drop (k+1)).map _).sum=_;rw [List.map_append,List.sum_append];rfl
 have ha:(m.ids.take (k+1)).all chunkB=true/\(m.ids.drop (k+1)).all chunkB=true:=by
  rw [e,List.all_append,Bool.and_eq_true] at h1;exact h1
 have hd:=sum_take_bd (l:=m.ids.drop (k+1)) (k:=(m.ids.drop (k+1)).length) (by rw [List.take_length];exact ha.2);rw [List.take_length] at hd;have ht:=take_snoc m.ids (0,0) k hk;rw [ht] at hs ha;rw [sumZ_snoc] at hs;rw [List.all_append,Bool.and_eq_true] at ha;have hi:chunkB (m.ids.getD k (0,0))=true:=by simpa using ha.1.2
 have hib:=chunkB_sound hi;obtain ⟨w1,w2,w3⟩:=wholeP_ok _ (m.ids.take k) rfl ha.1.1 (by omega);exact ⟨w1,by rw [w2];omega,w3,chunkB_valid hi⟩
theorem okID_pos {i1 i2:Int} (h:okID (i1,i2)):0<=i1:=by
 have:=h.1;rw [Lit.wf,Bool.and_eq_true,decide_eq_true_eq] at this;exact this.1
abbrev WholeE (m:Man) (w:World) (e:Ending) (w':World):Prop:=
 e= .returned (.tuple #[.agg #[.int .u64 (if manE m=0 then wholeP m.ids else (0,0)).1,.int .i64 (if manE m=0 then wholeP m.ids else (0,0)).2],.int .i64 (manE m)])/\Below w.heap.size w w'
set_option maxHeartbeats 4000000 in
theorem Whole_any (x:Nat) (m:Man) (A:Option Addr) (c:Nat) (w:World) (hr:RdID w x A m.ids) (hn:m.ids.length<=9223372036854775807) (hok:∀ i∈m.ids,okID i):
 Calls Tryz.prog 31 #[.agg #[.int .i64 m.size,.slice A m.ids.length c]] w (WholeE m w):=by
 have Hr:=hid hr;have Hok:=hid hok;clear hr hok;have S0:=hid (((SW.refl (Sep.nil w (Nat.le_refl _))).newCell 33 #[.int .i64 m.size,.slice A m.ids.length c]).newCellAt 36 #[.int .u64 0,.int .i64 0] (H:=w.heap.size+1) (by simp));have HC:=hid (manCheck_any x m A c _ (Hr.out.on S0.out.2) hn);go_enter Tryz.func31,Tryz.ntmps31;go_wp2_with (go_at_call 74;(with_reducible refine HC.out.mono ?_);refine halt_ ?_)
 rintro e w1 ⟨rfl,hb1⟩;have S1:=hid (S0.out.on hb1);clear hb1 S0 HC;have f0:=fun o=>(S1.out.cell 0 rfl).frozen o;have e0:=(S1.out.cell 0 rfl).cell 0;have e1:=(S1.out.cell 0 rfl).cell 1;by_cases hE:manE m=0
 · have HE:=hid hE;have HW:Hid ((if manE m=0 then wholeP m.ids else (0,0))=wholeP m.ids):=if_pos hE;rw [hE];clear hE;have c1:=(S1.out.cell 1 rfl).cell 1;go_upto_region 5 with fail
   obtain ⟨g5,HG⟩:∃ x,Hid (w1.heap.size=x):=⟨_,rfl⟩;have S2:=hid (S1.out.newCell 36 #[.int .u64 0,.int .i64 0]);rw [HG.out] at S2 |-; clear HG S1 f0 e0 e1 c1;have c1:=(S2.out.cell 2 rfl).cell 1;obtain ⟨w2,HW2⟩:∃ W,Hid (w1.alloc (.cells #[.int .u64 0,.int .i64 0] 36)=W):=⟨_,rfl⟩;rw [HW2.out] at S2 c1 |-; clear HW2;go_wp2_with fail
   go_loopw [19] (fun v19 wr=>∃ k:Nat,k<=m.ids.length/\v19= .int .i64 (k:Int)/\SW w.heap.size w [cellOb g5 36 #[.int .u64 (wholeP (m.ids.take k)).1,.int .i64 (wholeP (m.ids.take k)).2],cellOb (w.heap.size+1) 36 #[.int .u64 0,.int .i64 0],cellOb w.heap.size 33 #[.int .i64 m.size,.slice A m.ids.length c]] wr) (fun v19 _=>m.ids.length-(intOf v19).toNat)
   case atStart=>exact ⟨0,Nat.zero_le _,rfl,S2.out⟩
   obtain ⟨k,hk,rfl,hs⟩:=hrel;have S3:=hid hs;clear hs S2;by_cases hlt:k<m.ids.length
   · obtain ⟨q1,q2,HQ⟩:∃ q1 q2,Hid (wholeP (m.ids.take k)=(q1,q2)):=⟨_,_,rfl⟩;obtain ⟨i1,i2,HI⟩:∃ i1 i2,Hid (m.ids.getD k (0,0)=(i1,i2)):=⟨_,_,rfl⟩;have hwt:=whole_take HE.out hlt;have hmem:=getD_mem m.ids (0,0) k hlt;have HN:Hid (wholeP (m.ids.take (k+1))=joinP (q1,q2) (i1,i2)):=by rw [Hid,take_snoc _ (0,0) _ hlt,wholeP_snoc,HQ.out,HI.out]
     rw [HQ.out,HI.out] at hwt;rw [HI.out] at hmem;rw [HQ.out] at S3;have HJ:=hid (fun W=>Join_any q1 q2 i1 i2 hwt.1 hwt.2.2.2 hwt.2.2.1 (okID_pos (Hok.out _ hmem)) hwt.2.1 W);obtain ⟨j1,j2,HJE⟩:∃ j1 j2,Hid (joinP (q1,q2) (i1,i2)=(j1,j2)):=⟨_,_,rfl⟩;rw [HJE.out] at HJ HN;clear hwt hmem;obtain ⟨gb,o,rfl,hB,hne,hc⟩:=Hr.out (by omega);have d0:wr.cell? ⟨gb,o+k*2,none⟩=some (.int .u64 i1):=by rw [S3.out.2.cell (p:=⟨gb,o+k*2,none⟩) hB];exact hc k hlt 0 _ (by rw [HI.out];rfl)
     have d1:wr.cell? ⟨gb,o+k*2+1,none⟩=some (.int .i64 i2):=by rw [S3.out.2.cell (p:=⟨gb,o+k*2+1,none⟩) hB];exact hc k hlt 1 _ (by rw [HI.out];rfl)
     have a0:=(S3.out.cell 0 rfl).cell 0;have a1:=(S3.out.cell 0 rfl).cell 1;have hl5:=(S3.out.cell 0 rfl).lt;clear hc;have S4:=hid (S3.out.newCell 36 #[.int .u64 i1,.int .i64 i2]);go_wp2_with (go_at_call 75;(with_reducible refine (HJ.out _).mono ?_);refine halt_ ?_)
     rintro e w3 rfl hb3;rw [<- World.size_alloc wr (.cells #[.int .u64 i1,.int .i64 i2] 36)] at hb3;have hl3:g5<w3.heap.size:=Nat.lt_of_lt_of_le hl5 (Nat.le_trans (by rw [World.size_alloc];exact Nat.le_succ _) hb3.size);have S5:=hid (S4.out.on hb3);clear hb3 S4 S3 d0 d1 a0 a1;have a0:=((S5.out.cell 1 rfl).cell 0);have a1:=((S5.out.cell 1 rfl).cell 1);have f0:=fun o=>(S5.out.cell 1 rfl).frozen o;have S6:Hid (SW w.heap.size w [cellOb g5 36 #[.int .u64 j1,.int .i64 j2],cellOb (w.heap.size+1) 36 #[.int .u64 0,.int .i64 0],cellOb w.heap.size 33 #[.int .i64 m.size,.slice (some ⟨gb,o,none⟩) m.ids.length c]] (((w3.setCell ⟨g5,0,none⟩ (.int .u64 j1)).setCell ⟨g5,1,none⟩ (.int .i64 j2)).alloc (.cells #[.int .u64 j1,.int .i64 j2] 36))):=(((S5.out.setAt 1 rfl 0 (.int .u64 j1)).setAt 1 rfl 1 (.int .i64 j2)).newCell 36 #[.int .u64 j1,.int .i64 j2]).tail.tail;go_wp2_with fail
     go_roundw
     case rel=>exact ⟨k+1,by omega,by go_num,by rw [HN.out];exact S6.out⟩
     simp [intOf];omega
   obtain rfl:k=m.ids.length:=by omega
   rw [List.take_length] at S3;obtain ⟨q1,q2,HQ⟩:∃ q1 q2,Hid (wholeP m.ids=(q1,q2)):=⟨_,_,rfl⟩;rw [HQ.out] at S3;have a0:=(S3.out.cell 0 rfl).cell 0;have a1:=(S3.out.cell 0 rfl).cell 1;have e0:=(S3.out.cell 1 rfl).cell 0;have e1:=(S3.out.cell 1 rfl).cell 1;have f0:=fun o=>(S3.out.cell 1 rfl).frozen o;go_wp2_with fail
   clear a0 a1 e0 e1 f0;have S4:Hid (SW w.heap.size w [cellOb g5 36 #[.int .u64 q1,.int .i64 q2],cellOb (w.heap.size+1) 36 #[.int .u64 q1,.int .i64 q2],cellOb w.heap.size 33 #[.int .i64 m.size,.slice A m.ids.length c]] ((wr.setCell ⟨w.heap.size+1,0,none⟩ (.int .u64 q1)).setCell ⟨w.heap.size+1,1,none⟩ (.int .i64 q2))):=(S3.out.setAt 1 rfl 0 (.int .u64 q1)).setAt 1 rfl 1 (.int .i64 q2);obtain ⟨w4,HW4⟩:∃ W,Hid ((wr.setCell ⟨w.heap.size+1,0,none⟩ (.int .u64 q1)).setCell ⟨w.heap.size+1,1,none⟩ (.int .i64 q2)=W):=⟨_,rfl⟩;rw [HW4.out] at S4 |-; have e0:w4.cell? ⟨w.heap.size+1,0,none⟩=some (.int .u64 q1):=(S4.out.cell 1 rfl).cell 0;have e1:w4.cell? ⟨w.heap.size+1,1,none⟩=some (.int .i64 q2):=(S4.out.cell 1 rfl).cell 1;(try simp only [Exit.inBlock,Exit.then])
   refine bodyPost_ret (v:=.tuple #[.agg #[.int .u64 q1,.int .i64 q2],.int .i64 0]) (by simp [results,Tryz.results31,go_sem,e0,e1,Result.andThen]) rfl ?_;exact ⟨by rw [HW.out,HE.out,HQ.out],S4.out.2⟩
 have HW:Hid ((if manE m=0 then wholeP m.ids else (0,0))=(0,0)):=if_neg hE;obtain ⟨E,HE⟩:∃ x,Hid (manE m=x):=⟨_,rfl⟩;rw [HE.out] at hE |-; have hbe:(E !=0)=true:=by rw [bne_iff_ne];exact hE
 clear hE;have S2:Hid (SW w.heap.size w [cellOb (w.heap.size+1) 36 #[.int .u64 0,.int .i64 0],cellOb w.heap.size 33 #[.int .i64 m.size,.slice A m.ids.length c]] ((w1.setCell ⟨w.heap.size+1,0,none⟩ (.int .u64 0)).setCell ⟨w.heap.size+1,1,none⟩ (.int .i64 0))):=(S1.out.setAt 0 rfl 0 (.int .u64 0)).setAt 0 rfl 1 (.int .i64 0);go_wp2_with fail
 clear S1 e0 e1 f0;obtain ⟨w4,HW4⟩:∃ W,Hid ((w1.setCell ⟨w.heap.size+1,0,none⟩ (.int .u64 0)).setCell ⟨w.heap.size+1,1,none⟩ (.int .i64 0)=W):=⟨_,rfl⟩;rw [HW4.out] at S2 |-; have e0:w4.cell? ⟨w.heap.size+1,0,none⟩=some (.int .u64 0):=(S2.out.cell 0 rfl).cell 0;have e1:w4.cell? ⟨w.heap.size+1,1,none⟩=some (.int .i64 0):=(S2.out.cell 0 rfl).cell 1;(try simp only [Exit.inBlock,Exit.then])
 refine bodyPost_ret (v:=.tuple #[.agg #[.int .u64 0,.int .i64 0],.int .i64 E]) (by simp [results,Tryz.results31,go_sem,e0,e1,Result.andThen]) rfl ?_;exact ⟨by rw [HW.out,HE.out],S2.out.2⟩
end Go.Proofs.YtmiknfneeipkeaaGreat
namespace Go.Proofs.YtmiknfneeipkeaaGreat
open Go.RowKit Go.MapKept Go.ChangeMaps Go.Shelf Go.Sort
attribute [local go_sem] wext_cell
set_option maxHeartbeats 4000000 in
theorem rWhole_any (x:Nat) (m:Man) (A:Option Addr) (c:Nat) (w:World) (hr:RdID w x A m.ids) (hn:m.ids.length<=9223372036854775807) (hok:∀ i∈m.ids,okID i):
 Calls Tryz.prog 10 #[.agg #[.int .i64 m.size,.slice A m.ids.length c]] w (WholeE m w):=by
 have Hr:=hid hr;have Hok:=hid hok;clear hr hok;have S0:=hid (((SW.refl (Sep.nil w (Nat.le_refl _))).newCell 33 #[.int .i64 m.size,.slice A m.ids.length c]).newCellAt 36 #[.int .u64 0,.int .i64 0] (H:=w.heap.size+1) (by simp));have HC:=hid (rmanCheck_any x m A c _ (Hr.out.on S0.out.2) hn);go_enter Tryz.func10,Tryz.ntmps10;go_wp2_with (go_at_call 37;(with_reducible refine HC.out.mono ?_);refine halt_ ?_)
 rintro e w1 ⟨rfl,hb1⟩;have S1:=hid (S0.out.on hb1);clear hb1 S0 HC;have f0:=fun o=>(S1.out.cell 0 rfl).frozen o;have e0:=(S1.out.cell 0 rfl).cell 0;have e1:=(S1.out.cell 0 rfl).cell 1;by_cases hE:manE m=0
 · have HE:=hid hE;have HW:Hid ((if manE m=0 then wholeP m.ids else (0,0))=wholeP m.ids):=if_pos hE;rw [hE];clear hE;have c1:=(S1.out.cell 1 rfl).cell 1;go_upto_region 5 with fail
   obtain ⟨g5,HG⟩:∃ x,Hid (w1.heap.size=x):=⟨_,rfl⟩;have S2:=hid (S1.out.newCell 36 #[.int .u64 0,.int .i64 0]);rw [HG.out] at S2 |-; clear HG S1 f0 e0 e1 c1;have c1:=(S2.out.cell 2 rfl).cell 1;obtain ⟨w2,HW2⟩:∃ W,Hid (w1.alloc (.cells #[.int .u64 0,.int .i64 0] 36)=W):=⟨_,rfl⟩;rw [HW2.out] at S2 c1 |-; clear HW2;go_wp2_with fail
   go_loopw [6] (fun v6 wr=>∃ k:Nat,k<=m.ids.length/\v6= .int .i64 (k:Int)/\SW w.heap.size w [cellOb g5 36 #[.int .u64 (wholeP (m.ids.take k)).1,.int .i64 (wholeP (m.ids.take k)).2],cellOb (w.heap.size+1) 36 #[.int .u64 0,.int .i64 0],cellOb w.heap.size 33 #[.int .i64 m.size,.slice A m.ids.length c]] wr) (fun v6 _=>m.ids.length-(intOf v6).toNat)
   case atStart=>exact ⟨0,Nat.zero_le _,rfl,S2.out⟩
   obtain ⟨k,hk,rfl,hs⟩:=hrel;have S3:=hid hs;clear hs S2;have b1:=(S3.out.cell 2 rfl).cell 1;have hl1:=(S3.out.cell 2 rfl).lt;by_cases hlt:k<m.ids.length
   · obtain ⟨q1,q2,HQ⟩:∃ q1 q2,Hid (wholeP (m.ids.take k)=(q1,q2)):=⟨_,_,rfl⟩;obtain ⟨i1,i2,HI⟩:∃ i1 i2,Hid (m.ids.getD k (0,0)=(i1,i2)):=⟨_,_,rfl⟩;have hwt:=whole_take HE.out hlt;have hmem:=getD_mem m.ids (0,0) k hlt;have HN:Hid (wholeP (m.ids.take (k+1))=joinP (q1,q2) (i1,i2)):=by rw [Hid,take_snoc _ (0,0) _ hlt,wholeP_snoc,HQ.out,HI.out]
     rw [HQ.out,HI.out] at hwt;rw [HI.out] at hmem;rw [HQ.out] at S3;have HJ:=hid (fun W=>rJoin_any q1 q2 i1 i2 hwt.1 hwt.2.2.2 hwt.2.2.1 (okID_pos (Hok.out _ hmem)) hwt.2.1 W);obtain ⟨j1,j2,HJE⟩:∃ j1 j2,Hid (joinP (q1,q2) (i1,i2)=(j1,j2)):=⟨_,_,rfl⟩;rw [HJE.out] at HJ HN;clear hwt hmem;obtain ⟨gb,o,rfl,hB,hne,hc⟩:=Hr.out (by omega);have d0:wr.cell? ⟨gb,o+k*2,none⟩=some (.int .u64 i1):=by rw [S3.out.2.cell (p:=⟨gb,o+k*2,none⟩) hB];exact hc k hlt 0 _ (by rw [HI.out];rfl)
     have d1:wr.cell? ⟨gb,o+k*2+1,none⟩=some (.int .i64 i2):=by rw [S3.out.2.cell (p:=⟨gb,o+k*2+1,none⟩) hB];exact hc k hlt 1 _ (by rw [HI.out];rfl)
     have a0:=(S3.out.cell 0 rfl).cell 0;have a1:=(S3.out.cell 0 rfl).cell 1;have hl5:=(S3.out.cell 0 rfl).lt;have hlb:gb<wr.heap.size:=Nat.lt_of_lt_of_le hB S3.out.2.size;clear hc;go_upto_region 8 with fail
     go_region_with (go_at_call 38;(with_reducible refine (HJ.out _).mono ?_);rintro e w3 ⟨rfl,hb3⟩;have S5:=hid (S3.out.drew.on hb3);have a0:=((S5.out.cell 0 rfl).cell 0);have a1:=((S5.out.cell 0 rfl).cell 1);have f0:=fun o=>(S5.out.cell 0 rfl).frozen o)
     all_goals (
      have S6:Hid (SW w.heap.size w [cellOb g5 36 #[.int .u64 j1,.int .i64 j2],cellOb (w.heap.size+1) 36 #[.int .u64 0,.int .i64 0],cellOb w.heap.size 33 #[.int .i64 m.size,.slice (some ⟨gb,o,none⟩) m.ids.length c]] ((w3.setCell ⟨g5,0,none⟩ (.int .u64 j1)).setCell ⟨g5,1,none⟩ (.int .i64 j2))):=((S5.out.setAt 0 rfl 0 (.int .u64 j1)).setAt 0 rfl 1 (.int .i64 j2));clear S5 hb3 a0 a1 f0 S3 d0 d1 b1 hl1 hl5 hlb;go_wp2_with fail
      go_roundw
      case rel=>exact ⟨k+1,by omega,by go_num,by rw [HN.out];exact S6.out⟩
      simp [intOf];omega)
   obtain rfl:k=m.ids.length:=by omega
   rw [List.take_length] at S3;obtain ⟨q1,q2,HQ⟩:∃ q1 q2,Hid (wholeP m.ids=(q1,q2)):=⟨_,_,rfl⟩;rw [HQ.out] at S3;have a0:=(S3.out.cell 0 rfl).cell 0;have a1:=(S3.out.cell 0 rfl).cell 1;have e0:=(S3.out.cell 1 rfl).cell 0;have e1:=(S3.out.cell 1 rfl).cell 1;have f0:=fun o=>(S3.out.cell 1 rfl).frozen o;go_wp2_with fail
   clear a0 a1 e0 e1 f0;have S4:Hid (SW w.heap.size w [cellOb g5 36 #[.int .u64 q1,.int .i64 q2],cellOb (w.heap.size+1) 36 #[.int .u64 q1,.int .i64 q2],cellOb w.heap.size 33 #[.int .i64 m.size,.slice A m.ids.length c]] ((wr.setCell ⟨w.heap.size+1,0,none⟩ (.int .u64 q1)).setCell ⟨w.heap.size+1,1,none⟩ (.int .i64 q2))):=(S3.out.setAt 1 rfl 0 (.int .u64 q1)).setAt 1 rfl 1 (.int .i64 q2);obtain ⟨w4,HW4⟩:∃ W,Hid ((wr.setCell ⟨w.heap.size+1,0,none⟩ (.int .u64 q1)).setCell ⟨w.heap.size+1,1,none⟩ (.int .i64 q2)=W):=⟨_,rfl⟩;rw [HW4.out] at S4 |-; have e0:w4.cell? ⟨w.heap.size+1,0,none⟩=some (.int .u64 q1):=(S4.out.cell 1 rfl).cell 0;have e1:w4.cell? ⟨w.heap.size+1,1,none⟩=some (.int .i64 q2):=(S4.out.cell 1 rfl).cell 1;(try simp only [Exit.inBlock,Exit.then])
   refine bodyPost_ret (v:=.tuple #[.agg #[.int .u64 q1,.int .i64 q2],.int .i64 0]) (by simp [results,Tryz.results10,go_sem,e0,e1,Result.andThen]) rfl ?_;exact ⟨by rw [HW.out,HE.out,HQ.out],S4.out.2⟩
 have HW:Hid ((if manE m=0 then wholeP m.ids else (0,0))=(0,0)):=if_neg hE;obtain ⟨E,HE⟩:∃ x,Hid (manE m=x):=⟨_,rfl⟩;rw [HE.out] at hE |-; have hbe:(E !=0)=true:=by rw [bne_iff_ne];exact hE
 clear hE;have S2:Hid (SW w.heap.size w [cellOb (w.heap.size+1) 36 #[.int .u64 0,.int .i64 0],cellOb w.heap.size 33 #[.int .i64 m.size,.slice A m.ids.length c]] ((w1.setCell ⟨w.heap.size+1,0,none⟩ (.int .u64 0)).setCell ⟨w.heap.size+1,1,none⟩ (.int .i64 0))):=(S1.out.setAt 0 rfl 0 (.int .u64 0)).setAt 0 rfl 1 (.int .i64 0);go_wp2_with fail
 clear S1 e0 e1 f0;obtain ⟨w4,HW4⟩:∃ W,Hid ((w1.setCell ⟨w.heap.size+1,0,none⟩ (.int .u64 0)).setCell ⟨w.heap.size+1,1,none⟩ (.int .i64 0)=W):=⟨_,rfl⟩;rw [HW4.out] at S2 |-; have e0:w4.cell? ⟨w.heap.size+1,0,none⟩=some (.int .u64 0):=(S2.out.cell 0 rfl).cell 0;have e1:w4.cell? ⟨w.heap.size+1,1,none⟩=some (.int .i64 0):=(S2.out.cell 0 rfl).cell 1;(try simp only [Exit.inBlock,Exit.then])
 refine bodyPost_ret (v:=.tuple #[.agg #[.int .u64 0,.int .i64 0],.int .i64 E]) (by simp [results,Tryz.results10,go_sem,e0,e1,Result.andThen]) rfl ?_;exact ⟨by rw [HW.out,HE.out],S2.out.2⟩
end Go.Proofs.YtmiknfneeipkeaaGreat
namespace Go.Proofs
open Go.Shelf
def Tryz.lay82_ren:Go.Shelf.Ren:=⟨fun | 6=>82 | 15=>127 | 14=>126 | 28=>164 | 29=>165 | 20=>156 | 21=>157 | 22=>158 | 23=>159 | 24=>160 | 25=>161 | 26=>162 | 27=>163 | 46=>199 | 47=>200 | 48=>201 | 49=>202 | 50=>203 | 57=>224 | n=>n,fun | 22=>31 | 24=>36 | 25=>115 | 3=>3 | 39=>174 | 0=>0 | 53=>245 | 55=>34 | 4=>4 | 46=>239 | 45=>238 | 50=>113 | 5=>5 | 9=>9 | 66=>275 | 70=>279 | 76=>295 | 77=>296 | n=>n,fun | n=>n⟩
theorem Tryz.lay82:Go.Proofs.SlLaysF0.n6 Tryz.prog Tryz.lay82_ren:={
 mixed:=by kernel_rfl
 f6:=⟨Tryz.f82.name,by decide,Tryz.func82.trans (congrArg some (by kernel_rfl))⟩
 f14:=⟨Tryz.f126.name,by decide,Tryz.func126.trans (congrArg some (by kernel_rfl))⟩
 f15:=Tryz.func127.trans (congrArg some (by kernel_rfl))
 f20:=⟨Tryz.f156.name,by decide,Tryz.func156.trans (congrArg some (by kernel_rfl))⟩
 f21:=⟨Tryz.f157.name,by decide,Tryz.func157.trans (congrArg some (by kernel_rfl))⟩
 f22:=⟨Tryz.f158.name,by decide,Tryz.func158.trans (congrArg some (by kernel_rfl))⟩
 f23:=⟨Tryz.f159.name,by decide,Tryz.func159.trans (congrArg some (by kernel_rfl))⟩
 f24:=⟨Tryz.f160.name,by decide,Tryz.func160.trans (congrArg some (by kernel_rfl))⟩
 f25:=⟨Tryz.f161.name,by decide,Tryz.func161.trans (congrArg some (by kernel_rfl))⟩
 f26:=⟨Tryz.f162.name,by decide,Tryz.func162.trans (congrArg some (by kernel_rfl))⟩
 f27:=⟨Tryz.f163.name,by decide,Tryz.func163.trans (congrArg some (by kernel_rfl))⟩
 f28:=Tryz.func164.trans (congrArg some (by kernel_rfl))
 f29:=Tryz.func165.trans (congrArg some (by kernel_rfl))
 f46:=⟨Tryz.f199.name,by decide,Tryz.func199.trans (congrArg some (by kernel_rfl))⟩
 f47:=Tryz.func200.trans (congrArg some (by kernel_rfl))
 f48:=Tryz.func201.trans (congrArg some (by kernel_rfl))
 f49:=⟨Tryz.f202.name,by decide,Tryz.func202.trans (congrArg some (by kernel_rfl))⟩
 f50:=⟨Tryz.f203.name,by decide,Tryz.func203.trans (congrArg some (by kernel_rfl))⟩
 f57:=⟨Tryz.f224.name,by decide,Tryz.func224.trans (congrArg some (by kernel_rfl))⟩
 t0:=Tryz.underlying0
 a0:=Tryz.isAgg0
 z0:=Tryz.sizeOf0
 v0:=Tryz.zeroValue0
 t3:=Tryz.underlying3
 a3:=Tryz.isAgg3
 z3:=Tryz.sizeOf3
 v3:=Tryz.zeroValue3
 t4:=Tryz.underlying4
 a4:=Tryz.isAgg4
 z4:=Tryz.sizeOf4
 v4:=Tryz.zeroValue4
 t5:=Tryz.underlying5
 a5:=Tryz.isAgg5
 z5:=Tryz.sizeOf5
 v5:=Tryz.zeroValue5
 t9:=Tryz.underlying9
 a9:=Tryz.isAgg9
 z9:=Tryz.sizeOf9
 v9:=Tryz.zeroValue9
 t22:=Tryz.underlying31
 a22:=Tryz.isAgg31
 z22:=Tryz.sizeOf31
 v22:=Tryz.zeroValue31
 t25:=Tryz.underlying115
 a25:=Tryz.isAgg115
 z25:=Tryz.sizeOf115
 v25:=Tryz.zeroValue115
 t39:=Tryz.underlying174
 a39:=Tryz.isAgg174
 z39:=Tryz.sizeOf174
 v39:=Tryz.zeroValue174
 t45:=Tryz.underlying238
 a45:=Tryz.isAgg238
 z45:=Tryz.sizeOf238
 v45:=Tryz.zeroValue238
 t46:=Tryz.underlying239
 a46:=Tryz.isAgg239
 z46:=Tryz.sizeOf239
 v46:=Tryz.zeroValue239
 t50:=Tryz.underlying113
 a50:=Tryz.isAgg113
 z50:=Tryz.sizeOf113
 v50:=Tryz.zeroValue113
 t53:=Tryz.underlying245
 a53:=Tryz.isAgg245
 z53:=Tryz.sizeOf245
 v53:=Tryz.zeroValue245
 t55:=Tryz.underlying34
 a55:=Tryz.isAgg34
 z55:=Tryz.sizeOf34
 v55:=Tryz.zeroValue34
 t66:=Tryz.underlying275
 a66:=Tryz.isAgg275
 z66:=Tryz.sizeOf275
 v66:=Tryz.zeroValue275
 t70:=Tryz.underlying279
 a70:=Tryz.isAgg279
 z70:=Tryz.sizeOf279
 v70:=Tryz.zeroValue279
 t76:=Tryz.underlying295
 a76:=Tryz.isAgg295
 z76:=Tryz.sizeOf295
 v76:=Tryz.zeroValue295
 t77:=Tryz.underlying296
 a77:=Tryz.isAgg296
 z77:=Tryz.sizeOf296
 v77:=Tryz.zeroValue296 }
def Tryz.lay87_ren:Go.Shelf.Ren:=⟨fun | 6=>87 | 15=>127 | 14=>129 | 28=>164 | 29=>165 | 20=>168 | 21=>169 | 22=>170 | 23=>171 | 24=>172 | 25=>173 | 26=>174 | 27=>175 | 46=>205 | 47=>200 | 48=>201 | 49=>206 | 50=>207 | 57=>226 | n=>n,fun | 22=>23 | 24=>42 | 25=>148 | 3=>3 | 39=>174 | 0=>0 | 53=>245 | 55=>34 | 4=>4 | 46=>239 | 45=>238 | 50=>113 | 5=>5 | 9=>9 | 66=>275 | 70=>279 | 76=>295 | 77=>296 | n=>n,fun | n=>n⟩
theorem Tryz.lay87:Go.Proofs.SlLaysF0.n6 Tryz.prog Tryz.lay87_ren:={
 mixed:=by kernel_rfl
 f6:=⟨Tryz.f87.name,by decide,Tryz.func87.trans (congrArg some (by kernel_rfl))⟩
 f14:=⟨Tryz.f129.name,by decide,Tryz.func129.trans (congrArg some (by kernel_rfl))⟩
 f15:=Tryz.func127.trans (congrArg some (by kernel_rfl))
 f20:=⟨Tryz.f168.name,by decide,Tryz.func168.trans (congrArg some (by kernel_rfl))⟩
 f21:=⟨Tryz.f169.name,by decide,Tryz.func169.trans (congrArg some (by kernel_rfl))⟩
 f22:=⟨Tryz.f170.name,by decide,Tryz.func170.trans (congrArg some (by kernel_rfl))⟩
 f23:=⟨Tryz.f171.name,by decide,Tryz.func171.trans (congrArg some (by kernel_rfl))⟩
 f24:=⟨Tryz.f172.name,by decide,Tryz.func172.trans (congrArg some (by kernel_rfl))⟩
 f25:=⟨Tryz.f173.name,by decide,Tryz.func173.trans (congrArg some (by kernel_rfl))⟩
 f26:=⟨Tryz.f174.name,by decide,Tryz.func174.trans (congrArg some (by kernel_rfl))⟩
 f27:=⟨Tryz.f175.name,by decide,Tryz.func175.trans (congrArg some (by kernel_rfl))⟩
 f28:=Tryz.func164.trans (congrArg some (by kernel_rfl))
 f29:=Tryz.func165.trans (congrArg some (by kernel_rfl))
 f46:=⟨Tryz.f205.name,by decide,Tryz.func205.trans (congrArg some (by kernel_rfl))⟩
 f47:=Tryz.func200.trans (congrArg some (by kernel_rfl))
 f48:=Tryz.func201.trans (congrArg some (by kernel_rfl))
 f49:=⟨Tryz.f206.name,by decide,Tryz.func206.trans (congrArg some (by kernel_rfl))⟩
 f50:=⟨Tryz.f207.name,by decide,Tryz.func207.trans (congrArg some (by kernel_rfl))⟩
 f57:=⟨Tryz.f226.name,by decide,Tryz.func226.trans (congrArg some (by kernel_rfl))⟩
 t0:=Tryz.underlying0
 a0:=Tryz.isAgg0
 z0:=Tryz.sizeOf0
 v0:=Tryz.zeroValue0
 t3:=Tryz.underlying3
 a3:=Tryz.isAgg3
 z3:=Tryz.sizeOf3
 v3:=Tryz.zeroValue3
 t4:=Tryz.underlying4
 a4:=Tryz.isAgg4
 z4:=Tryz.sizeOf4
 v4:=Tryz.zeroValue4
 t5:=Tryz.underlying5
 a5:=Tryz.isAgg5
 z5:=Tryz.sizeOf5
 v5:=Tryz.zeroValue5
 t9:=Tryz.underlying9
 a9:=Tryz.isAgg9
 z9:=Tryz.sizeOf9
 v9:=Tryz.zeroValue9
 t22:=Tryz.underlying23
 a22:=Tryz.isAgg23
 z22:=Tryz.sizeOf23
 v22:=Tryz.zeroValue23
 t25:=Tryz.underlying148
 a25:=Tryz.isAgg148
 z25:=Tryz.sizeOf148
 v25:=Tryz.zeroValue148
 t39:=Tryz.underlying174
 a39:=Tryz.isAgg174
 z39:=Tryz.sizeOf174
 v39:=Tryz.zeroValue174
 t45:=Tryz.underlying238
 a45:=Tryz.isAgg238
 z45:=Tryz.sizeOf238
 v45:=Tryz.zeroValue238
 t46:=Tryz.underlying239
 a46:=Tryz.isAgg239
 z46:=Tryz.sizeOf239
 v46:=Tryz.zeroValue239
 t50:=Tryz.underlying113
 a50:=Tryz.isAgg113
 z50:=Tryz.sizeOf113
 v50:=Tryz.zeroValue113
 t53:=Tryz.underlying245
 a53:=Tryz.isAgg245
 z53:=Tryz.sizeOf245
 v53:=Tryz.zeroValue245
 t55:=Tryz.underlying34
 a55:=Tryz.isAgg34
 z55:=Tryz.sizeOf34
 v55:=Tryz.zeroValue34
 t66:=Tryz.underlying275
 a66:=Tryz.isAgg275
 z66:=Tryz.sizeOf275
 v66:=Tryz.zeroValue275
 t70:=Tryz.underlying279
 a70:=Tryz.isAgg279
 z70:=Tryz.sizeOf279
 v70:=Tryz.zeroValue279
 t76:=Tryz.underlying295
 a76:=Tryz.isAgg295
 z76:=Tryz.sizeOf295
 v76:=Tryz.zeroValue295
 t77:=Tryz.underlying296
 a77:=Tryz.isAgg296
 z77:=Tryz.sizeOf296
 v77:=Tryz.zeroValue296 }
end Go.Proofs
namespace Go.Proofs.YtmiknfneeipkeaaGreat
open Go.RowKit Go.Shelf Go.Sort
attribute [local go_sem] wext_cell
section
variable {α:Type} [Inhabited α] {enc:α->List Value} {k:Nat} {d:α}
theorem bang_getD (xs:List α) (j:Nat) (hj:j<xs.length):xs.toArray[j]! =xs.getD j d:=by
 rw [List.getElem!_toArray,List.getD_eq_getElem?_getD,List.getElem?_eq_getElem hj,getElem!_pos xs j hj];rfl
theorem holdsK_of_own (hk:∀ y,(enc y).length=k) (hk0:0<k) {w:World} {base g n cap:Nat} {e:TypeId} {xs:List α} (h:w.ownsRow base e k (.slice (some ⟨g,0,none⟩) n cap) n (xs.flatMap enc)):HoldsK enc k w g 0 xs.toArray:=by
 have hl:=h.1;rw [flat_len hk] at hl;intro j hj;rw [size_flatK] at hj;have hj':j<xs.length*k:=by simpa using hj
 refine ⟨?_,h.frozenAt _⟩;have hq:j / k<xs.length:=by rw [Nat.div_lt_iff_lt_mul hk0];exact hj'
 have hm:j % k<k:=Nat.mod_lt _ hk0;have hdm:j / k*k+j % k=j:=by rw [Nat.mul_comm];exact Nat.div_add_mod j k
 rw [get_flatK _ _ _ _ hj,Nat.zero_add,h.cellAt j (by omega),bang_getD (d:=default) xs _ hq];have h1:=flat_at hk default xs (j / k) (j % k) hq hm;rw [hdm] at h1;rw [h1];have hlt:j % k<(enc (xs.getD (j / k) default)).length:=by rw [hk];exact hm
 rw [List.getElem?_eq_getElem hlt,getElem!_pos (enc (xs.getD (j / k) default)) (j % k) hlt];rfl
end
end Go.Proofs.YtmiknfneeipkeaaGreat
namespace Go.Proofs.YtmiknfneeipkeaaGreat
open Go.RowKit Go.MapKept Go.ChangeMaps Go.Shelf Go.Sort
attribute [local go_sem] wext_cell
theorem grow_grow2 (W:World) (a b:Obj) (q:Nat) (os:Array Obj):grow (((W.alloc a).alloc b).drewN q) os=grow (W.drewN q) (#[a,b]++os):=by
 show grow (((W.drewN q).alloc a).alloc b) os=_;rw [alloc_eq_grow,alloc_eq_grow,grow_grow,grow_grow, <- Array.append_assoc];rfl
def Asc (T:List CT):Prop:=T.Pairwise (fun a b=>ltID a.1 b.1=true)
theorem info125:(Tryz.prog.info? 125).map (fun i=>(i.zero,i.size,i.bytes))=some (some (.agg #[.int .u64 0,.int .i64 0,.int .i64 0]),3,24):=by kernel_rfl
theorem mthree_new (W:World) (x y z:Value) (t:TypeId) (H:Nat) (hH:W.heap.size=H):∀ j u,[x,y,z][j]? =some u->(W.alloc (.cells #[x,y,z] t)).cell? ((⟨H,0,none⟩:Addr).add j)=some u:=by
 subst hH;intro j u hu;have hc:=fun i=>(IsB.new W t #[x,y,z]).cell i;match j,hu with
 | 0,hu=>simp at hu;subst hu;simp [Addr.add,hc]
 | 1,hu=>simp at hu;subst hu;simp [Addr.add,hc]
 | 2,hu=>simp at hu;subst hu;simp [Addr.add,hc]
 | j+3,hu=>simp at hu
end Go.Proofs.YtmiknfneeipkeaaGreat
