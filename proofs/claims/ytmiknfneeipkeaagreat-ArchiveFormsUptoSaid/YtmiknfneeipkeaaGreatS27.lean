/- Contracts of the walk, part 27. -/
import Derived.Lib.SlBytesRowKit
import Derived.Test.YtmiknfneeipkeaaGreatS26
import Derived.Test.YtmiknfneeipkeaaGreatS19
import Derived.Test.YtmiknfneeipkeaaGreatS16
import Derived.Test.YtmiknfneeipkeaaGreatS24
open Go.Lib (hid)
namespace Go.Proofs.YtmiknfneeipkeaaGreat
open Go.RowKit Go.MapKept Go.ChangeMaps Go.Shelf Go.Sort
attribute [local go_sem] wext_cell
theorem numsM_take (m:Man) (k:Nat) (hk:k<m.ids.length):(m.ids.take (k+1)).flatMap (fun i=>[i.2,i.1])=(m.ids.take k).flatMap (fun i=>[i.2,i.1])++[(m.ids.getD k id0).2,(m.ids.getD k id0).1]:=by
 rw [take_id hk];simp
theorem nums_len (l:List ID):(l.flatMap (fun i=>[i.2,i.1])).length=2*l.length:=by
 induction l with
 | nil=>rfl
 | cons a l ih=>
  rw [List.flatMap_cons,List.length_append,ih,List.length_cons];simp;omega
theorem numsM_bd {m:Man} (he:manE m=0) (hok:∀ i∈m.ids,okID i):∀ n∈numsM m,0<=n/\n<2305843009213693952:=by
 have hv:=manE_zero he;have h1:=sum_take_bd (l:=m.ids) (k:=m.ids.length) (by rw [List.take_length];exact hv.1);rw [List.take_length] at h1;have hml:=manE_len he;intro n hn;rcases List.mem_append.1 hn with h | h
 · simp only [List.mem_cons,List.not_mem_nil,or_false] at h;rcases h with rfl | rfl
   · omega
   omega
 obtain ⟨i,hi,h⟩:=List.mem_flatMap.1 h;have hc:=List.all_eq_true.1 hv.1 _ hi;have h2:=chunkB_sound hc;have h3:=validB_bd (chunkB_valid hc);have h4:=okID_pos (hok i hi);simp only [List.mem_cons,List.not_mem_nil,or_false] at h;rcases h with rfl | rfl<;>omega
theorem putU_ten {v:Nat} (h:v<18446744073709551616):(putU v).length<=10:=putU_len (k:=9) (Nat.lt_of_lt_of_le h (by decide))
theorem nums_bytes (l:List Int) (h:∀ n∈l,0<=n/\n<2305843009213693952):(l.flatMap (fun n=>putU n.toNat)).length<=10*l.length:=by
 induction l with
 | nil=>simp
 | cons a l ih=>
  have h1:=ih (fun n hn=>h n (List.mem_cons_of_mem _ hn));have h2:=putU_ten (v:=a.toNat) (by have:=h a (.head _);omega);rw [List.flatMap_cons,List.length_append,List.length_cons];omega
set_option maxRecDepth 100000 in
set_option maxHeartbeats 8000000 in
theorem manEnc_any (x:Nat) (m:Man) (A:Option Addr) (c:Nat) (w:World) (hr:RdID w x A m.ids) (he:manE m=0) (hok:∀ i∈m.ids,okID i):
 Calls Tryz.prog 44 #[.agg #[.int .i64 m.size,.slice A m.ids.length c]] w (fun e w'=>∃ d,e= .returned (.tuple #[vB d,.int .i64 0])/\Buf w w' d (manB m)):=by
 have Hr:=hid hr;have Hok:=hid hok;have HE:=hid he;have hml:=manE_len he;have hv:=manE_zero he
 have hs0:0<=m.size/\m.size<=1048576:=by
  have h1:=sum_take_bd (l:=m.ids) (k:=m.ids.length) (by rw [List.take_length];exact hv.1);rw [List.take_length] at h1;exact ⟨by rw [hv.2.1];exact h1.1,hv.2.2⟩
 have S0:=hid ((SW.refl (Sep.nil w (Nat.le_refl _))).newCell 33 #[.int .i64 m.size,.slice A m.ids.length c]);have HC:=hid (manCheck_any x m A c _ (Hr.out.on S0.out.2) (by omega));rw [he] at HC;obtain ⟨i1,gi,gz0,gz1,gz2⟩:=info_parts info34;clear hr hok he hv;go_enter Tryz.func44,Tryz.ntmps44;go_wp2_with (go_at_call 74;(with_reducible refine HC.out.mono ?_);refine halt_ ?_)
 rintro e w1 ⟨rfl,hb1⟩;have S1:=hid (S0.out.on hb1);have e0:=(S1.out.cell 0 rfl).cell 0;have e1:=(S1.out.cell 0 rfl).cell 1;clear hb1 S0 HC;go_upto_region 5 with fail
 have S2:Hid (SW w.heap.size w (rowOb 34 1 (.slice (some ⟨w1.heap.size,0,none⟩) 2 2) 2 (([m.size,(m.ids.length:Int)]++(m.ids.take 0).flatMap (fun i=>[i.2,i.1])).flatMap encN)::cellOb w.heap.size 33 #[.int .i64 m.size,.slice A m.ids.length c]::[]) (w1.alloc (.cells #[.int .u64 m.size,.int .u64 (m.ids.length:Int)] 34))):=S1.out.newRowOf 34 1 2 #[.int .u64 m.size,.int .u64 (m.ids.length:Int)] rfl (by unfold maxLen;omega);obtain ⟨w2,HW⟩:∃ W,Hid (w1.alloc (.cells #[.int .u64 m.size,.int .u64 (m.ids.length:Int)] 34)=W):=⟨_,rfl⟩;rw [HW.out] at S2 |-; clear HW e0 e1 S1;have e1:=(S2.out.cell 1 rfl).cell 1;go_wp2_with fail
 go_loopw [5,27] (fun s5 s27 wr=>∃ (k:Nat) (B:Option Addr) (bc:Nat),k<=m.ids.length/\s27= .int .i64 (k:Int)/\s5= .slice B (2+2*k) bc/\SW w.heap.size w (rowOb 34 1 (.slice B (2+2*k) bc) (2+2*k) (([m.size,(m.ids.length:Int)]++(m.ids.take k).flatMap (fun i=>[i.2,i.1])).flatMap encN)::cellOb w.heap.size 33 #[.int .i64 m.size,.slice A m.ids.length c]::[]) wr) (fun _ s27 _=>m.ids.length-(intOf s27).toNat)
 case atStart=>exact ⟨0,some ⟨w1.heap.size,0,none⟩,2,Nat.zero_le _,rfl,rfl,S2.out⟩
 obtain ⟨k,B,bc,hk,rfl,rfl,hs⟩:=hrel;have S3:=hid hs;clear hs S2 e1;by_cases hlt:k<m.ids.length
 · obtain ⟨j1,j2,HI⟩:∃ i1 i2,Hid (m.ids.getD k id0=(i1,i2)):=⟨_,_,rfl⟩;have hmem:=getD_mem m.ids id0 k hlt;rw [HI.out] at hmem;have hch:=chunkB_sound (List.all_eq_true.1 (manE_zero HE.out).1 _ hmem);simp only at hch;have HT:=hid (numsM_take m k hlt);rw [HI.out] at HT;obtain ⟨gb,o,rfl,hB,hne,hc⟩:=Hr.out (by omega);have d0:wr.cell? ⟨gb,o+k*2,none⟩=some (.int .u64 j1):=by rw [S3.out.2.cell (p:=⟨gb,o+k*2,none⟩) hB];exact hc k hlt 0 _ (by rw [show m.ids.getD k (0,0)=(j1,j2) from HI.out];rfl)
   have d1:wr.cell? ⟨gb,o+k*2+1,none⟩=some (.int .i64 j2):=by rw [S3.out.2.cell (p:=⟨gb,o+k*2+1,none⟩) hB];exact hc k hlt 1 _ (by rw [show m.ids.getD k (0,0)=(j1,j2) from HI.out];rfl)
   clear hc hmem;have S4:=hid ((S3.out.newCell 36 #[.int .u64 j1,.int .i64 j2]).alloc (.cells #[.int .u64 j2,.int .u64 j1] 34));go_wp2_with (at_builtin;(refine wpList_rowMO (t:=151) (e:=34) (size:=1) (bytes:=8) (i:=i1) S4.out 1 rfl (by rfl) (.tmp 31) (.tmp 37) (by rfl) Tryz.underlying151 gi gz0 gz1 gz2 rfl (by omega) (by rfl) (some ⟨wr.heap.size+1,0,none⟩) 2 2 [.int .u64 j2,.int .u64 j1] (by rfl) rfl (fun _=>⟨_,rfl,two_new _ _ _ _ _ (by simp)⟩) (by intro u hu;simp at hu;rcases hu with rfl | rfl<;>rfl) (by unfold maxLen;omega) (by omega) ?_);refine halt_ ?_)
   intro v5 w5 s5;obtain ⟨g5,c5,rfl⟩:=own_some (s5.get 1 rfl) (by omega)
   have S5:Hid (SW w.heap.size w (rowOb 34 1 (.slice (some ⟨g5,0,none⟩) (2+2*(k+1)) c5) (2+2*(k+1)) (([m.size,(m.ids.length:Int)]++(m.ids.take (k+1)).flatMap (fun i=>[i.2,i.1])).flatMap encN)::cellOb w.heap.size 33 #[.int .i64 m.size,.slice (some ⟨gb,o,none⟩) m.ids.length c]::[]) w5):=by
    rw [Hid,HT.out, <- List.append_assoc,List.flatMap_append,show 2+2*(k+1)=2+2*k+2 by omega];exact s5.tail
   clear s5 S4 d0 d1;go_wp2_with fail
   go_roundw
   case rel=>exact ⟨k+1,some ⟨g5,0,none⟩,c5,by omega,by go_num,by rw [show 2+2*(k+1)=2+2*k+2 by omega],S5.out⟩
   simp [intOf];omega
 obtain rfl:k=m.ids.length:=by omega
 rw [List.take_length] at S3;have HNM:Hid ([m.size,(m.ids.length:Int)]++m.ids.flatMap (fun i=>[i.2,i.1])=numsM m):=rfl;rw [HNM.out] at S3;obtain ⟨L,HL⟩:∃ x,Hid (2+2*m.ids.length=x):=⟨_,rfl⟩;have hLn:L<=2050:=by have:=HL.out;omega
 have HLN:Hid ((numsM m).length=L):=by
  rw [Hid, <- HL.out];rw [numsM,List.length_append,nums_len];rfl
 rw [HL.out] at S3 |-; have S4:Hid (SW w.heap.size w (bufOb ⟨none,0,0⟩ []::rowOb 34 1 (.slice B L bc) L ((numsM m).flatMap encN)::[]) wr):=(SW.sub S3.out (l':=[rowOb 34 1 (.slice B L bc) L ((numsM m).flatMap encN)]) (.cons_cons _ (.cons _ (List.Sublist.refl _)))).newBuT (Below.refl _ _) ⟨rfl,Nat.le_refl _,(fun _=>rfl),(fun ad e=>by cases e)⟩ (fun g hg=>by cases hg);clear S3;go_wp2_with fail
 go_loopw [8,42] (fun s8 s42 wr=>∃ (j:Nat) (d:BD),j<=L/\s42= .int .i64 (j:Int)/\s8= .slice d.A d.len d.cap/\SW w.heap.size w (bufOb d (((numsM m).take j).flatMap (fun n=>putU n.toNat))::rowOb 34 1 (.slice B L bc) L ((numsM m).flatMap encN)::[]) wr) (fun _ s42 _=>L-(intOf s42).toNat)
 case atStart=>exact ⟨0,⟨none,0,0⟩,Nat.zero_le _,rfl,rfl,S4.out⟩
 obtain ⟨j,d,hj,rfl,rfl,hs⟩:=hrel;have S5:=hid hs;clear hs S4;by_cases hlt2:j<L
 · obtain ⟨n,hnj⟩:∃ n,(numsM m).getD j 0=n:=⟨_,rfl⟩;have hnm:n∈numsM m:=by rw [<- hnj];exact getD_mem _ _ _ (by rw [HLN.out];exact hlt2)
   have hnb:=numsM_bd HE.out Hok.out n hnm;obtain ⟨v,rfl⟩:∃ v:Nat,n=(v:Int):=⟨n.toNat,by omega⟩
   have HTJ:Hid (((numsM m).take (j+1)).flatMap (fun n=>putU n.toNat)=((numsM m).take j).flatMap (fun n=>putU n.toNat)++putU v):=by
    rw [Hid,take_snoc _ 0 _ (by rw [HLN.out];exact hlt2),hnj,List.flatMap_append];simp
   obtain ⟨gB,cB,e7⟩:=own_some (S5.out.get 1 rfl) (by omega);injection e7 with e7 e8 e9;clear e8 e9;subst e7;have hrow:wr.ownsRow 0 34 1 (.slice (some ⟨gB,0,none⟩) L bc) L ((numsM m).flatMap encN):=S5.out.get 1 rfl
   have c0:wr.cell? ⟨gB,j,none⟩=some (.int .u64 (v:Int)):=by
    have h1:=hrow.cellAt j (by omega);have h2:=flat_at encN_len 0 (numsM m) j 0 (by rw [HLN.out];exact hlt2) (by omega);rw [Nat.mul_one,Nat.add_zero] at h2;rw [h1,h2,hnj];rfl
   have HP1:=hid (PutUint_nil v wr (by omega))
   have hdb:(((numsM m).take j).flatMap (fun n=>putU n.toNat)).length+(putU v).length<=1099511627776:=by
    have h1:=nums_bytes ((numsM m).take j) (fun n hn=>numsM_bd HE.out Hok.out n (List.mem_of_mem_take hn));have h2:=putU_ten (v:=v) (by omega);rw [List.length_take] at h1;omega
   clear hrow hnm hnj;go_wp2_with (go_at_call 43;(with_reducible refine HP1.out.mono ?_);refine halt_ ?_)
   rintro e6 w6 ⟨d6,rfl,hr6,_,hb6⟩;have S7:=hid (S5.out.on hb6);have R6:=hid hr6;clear S5 HP1 hr6 hb6 c0;unfold vB;go_wp2_with (at_builtin;refine halt_q ?_)
   refine wpList_bufS S7.out rfl _ _ rfl rfl d6.A d6.len d6.cap (putU v) rfl R6.out.1 R6.out.src (by rw [<- R6.out.1];exact hdb) ?_;intro d7 w7 s7
   have S8:Hid (SW w.heap.size w (bufOb d7 (((numsM m).take (j+1)).flatMap (fun n=>putU n.toNat))::rowOb 34 1 (.slice (some ⟨gB,0,none⟩) L bc) L ((numsM m).flatMap encN)::[]) w7):=by
    rw [Hid,HTJ.out];exact s7
   clear s7 S7 R6;unfold vB;go_wp2_with fail
   go_roundw
   case rel=>exact ⟨j+1,d7,by omega,by go_num,rfl,S8.out⟩
   simp [intOf];omega
 obtain rfl:j=L:=by omega
 have HB:Hid (((numsM m).take j).flatMap (fun n=>putU n.toNat)=manB m):=by rw [Hid, <- HLN.out,List.take_length];rfl
 rw [HB.out] at S5;go_wp2_with fail
 go_ret2;exact ⟨d,rfl,S5.out.get 0 (o:=bufOb d (manB m)) rfl,(fun g hg=>(S5.out.1.own _ (.head _) g hg).1),S5.out.2⟩
end Go.Proofs.YtmiknfneeipkeaaGreat
namespace Go.Proofs.YtmiknfneeipkeaaGreat
open Go.RowKit Go.MapKept Go.ChangeMaps Go.Shelf Go.Sort
theorem row_rdCH {w:World} {D:Option Addr} {S:List CH} {q dc:Nat} (hr:w.ownsRow 0 42 3 (.slice D q dc) q (S.flatMap encCH)) (hq:S.length=q):Rd encCH 3 ch0 w w.heap.size D S:=by
 intro hp;have hx:∀ g,D=some ⟨g,0,none⟩->g<w.heap.size:=fun g e=>(hr.lt g (by rw [e];rfl)).2;rcases hr.2 with ⟨hv,h0⟩ | ⟨g,cap,cur,hv,_⟩
 · omega
 injection hv with e1 e2 e3;subst e1;subst e3;refine ⟨g,0,rfl,hx g rfl,by have:=hx g rfl;omega,fun j hj i v hi=>?_⟩
 have hi2:i<3:=by
  have:=(List.getElem?_eq_some_iff.1 hi).1;rwa [encCH_len] at this
 rw [Nat.zero_add,hr.cellAt (j*3+i) (by rw [<- hq];omega),flat_at encCH_len ch0 S j i hj hi2];exact hi
theorem SW.rowCx {b:Nat} {w0 w:World} {l:List Ob} {D C:Option Addr} {S T:List CH} {q dc:Nat} (h:SW b w0 (rowOb 42 3 (.slice D q dc) q (S.flatMap encCH)::l) w) (hc:cxOb C T∈l) (hq:S.length=q) (hs:∀ e∈S,e∈T):SW b w0 (cxOb D S::l) w:=by
 have hM:=h.1.holds _ (List.mem_cons_of_mem _ hc);have h1:SW b w0 (cxOb C T::rowOb 42 3 (.slice D q dc) q (S.flatMap encCH)::l) w:=h.again (List.mem_cons_of_mem _ hc) (fun _ h=>h) hM (fun _ h=>h) (fun _ h=>h);have hrow:w.ownsRow 0 42 3 (.slice D q dc) q (S.flatMap encCH):=h.get 0 rfl;refine SW.fuse (pre:=[_,_]) h1 ⟨row_rdCH hrow hq,fun e he=>hM.2 e (hs e he)⟩ (fun _ h=>h) (fun i hi=>?_);rcases hi with ⟨hp,o,e⟩ | ⟨e,he,hp,o,ho⟩
 · refine ⟨_,.tail _ (.head _),.inl ?_⟩;show (Value.slice D q dc).ownBlock=some i;rw [e];rfl
 exact ⟨_,.head _,.inr (.inr ⟨e,hs e he,hp,o,ho⟩)⟩
theorem selR_mem {ids:List ID} {T:List CH} (ha:AllR ids T):∀ e∈selR ids T,e∈T:=by
 intro e he;obtain ⟨i,hi,rfl⟩:=List.mem_map.1 he;obtain ⟨x,hx⟩:=Option.isSome_iff_exists.1 (ha i hi);rw [hx];exact (firstR_id hx).2.2
end Go.Proofs.YtmiknfneeipkeaaGreat
namespace Go.Proofs.YtmiknfneeipkeaaGreat
open Go.RowKit Go.MapKept Go.ChangeMaps Go.Shelf Go.Sort
def partB (m:Man):List UInt8:=putU (manB m).length++manB m
def volH (n:Nat) (ys:List Man):List UInt8:=[83,89,65,82]++putU n++ys.flatMap partB
def volB (ys:List Man) (S:List CH):List UInt8:=volH ys.length ys++packP S
theorem volH_snoc (n:Nat) (ys:List Man) (m:Man):volH n (ys++[m])=volH n ys++(putU (manB m).length++manB m):=by simp [volH,partB,List.append_assoc]
theorem numsM_len (m:Man):(numsM m).length=2+2*m.ids.length:=by
 rw [numsM,List.length_append,nums_len];rfl
theorem manB_len {m:Man} (he:manE m=0) (hok:∀ i∈m.ids,okID i):(manB m).length<=20500:=by
 have h1:=nums_bytes (numsM m) (numsM_bd he hok);have h2:=manE_len he;rw [numsM_len] at h1;have:(manB m).length=((numsM m).flatMap (fun n=>putU n.toNat)).length:=rfl;omega
end Go.Proofs.YtmiknfneeipkeaaGreat
namespace Go.Proofs.YtmiknfneeipkeaaGreat
open Go.RowKit Go.MapKept Go.ChangeMaps Go.Shelf Go.Sort
theorem key_size {a b:Man} (ha:manE a=0) (hb:manE b=0) (h:keyM a=keyM b):a.size=b.size:=by
 have h1:=manE_zero ha;have h2:=manE_zero hb;have w1:=(wholeP_ok _ a.ids rfl h1.1 (by rw [<- h1.2.1];exact h1.2.2)).2.1;have w2:=(wholeP_ok _ b.ids rfl h2.1 (by rw [<- h2.2.1];exact h2.2.2)).2.1;have:(wholeP a.ids).2=(wholeP b.ids).2:=congrArg Prod.snd h;rw [h1.2.1,h2.2.1, <- w1, <- w2,this]
theorem conM_same {ms ys:List Man} {m:Man} (hc:ConM ms ys) (ho:OneM ms) (hm:m∈ys):ConM (ms++[m]) ys/\OneM (ms++[m]):=by
 have hms:=(hc.2 m).1 hm
 have e:∀ a,a∈ms++[m]↔a∈ms:=fun a=>by
  rw [List.mem_append,List.mem_singleton];exact ⟨fun h=>h.elim id (fun h=>h ▸ hms),.inl⟩
 exact ⟨⟨hc.1,fun a=>(hc.2 a).trans (e a).symm⟩,fun a ha b hb=>ho a ((e a).1 ha) b ((e b).1 hb)⟩
theorem mem_take_ix {α:Type} {l:List α} {j:Nat} {a:α} (d:α) (h:a∈l.take j):∃ i,i<j/\i<l.length/\l.getD i d=a:=by
 obtain ⟨i,hi,rfl⟩:=List.getElem_of_mem h;rw [List.length_take] at hi;refine ⟨i,by omega,by omega,?_⟩;rw [List.getD_eq_getElem?_getD,List.getElem?_eq_getElem (by omega),List.getElem_take];rfl
theorem mem_drop_ix {α:Type} {l:List α} {j:Nat} {a:α} (d:α) (h:a∈l.drop j):∃ i,j<=i/\i<l.length/\l.getD i d=a:=by
 obtain ⟨i,hi,rfl⟩:=List.getElem_of_mem h;rw [List.length_drop] at hi;refine ⟨j+i,by omega,by omega,?_⟩;rw [List.getD_eq_getElem?_getD,List.getElem?_eq_getElem (by omega),List.getElem_drop];rfl
theorem conM_ins {ms ys:List Man} {m:Man} {j:Nat} (hc:ConM ms ys) (ho:OneM ms) (hlo:∀ i,i<j->ltID (keyM (ys.getD i man0)) (keyM m)=true) (hhi:j<ys.length->ltID (keyM m) (keyM (ys.getD j man0))=true):
 ConM (ms++[m]) (ys.take j++m::ys.drop j)/\OneM (ms++[m]):=by
 have hL:∀ a∈ys.take j,ltID (keyM a) (keyM m)=true:=fun a ha=>by
  obtain ⟨i,hi,_,rfl⟩:=mem_take_ix man0 ha;exact hlo i hi
 have hR:∀ a∈ys.drop j,ltID (keyM m) (keyM a)=true:=fun a ha=>by
  obtain ⟨i,hi,hl,rfl⟩:=mem_drop_ix man0 ha;have h1:=hhi (by omega);rcases Nat.eq_or_lt_of_le hi with rfl | hlt
  · exact h1
  have:=List.pairwise_iff_getElem.1 hc.1 j i (by omega) hl hlt;rw [List.getD_eq_getElem?_getD,List.getElem?_eq_getElem (by omega)] at h1;rw [List.getD_eq_getElem?_getD,List.getElem?_eq_getElem hl];exact ltID_tr h1 this
 have hsp:ys.take j++ys.drop j=ys:=List.take_append_drop j ys;have hp:=hc.1;rw [<- hsp,List.pairwise_append] at hp
 have hmem:∀ a,a∈ys.take j++m::ys.drop j↔a∈ms++[m]:=fun a=>by
  have h1:=hc.2 a;rw [<- hsp,List.mem_append] at h1;rw [List.mem_append,List.mem_cons,List.mem_append,List.mem_singleton, <- h1];rw [or_comm (a:=a=m) (b:=a∈List.drop j ys), <- or_assoc]
 refine ⟨⟨?_,hmem⟩,?_⟩
 · rw [List.pairwise_append];refine ⟨hp.1,List.pairwise_cons.2 ⟨hR,hp.2.1⟩,fun a ha b hb=>?_⟩;rcases List.mem_cons.1 hb with rfl | hb
   · exact hL a ha
   exact hp.2.2 a ha b hb
 have hne:∀ a∈ms,keyM a≠keyM m:=fun a ha e=>by
  have h1:=(hc.2 a).2 ha;rw [<- hsp,List.mem_append] at h1;rcases h1 with h1 | h1
  · have:=hL a h1;rw [e,ltID_irr] at this;cases this
  have:=hR a h1;rw [e,ltID_irr] at this;cases this
 intro a ha b hb e;rw [List.mem_append,List.mem_singleton] at ha hb;rcases ha with ha | rfl<;>rcases hb with hb | rfl
 · exact ho a ha b hb e
 · exact absurd e (hne a ha)
 · exact absurd e.symm (hne b hb)
 rfl
theorem not_one {ms:List Man} {q m:Man} (hq:q∈ms) (hm:m∈ms) (h1:manE q=0) (h2:manE m=0) (hk:keyM q=keyM m) (hn:¬ (q.size=m.size/\q.ids=m.ids)):¬ OneM ms:=
 fun ho=>hn ⟨key_size h1 h2 hk,ho q hq m hm hk⟩
theorem conM_len {ms ys:List Man} (h:ConM ms ys):ys.length<=ms.length:=by
 haveI:DecidableEq Man:=fun _ _=>Classical.propDecidable _
 exact nodup_len (h.1.imp (fun {a b} hab e=>by rw [e,ltID_irr] at hab;cases hab)) (fun m hm=>(h.2 m).1 hm)
theorem conM_nil:ConM [] []:=⟨List.Pairwise.nil,fun _=>Iff.rfl⟩
theorem oneM_nil:OneM []:=fun a ha=>by cases ha
end Go.Proofs.YtmiknfneeipkeaaGreat
namespace Go.Proofs.YtmiknfneeipkeaaGreat
open Go.RowKit Go.MapKept Go.ChangeMaps Go.Shelf Go.Sort
theorem errM_each:∀ {l:List Man},errM l=0->∀ m∈l,manE m=0:=by
 intro l;induction l with
 | nil=>intro _ m hm;cases hm
 | cons a l ih=>
  intro h m hm
  have ha:manE a=0:=by
   simp only [errM] at h;split at h<;>simp_all
  have hl:errM l=0:=by
   simp only [errM] at h;rw [if_pos ha] at h;exact h
  rcases List.mem_cons.1 hm with rfl | hm
  · exact ha
  exact ih hl m hm
theorem selR_len (ids:List ID) (T:List CH):(selR ids T).length=ids.length:=by simp [selR]
theorem selR_ids {ids:List ID} {T:List CH} (ha:AllR ids T):(selR ids T).map (·.1)=ids:=by
 rw [selR,List.map_map]
 have:∀ i∈ids,((fun e:CH=>e.1) ∘ fun i=>(firstR T i).getD ch0) i=i:=fun i hi=>by
  obtain ⟨x,hx⟩:=Option.isSome_iff_exists.1 (ha i hi);simp only [Function.comp,hx,Option.getD_some];exact (firstR_id hx).1
 rw [List.map_congr_left this,List.map_id']
theorem selR_asc {ids:List ID} {T:List CH} (hs:AscI ids) (ha:AllR ids T):(selR ids T).Pairwise (fun a b=>ltID a.1 b.1=true):=by
 have:((selR ids T).map (·.1)).Pairwise (fun a b=>ltID a b=true):=by rw [selR_ids ha];exact hs
 exact List.pairwise_map.1 this
theorem selR_ok {ids:List ID} {T:List CH} (ha:AllR ids T) (hsz:∀ i∈ids,1<=i.2/\i.2<=8192):∀ e∈selR ids T,okCH e=true:=by
 intro e he;obtain ⟨i,hi,rfl⟩:=List.mem_map.1 he;obtain ⟨x,hx⟩:=Option.isSome_iff_exists.1 (ha i hi);rw [hx,Option.getD_some];obtain ⟨h1,h2,_⟩:=firstR_id hx;have h3:=hsz i hi;rw [okCH,decide_eq_true_eq];subst h1;exact ⟨h3.1,h3.2,h2⟩
theorem pack_cnt {T:List CH} (h:(packP T).length<=1048576):T.length<=1048576:=by
 have h1:∀ S:List CH,S.length<=(S.flatMap frameP).length:=by
  intro S;induction S with
  | nil=>exact Nat.le_refl _
  | cons e S ih=>
   rw [List.flatMap_cons,List.length_append,List.length_cons]
   have:1<=(frameP e).length:=by
    rw [frameP];simp only [List.length_append,List.length_cons,List.length_nil];omega
   omega
 have h2:=h1 T;rw [packP,packB,packF] at h;simp only [List.length_append] at h;omega
theorem setR_lim {ms:List Man} (he:errM ms=0):(setR (idsOf ms)).length<=1024*ms.length:=by
 have h1:=setR_len (idsOf ms);have h2:=idsOf_len he;omega
theorem volH_le {ys:List Man} (hv:∀ m∈ys,manE m=0) (hok:∀ m∈ys,∀ i∈m.ids,okID i) (hn:ys.length<=1000000) (k:Nat):(volH k ys).length<=4+(putU k).length+20510*ys.length:=by
 have:∀ l:List Man,(∀ m∈l,manE m=0)->(∀ m∈l,∀ i∈m.ids,okID i)->(l.flatMap partB).length<=20510*l.length:=by
  intro l;induction l with
  | nil=>intro _ _;simp
  | cons a l ih=>
   intro h1 h2;have h3:=ih (fun m hm=>h1 m (.tail _ hm)) (fun m hm=>h2 m (.tail _ hm));have h4:=manB_len (h1 a (.head _)) (h2 a (.head _));have h5:=putU_ten (v:=(manB a).length) (by omega);have h6:(partB a).length=(putU (manB a).length).length+(manB a).length:=by simp [partB]
   rw [List.flatMap_cons,List.length_append,List.length_cons,h6];omega
 have h:=this ys hv hok;rw [volH,List.length_append,List.length_append];simp only [List.length_cons,List.length_nil];omega
theorem RX.sb {w:World} {d:BD} {bs:List UInt8} (h:RX w d bs):SB w d.A bs:=h.elim (fun r=>r.src) (fun r=>r.2.2.2)
theorem volH_nil (n:Nat):volH n []=[83,89,65,82]++putU n:=by simp [volH]
end Go.Proofs.YtmiknfneeipkeaaGreat
namespace Go.Proofs.YtmiknfneeipkeaaGreat
open Go.RowKit Go.MapKept Go.ChangeMaps Go.Shelf Go.Sort
attribute [local go_sem] wext_cell
def volMk:List UInt8:=[83,89,65,82]
abbrev MarkP (A:Option Addr) (c:Nat) (bs:List UInt8) (w:World) (e:Ending) (w':World):Prop:=
 Below w.heap.size w w'/\((volMk <+: bs/\e= .returned (.tuple #[.slice (cutA A 4 c) (bs.drop 4).length (c-4),.bool true]))∨(¬ volMk <+: bs/\∃ v,e= .returned (.tuple #[v,.bool false])))
set_option maxRecDepth 100000 in
set_option maxHeartbeats 4000000 in
theorem readMark_any (A:Option Addr) (c:Nat) (bs:List UInt8) (w:World) (h:Vw w A c bs):Calls Tryz.prog 146 #[.slice A bs.length c] w (MarkP A c bs w):=by
 have H:=hid h;have R0:Hid (RX (w.alloc (.cells #[.int .u8 83,.int .u8 89,.int .u8 65,.int .u8 82] 5 (4,5))) ⟨some ⟨w.heap.size,0,none⟩,4,4⟩ volMk):=full_rx w #[.int .u8 83,.int .u8 89,.int .u8 65,.int .u8 82] (4,5) volMk 4 rfl (by decide) rfl;have B0:Hid (Below w.heap.size w (w.alloc (.cells #[.int .u8 83,.int .u8 89,.int .u8 65,.int .u8 82] 5 (4,5)))):=bel1q _ _;have hcv:=Lib.run_convert_bytes_const (P:=Tryz.prog) w 40 5 #[.int .u8 83,.int .u8 89,.int .u8 65,.int .u8 82] 4 4 Tryz.underlying40 Tryz.underlying5;have HB1:=hid (RS.bytesIn (h.on B0.out).1);have HB2:=hid (RS.bytesIn (SB.rs R0.out.sb));have HCP:=hid (Tryz.bytes_CutPrefix_all A (some ⟨w.heap.size,0,none⟩) bs.length c 4 4 (ints bs) (ints volMk) (w.alloc (.cells #[.int .u8 83,.int .u8 89,.int .u8 65,.int .u8 82] 5 (4,5))) (ints_len bs) rfl h.2.2.1 HB1.out HB2.out);rw [trimPrefixV_eq (ints_len bs) HB1.out,bytes_ints,bytes_ints] at HCP;clear h;go_enter Tryz.func146,Tryz.ntmps146;by_cases hp:volMk <+: bs
 · have e1:Lib.hasPrefix bs volMk=true:=by rw [Lib.hasPrefix,List.isPrefixOf_iff_prefix];exact hp
   have hl:=hp.length_le;have hl4:4<=bs.length:=hl;have hne:A≠none:=fun e=>by have:=H.out.1.1 e;omega
   obtain ⟨ad,rfl⟩:∃ ad,A=some ad:=by
    cases A with
    | none=>exact absurd rfl hne
    | some ad=>exact ⟨ad,rfl⟩
   obtain ⟨g,o,rfl,_⟩:=H.out.1.2 ad rfl (by omega)
   have HFV:Hid (Lib.fromV (some ⟨g,o,none⟩) bs.length c (ints volMk).length= .slice (cutA (some ⟨g,o,none⟩) 4 c) (bs.drop 4).length (c-4)):=by
    rw [Hid,List.length_drop];simp [Lib.fromV,cutA,ints_len,volMk,Addr.add]
   rw [if_pos e1,e1,HFV.out] at HCP;have HCG:=hid (HCP.out.mono (R':=Gives _ _) (fun e w' h=>⟨h.1,by rw [h.2];exact Below.refl _ _⟩));have HP:=hid hp;clear hp hl hne e1;go_wp2_with (go_at_call 192;(with_reducible refine HCG.out.mono ?_);refine halt_ ?_)
   rintro e w1 ⟨rfl,hb1⟩;have HB9:=hid (B0.out.trans (hb1.mono B0.out.size));clear hb1;go_wp2_with fail
   go_ret2;exact ⟨HB9.out,.inl ⟨HP.out,by rw [List.length_drop];rfl⟩⟩
 have e1:Lib.hasPrefix bs volMk=false:=by
  rw [<- Bool.not_eq_true,Lib.hasPrefix,List.isPrefixOf_iff_prefix];exact hp
 rw [e1,if_neg (by simp)] at HCP;have HCG:=hid (HCP.out.mono (R':=Gives _ _) (fun e w' h=>⟨h.1,by rw [h.2];exact Below.refl _ _⟩));have HP:=hid hp;clear hp e1;go_wp2_with (go_at_call 192;(with_reducible refine HCG.out.mono ?_);refine halt_ ?_)
 rintro e w1 ⟨rfl,hb1⟩;have HB9:=hid (B0.out.trans (hb1.mono B0.out.size));clear hb1;go_wp2_with fail
 go_ret2;exact ⟨HB9.out,.inr ⟨HP.out,_,rfl⟩⟩
end Go.Proofs.YtmiknfneeipkeaaGreat
namespace Go.Proofs.YtmiknfneeipkeaaGreat
open Go.RowKit Go.MapKept Go.ChangeMaps Go.Shelf Go.Sort
attribute [local go_sem] wext_cell
def mansL (bs:List UInt8):Nat->Nat->Option (List Man×Nat)
 | 0,k=>some ([],k)
 | n+1,k=>match oneM (bs.drop k) with
  | some (m,j)=>(mansL bs n (k+j)).map (fun p=>(m::p.1,p.2))
  | none=>none
def rdMans (bs:List UInt8):Option (List Man×Nat):=
 if volMk <+: bs then match takeU 0 0 (bs.drop 4) with
  | some (v,n)=>mansL bs v (4+n)
  | none=>none
 else none
theorem takeU_lt:∀ (bs:List UInt8) (i v x n:Nat),i<=9->v<128^i->takeU i v bs=some (x,n)->x<18446744073709551616:=by
 intro bs;induction bs with
 | nil=>intro i v x n _ _ h;cases h
 | cons c r ih=>
  intro i v x n hi hv h;rw [takeU] at h;by_cases h9:i=9/\c.toNat≠1
  · rw [if_pos h9] at h;cases h
  rw [if_neg h9] at h
  have h91:i=9->c.toNat=1:=fun e=>by
   apply Classical.byContradiction
   intro hn;exact h9 ⟨e,hn⟩
  by_cases hc:128<=c.toNat
  · rw [if_pos hc] at h;have hi9:i≠9:=fun e=>by have:=h91 e;omega
    refine ih (i+1) _ x n (by omega) ?_ h;have h2:c.toNat % 128*128^i<=127*128^i:=Nat.mul_le_mul_right _ (by omega);rw [Nat.pow_succ];omega
  rw [if_neg hc] at h;by_cases hz:c.toNat=0/\0<i
  · rw [if_pos hz] at h;cases h
  rw [if_neg hz] at h;injection h with h;injection h with h1 _;rw [<- h1];exact (or_add v i (c.toNat % 128) hv hi (by omega) (fun e=>by have:=h91 e;omega)).2.1
theorem oneM_pos {bs:List UInt8} {m:Man} {k:Nat} (h:oneM bs=some (m,k)):0<k:=by
 unfold oneM at h;split at h
 · rename_i v n ht
   split at h
   · cases h
   have h1:=takeU_le _ _ _ _ _ ht;obtain ⟨m',_,e⟩:=Option.map_eq_some_iff.1 h;injection e with e1 e2;omega
 cases h
theorem row_cap {w:World} {e:TypeId} {size n q c:Nat} {D:Option Addr} {xs:List Value} (h:w.ownsRow 0 e size (.slice D q c) n xs):n<=c:=by
 rcases h.2 with ⟨hv,h0⟩ | ⟨g,cap,cur,hv,_,_,hnc,_⟩
 · omega
 injection hv with e1 e2 e3;omega
section
variable {b:Nat} {w0 w w':World} {l:List Ob}
abbrev MansP (A:Option Addr) (c:Nat) (bs:List UInt8) (b:Nat) (w0:World) (l:List Ob) (e:Ending) (w':World):Prop:=
 (∃ ms k rs D dc A' c',rdMans bs=some (ms,k)/\k<=bs.length/\e= .returned (.tuple #[.slice D ms.length dc,.slice A' (bs.length-k) c',.bool true])/\(∀ W,Vw W A c bs->Vw W A' c' (bs.drop k))/\(∀ i,(rsOb A' (bs.drop k)).rd i->(rsOb A bs).rd i)/\SW b w0 (rowOb 33 2 (.slice D ms.length dc) ms.length (rs.flatMap encMR)::msOb rs ms::l) w')∨
 (rdMans bs=none/\(∃ v1 v2,e= .returned (.tuple #[v1,v2,.bool false]))/\SW b w0 l w')
set_option maxRecDepth 100000 in
set_option maxHeartbeats 8000000 in
theorem readMans_any (h:SW b w0 l w) {A:Option Addr} {c:Nat} {bs:List UInt8} (hr:rsOb A bs∈l) (hv:(A=none->c=0)/\bs.length<=c/\bs.length<=9223372036854775807) (hbl:bs.length<=1000000000):
 Calls Tryz.prog 113 #[.slice A bs.length c] w (MansP A c bs b w0 l):=by
 have HR:=hid hr;have HV:=hid hv;have S0:=hid h;have HM:=hid (readMark_any A c bs w (h.view hr hv));clear h hr hv;go_enter Tryz.func113,Tryz.ntmps113;go_wp2_with (go_at_call 146;(with_reducible refine HM.out.mono ?_);refine halt_ ?_)
 rintro e w1 ⟨hb1,⟨hp,rfl⟩ | ⟨hp,v,rfl⟩⟩
 · have S1:=hid (S0.out.on hb1);have HP:=hid hp;have hl4:4<=bs.length:=hp.length_le;have hV1:=(S1.out.view HR.out HV.out).drop 4 hl4;obtain ⟨B,HB⟩:∃ x,Hid (cutA A 4 c=x):=⟨_,rfl⟩;obtain ⟨cB,HCB⟩:∃ x,Hid (c-4=x):=⟨_,rfl⟩;obtain ⟨r4,HR4⟩:∃ x,Hid (bs.drop 4=x):=⟨_,rfl⟩;rw [HB.out,HCB.out,HR4.out] at hV1 |-; have HU:=hid (readUint_any B cB r4 w1 hV1);have HVB:Hid (∀ W,Vw W A c bs->Vw W B cB r4):=fun W h=>by rw [<- HB.out, <- HCB.out, <- HR4.out];exact h.drop 4 hl4
   clear hp hb1 S0 HM hV1;go_wp2_with (go_at_call 147;(with_reducible refine HU.out.mono ?_);refine halt_ ?_)
   rintro e w2 ⟨hb2,⟨v,n,ht,hn,rfl⟩ | ⟨ht,rfl⟩⟩
   · have S2:=hid ((SW.noMans (S1.out.on hb2)).newRow 33 2);have HT:=hid ht
     have HK0:Hid (4+n<=bs.length):=by
      have h1:=congrArg List.length HR4.out;rw [List.length_drop] at h1;rw [Hid];omega
     obtain ⟨A2,HA2⟩:∃ x,Hid (cutA B n cB=x):=⟨_,rfl⟩;obtain ⟨c2,HC2⟩:∃ x,Hid (cB-n=x):=⟨_,rfl⟩;obtain ⟨r2,HR2⟩:∃ x,Hid (r4.drop n=x):=⟨_,rfl⟩;have HD2:Hid (bs.drop (4+n)=r2):=by rw [Hid, <- HR2.out, <- HR4.out,List.drop_drop]
     have HV2:Hid (∀ W,Vw W A c bs->Vw W A2 c2 r2):=fun W h=>by
      rw [<- HA2.out, <- HC2.out, <- HR2.out];exact (HVB.out W h).drop n hn
     have HS2:Hid (∀ i,(rsOb A2 r2).rd i->(rsOb A bs).rd i):=fun i hi=>by
      rw [<- HA2.out, <- HR2.out] at hi;have h1:=cutA_rd hi hn;rw [<- HB.out, <- HR4.out] at h1;exact cutA_rd h1 hl4
     rw [HA2.out,HC2.out,HR2.out];have hv64:=takeU_lt _ _ _ _ _ (by omega) (by decide) ht;clear hb2 S1 HU ht hn hl4 HA2 HC2 HR2;go_wp2_with fail
     obtain ⟨im,mi,mz0,mz1,mz2⟩:=info_parts info33';go_loopw [0,5,6,7] (fun s0 s5 s6 s7 wr=>(∃ (r k:Nat) (ms:List Man) (rs:List MR) (D A':Option Addr) (dc c':Nat) (rest:List UInt8),r<=v/\s6= .int .u64 (r:Int)/\s0= .slice A' rest.length c'/\s5= .bool true/\s7= .slice D ms.length dc/\k<=bs.length/\ms.length<=k/\Hid (bs.drop k=rest)/\Hid (mansL bs v (4+n)=(mansL bs r k).map (fun p=>(ms++p.1,p.2)))/\Hid (∀ W,Vw W A c bs->Vw W A' c' rest)/\Hid (∀ i,(rsOb A' rest).rd i->(rsOb A bs).rd i)/\SW b w0 (rowOb 33 2 (.slice D ms.length dc) ms.length (rs.flatMap encMR)::msOb rs ms::l) wr)∨(∃ (r:Nat) (A' D:Option Addr) (n' c' dn dc:Nat),r<=v/\s6= .int .u64 (r:Int)/\s0= .slice A' n' c'/\s5= .bool false/\s7= .slice D dn dc/\Hid (rdMans bs=none)/\SW b w0 l wr)) (fun _ _ s6 _ _=>(intOf s6).toNat)
     case atStart=>exact .inl ⟨v,4+n,[],[],none,A2,0,c2,r2,Nat.le_refl _,rfl,rfl,rfl,rfl,HK0.out,by simp,HD2.out,by rw [Hid];simp,HV2.out,HS2.out,S2.out⟩
     rcases hrel with ⟨r,k,ms,rs,D,A',dc,c',rest,hrv,rfl,rfl,rfl,rfl,hk,hmk,HRE,HML,HVW,HSU,hs⟩ | ⟨r,A',D,n',c',dn,dc,hrv,rfl,rfl,rfl,rfl,HNO,hs⟩
     · have S3:=hid hs;clear hs S2;by_cases hr0:0<r
       · obtain ⟨r,rfl⟩:∃ r',r=r'+1:=⟨r-1,by omega⟩;have S4:=hid (S3.out.newCell 33 #[.int .i64 0,.slice none 0 0]);have hvr:=HVW.out _ (S4.out.view (.tail _ (.tail _ (.tail _ HR.out))) HV.out);have S5:=hid (rs_sub S4.out (.tail _ (.tail _ (.tail _ HR.out))) hvr.1 HSU.out);have HO:=hid (readMan_any S5.out (.head _) hvr.2);clear hvr S4 S3;rename World=>wa;go_wp2_with (go_at_call 148;(with_reducible refine HO.out.mono ?_);refine halt_ ?_)
         rintro e w3 (⟨m,k1,D1,d1,A3,c3,hone,hk1,rfl,hv3,hs3,t3⟩ | ⟨hone,⟨v1,A3,n3,c3,rfl,rfl⟩,t3⟩)
         · have HON:=hid hone;have S6:=hid t3;clear hone t3 S5 HO;have m0:=(S6.out.cell 2 rfl).cell 0;have m1:=(S6.out.cell 2 rfl).cell 1;have mz:=fun o=>(S6.out.cell 2 rfl).frozen o;obtain ⟨r3,HR3⟩:∃ x,Hid (rest.drop k1=x):=⟨_,rfl⟩;rw [HR3.out] at hv3 hs3 |-; go_upto_region 10 with fail
           have S7:=hid ((S6.out.setAt 2 rfl 0 (.int .i64 m.size)).setAt 2 rfl 1 (.slice D1 m.ids.length d1));clear m0 m1 mz S6;obtain ⟨w4,HW⟩:∃ W,Hid ((w3.setCell ⟨wa.heap.size,0,none⟩ (.int .i64 m.size)).setCell ⟨wa.heap.size,1,none⟩ (.slice D1 m.ids.length d1)=W):=⟨_,rfl⟩;obtain ⟨gm,HGM⟩:∃ x,Hid (wa.heap.size=x):=⟨_,rfl⟩;rw [HW.out,HGM.out] at S7 |-; clear HW HGM;have S8:=hid (S7.out.newCell 33 #[.int .i64 m.size,.slice D1 m.ids.length d1]);have m0:=(S7.out.cell 2 rfl).cell 0;have m1:=(S7.out.cell 2 rfl).cell 1;go_wp2_with (at_builtin;(refine wpList_rowS (t:=27) (e:=33) (size:=2) (bytes:=32) (i:=im) S8.out 4 rfl (by rfl) (.tmp 35) (.tmp 37) (by rfl) Tryz.underlying27 mi mz0 mz1 mz2 rfl (by omega) (by rfl) ⟨w4.heap.size,0,none⟩ 1 [.int .i64 m.size,.slice D1 m.ids.length d1] (by rfl) rfl (fun j u hu=>by rw [lit_add,Nat.zero_add,(S8.out.cell 0 rfl).cell, <- Array.getElem?_toList];exact hu) (fun u hu=>by simp only [List.mem_cons,List.not_mem_nil,or_false] at hu;rcases hu with rfl | rfl<;>rfl) (by unfold maxLen;omega) (by omega) ?_);refine halt_ ?_)
           intro v9 w9 s9;obtain ⟨g9,c9,rfl⟩:=own_some (s9.get 4 rfl) (by omega);have S9:=hid s9;clear s9 S7 S8 m0 m1
           have HRI:Hid (SW b w0 (rowOb 33 2 (.slice (some ⟨g9,0,none⟩) (ms++[m]).length c9) (ms++[m]).length ((rs++[(⟨m.size,D1,m.ids.length,d1⟩:MR)]).flatMap encMR)::msOb (rs++[⟨m.size,D1,m.ids.length,d1⟩]) (ms++[m])::l) w9):=by
            have hl1:m.ids.length<=d1:=row_cap (S9.out.get 1 (o:=rowOb 36 2 (.slice D1 m.ids.length d1) m.ids.length (m.ids.flatMap encID)) rfl);have h1:=SW.rowRi (SW.few (pre:=[_,_,_,_,_,_]) S9.out [1,5,4] (n:=6) rfl (by decide) (by decide));have h2:=SW.fuseM (z:=m.size) (c:=d1) h1 hl1;have h3:=SW.front (pre:=[_,_]) h2 [1,0] (n:=2) rfl (by decide);rw [Hid,List.length_append,List.flatMap_append];exact h3
           have HML2:Hid (mansL bs v (4+n)=(mansL bs r (k+k1)).map (fun p=>((ms++[m])++p.1,p.2))):=by
            rw [Hid,HML.out,mansL,HRE.out,HON.out];simp [Function.comp_def]
           have HD3:Hid (bs.drop (k+k1)=r3):=by rw [Hid, <- HR3.out, <- HRE.out,List.drop_drop]
           have HKL:Hid (k+k1<=bs.length):=by
            have h1:=congrArg List.length HRE.out;rw [List.length_drop] at h1;rw [Hid];omega
           have HK1:Hid (0<k1):=oneM_pos HON.out;have HLN:Hid (ms.length+1=(ms++[m]).length):=by rw [Hid,List.length_append];rfl
           go_wp2_with fail
           go_roundw
           case rel=>exact .inl ⟨r,k+k1,ms++[m],rs++[⟨m.size,D1,m.ids.length,d1⟩],some ⟨g9,0,none⟩,A3,c9,c3,r3,by omega,by go_num,(by rfl),(by rfl),(by rw [<- HLN.out]),HKL.out,by rw [<- HLN.out];have:=HK1.out;omega,HD3.out,HML2.out,fun W h=>hv3 W (HVW.out W h),fun i hi=>HSU.out i (hs3 i hi),HRI.out⟩
           simp [intOf]
         have HNO:Hid (rdMans bs=none):=by
          have HON:=hid hone;rw [Hid,rdMans,if_pos HP.out,HR4.out,HT.out];simp only;rw [HML.out,mansL,HRE.out,HON.out];rfl
         have S6:=hid t3;clear hone t3 S5 HO;have m0:=(S6.out.cell 1 rfl).cell 0;have m1:=(S6.out.cell 1 rfl).cell 1;have mz:=fun o=>(S6.out.cell 1 rfl).frozen o;go_upto_region 10 with fail
         have S7:=hid ((S6.out.setAt 1 rfl 0 (.int .i64 0)).setAt 1 rfl 1 (.slice none 0 0));clear m0 m1 mz S6;obtain ⟨w4,HW⟩:∃ W,Hid ((w3.setCell ⟨wa.heap.size,0,none⟩ (.int .i64 0)).setCell ⟨wa.heap.size,1,none⟩ (.slice none 0 0)=W):=⟨_,rfl⟩;obtain ⟨gm,HGM⟩:∃ x,Hid (wa.heap.size=x):=⟨_,rfl⟩;rw [HW.out,HGM.out] at S7 |-; clear HW HGM;have S8:=hid (S7.out.newCell 33 #[.int .i64 0,.slice none 0 0]);have m0:=(S7.out.cell 1 rfl).cell 0;have m1:=(S7.out.cell 1 rfl).cell 1;go_wp2_with (at_builtin;(refine wpList_rowS (t:=27) (e:=33) (size:=2) (bytes:=32) (i:=im) S8.out 3 rfl (by rfl) (.tmp 35) (.tmp 37) (by rfl) Tryz.underlying27 mi mz0 mz1 mz2 rfl (by omega) (by rfl) ⟨w4.heap.size,0,none⟩ 1 [.int .i64 0,.slice none 0 0] (by rfl) rfl (fun j u hu=>by rw [lit_add,Nat.zero_add,(S8.out.cell 0 rfl).cell, <- Array.getElem?_toList];exact hu) (fun u hu=>by simp only [List.mem_cons,List.not_mem_nil,or_false] at hu;rcases hu with rfl | rfl<;>rfl) (by unfold maxLen;omega) (by omega) ?_);refine halt_ ?_)
         intro v9 w9 s9;obtain ⟨g9,c9,rfl⟩:=own_some (s9.get 3 rfl) (by omega);have S9:=hid (SW.sub s9 (.cons _ (.cons _ (.cons _ (.cons _ (.cons _ (List.Sublist.refl _)))))));clear s9 S7 S8 m0 m1;go_wp2_with fail
         go_roundw
         case rel=>exact .inr ⟨r,A3,some ⟨g9,0,none⟩,n3,c3,_,c9,by omega,by go_num,(by rfl),(by rfl),(by rfl),HNO,S9.out⟩
         simp [intOf]
       obtain rfl:r=0:=by omega
       have HYE:Hid (rdMans bs=some (ms,k)):=by
        rw [Hid,rdMans,if_pos HP.out,HR4.out,HT.out];simp only;rw [HML.out,mansL];simp
       have HRL:Hid (rest.length=bs.length-k):=by rw [Hid, <- HRE.out,List.length_drop]
       go_wp2_with fail
       go_ret3
       refine .inl ⟨ms,k,rs,D,dc,A',c',HYE.out,hk,by rw [HRL.out];rfl,?_,?_,S3.out⟩
       · rw [HRE.out];exact HVW.out
       rw [HRE.out];exact HSU.out
     have S3:=hid hs;clear hs S2;go_wp2_with fail
     go_ret3
     exact .inr ⟨HNO.out,⟨_,_,rfl⟩,S3.out⟩
   have S2:=hid (S1.out.on hb2);have HN:Hid (rdMans bs=none):=by rw [Hid,rdMans,if_pos HP.out,HR4.out,ht]
   clear hb2 S1 HU ht;go_wp2_with fail
   go_loopw [0,5,6,7] (fun s0 s5 s6 s7 wr=>s6= .int .u64 ((0:Nat):Int)/\s0= .slice none 0 0/\s5= .bool false/\s7= .slice none 0 0/\SW b w0 l wr) (fun _ _ s6 _ _=>(intOf s6).toNat)
   case atStart=>exact ⟨rfl,rfl,rfl,rfl,S2.out⟩
   obtain ⟨rfl,rfl,rfl,rfl,hs⟩:=hrel;have S3:=hid hs;clear hs S2;go_wp2_with fail
   go_ret3
   exact .inr ⟨HN.out,⟨_,_,rfl⟩,S3.out⟩
 have HN:Hid (rdMans bs=none):=by rw [Hid,rdMans,if_neg hp]
 have S1:=hid (S0.out.on hb1);clear hp hb1 S0 HM;go_wp2_with fail
 go_ret3
 exact .inr ⟨HN.out,⟨_,_,rfl⟩,S1.out⟩
end
end Go.Proofs.YtmiknfneeipkeaaGreat
