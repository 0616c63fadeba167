/- Contracts of the walk, part 24. -/
import Derived.ChangeSlices
import Derived.ProofKit
import Derived.Deep.SlicePairs
import Derived.Test.YtmiknfneeipkeaaGreatS23
import Derived.Test.YtmiknfneeipkeaaGreatS16
import Derived.Test.YtmiknfneeipkeaaGreatS02
import Derived.Test.YtmiknfneeipkeaaGreatS12
import Derived.Test.YtmiknfneeipkeaaGreatS04
import Derived.Test.YtmiknfneeipkeaaGreatS19
open Go.Lib (hid)
namespace Go.Proofs.YtmiknfneeipkeaaGreat
open Go.RowKit Go.MapKept Go.ChangeMaps Go.Shelf Go.Sort
attribute [local go_sem] wext_cell
def numD (bs:List UInt8) (at_:Nat) (f:Bool) (most:Nat):Nat×Nat×Bool:=
 if f=true then (0,at_,true) else match takeU 0 0 (bs.drop at_) with
 | some (v,n)=>if most<v then (0,at_,true) else (v,at_+n,false)
 | none=>(0,at_,true)
theorem numD_at (bs:List UInt8) (a:Nat) (f:Bool) (most:Nat) (h:a<=bs.length):(numD bs a f most).2.1<=bs.length/\(numD bs a f most).1<=most/\a<=(numD bs a f most).2.1:=by
 unfold numD;split
 · exact ⟨h,Nat.zero_le _,Nat.le_refl _⟩
 split
 · rename_i v n e
   have:=takeU_le _ _ _ _ _ e;rw [List.length_drop] at this;split
   · exact ⟨h,Nat.zero_le _,Nat.le_refl _⟩
   exact ⟨by simp only;omega,by simp only;omega,by simp only;omega⟩
 exact ⟨h,Nat.zero_le _,Nat.le_refl _⟩
section
variable {b:Nat} {w0 w w':World} {l:List Ob}
set_option maxRecDepth 100000 in
set_option maxHeartbeats 4000000 in
theorem number_any {A:Option Addr} {c:Nat} {bs:List UInt8} {ga gf gb k:Nat} {f:Bool} (h:SW b w0 (cellOb ga 3 #[.int .i64 (k:Int)]::cellOb gf 4 #[.bool f]::cellOb gb 40 #[.slice A bs.length c]::l) w) (hr:rsOb A bs∈l) (hA:A=none->c=0) (hc:bs.length<=c) (hc2:bs.length<=9223372036854775807) (hk:k<=bs.length) (most:Nat):
 Calls Tryz.prog 221 #[.int .u64 (most:Int),vPtr gb,vPtr ga,vPtr gf] w (fun e w'=>e= .returned (.int .u64 ((numD bs k f most).1:Int))/\SW b w0 (cellOb ga 3 #[.int .i64 ((numD bs k f most).2.1:Int)]::cellOb gf 4 #[.bool (numD bs k f most).2.2]::cellOb gb 40 #[.slice A bs.length c]::l) w'):=by
 have S0:=hid h;have hR:RS w A bs:=h.1.holds (rsOb A bs) (.tail _ (.tail _ (.tail _ hr)));have HU:=hid (codecUint_any A c bs k w hR hA hc hc2 hk);have a0:=(h.cell 0 rfl).cell 0;have f0:=(h.cell 1 rfl).cell 0;have b0:=(h.cell 2 rfl).cell 0;have az:=fun o=>(h.cell 0 rfl).frozen o;have fz:=fun o=>(h.cell 1 rfl).frozen o;clear h hR;go_enter Tryz.func221,Tryz.ntmps221;go_wp2_with (go_at_call 193;(with_reducible refine HU.out.mono ?_);refine halt_ ?_)
 rintro e w1 ⟨rfl,hu⟩;cases f with
 | true=>
  have HN:Hid (numD bs k true most=(0,k,true)):=by rw [Hid,numD,if_pos rfl]
  rcases hu with ⟨v,n,ht,rfl⟩ | ⟨ht,q,hq,rfl⟩
  · have S1:=hid (S0.out.setAt 1 rfl 0 (.bool true));clear ht HU S0;go_wp2_with fail
    go_ret;exact ⟨by rw [HN.out];rfl,by rw [HN.out];exact S1.out⟩
  have S1:=hid (S0.out.setAt 1 rfl 0 (.bool true));clear ht hq HU S0;go_wp2_with fail
  go_ret;exact ⟨by rw [HN.out];rfl,by rw [HN.out];exact S1.out⟩
 | false=>
  rcases hu with ⟨v,n,ht,rfl⟩ | ⟨ht,q,hq,rfl⟩
  · have hn:=takeU_le _ _ _ _ _ ht;by_cases hm:most<v
    · have HN:Hid (numD bs k false most=(0,k,true)):=by rw [Hid,numD,if_neg (by simp),ht];simp only;rw [if_pos hm]
      have S1:=hid (S0.out.setAt 1 rfl 0 (.bool true));have hmi:(most:Int)<(v:Int):=by omega
      have hmd:decide ((most:Int)<(v:Int))=true:=decide_eq_true hmi;have hmd2:decide (most<v)=true:=decide_eq_true hm;clear ht HU S0 hn;go_wp2_with fail
      go_ret;exact ⟨by rw [HN.out];rfl,by rw [HN.out];exact S1.out⟩
    have HN:Hid (numD bs k false most=(v,k+n,false)):=by rw [Hid,numD,if_neg (by simp),ht];simp only;rw [if_neg hm]
    have SA:=hid (S0.out.setAt 1 rfl 0 (.bool false));have a1:=(SA.out.cell 0 rfl).cell 0;have az1:=fun o=>(SA.out.cell 0 rfl).frozen o;have f1:=(SA.out.cell 1 rfl).cell 0;have S1:=hid ((S0.out.setAt 1 rfl 0 (.bool false)).setAt 0 rfl 0 (.int .i64 ((k+n:Nat):Int)));have hmd:decide ((most:Int)<(v:Int))=false:=decide_eq_false (by omega);have hmd2:decide (most<v)=false:=decide_eq_false hm;clear ht HU S0 hn;go_wp2_with fail
    go_ret;exact ⟨by rw [HN.out];rfl,by rw [HN.out];exact S1.out⟩
  have HN:Hid (numD bs k false most=(0,k,true)):=by rw [Hid,numD,if_neg (by simp),ht]
  have S1:=hid (S0.out.setAt 1 rfl 0 (.bool true));have hqn:(q !=0)=true:=by rw [bne_iff_ne];exact hq
  clear ht hq HU S0;go_wp2_with fail
  go_ret;exact ⟨by rw [HN.out];rfl,by rw [HN.out];exact S1.out⟩
end
end Go.Proofs.YtmiknfneeipkeaaGreat
namespace Go.Proofs.YtmiknfneeipkeaaGreat
open Go.RowKit Go.MapKept Go.ChangeMaps Go.Shelf Go.Sort
attribute [local go_sem] wext_cell
theorem numD_fail {bs:List UInt8} {a:Nat} {f:Bool} {most v a':Nat} (h:numD bs a f most=(v,a',true)):v=0:=by
 unfold numD at h;split at h
 · injection h with h _;exact h.symm
 split at h
 · split at h
   · injection h with h _;exact h.symm
   injection h with _ h;injection h with _ h;cases h
 injection h with h _;exact h.symm
def stepD (bs:List UInt8) (st:List ID×Nat×Bool):List ID×Nat×Bool:=
 if st.2.2=true then st else
  if (numD bs (numD bs st.2.1 false 8192).2.1 (numD bs st.2.1 false 8192).2.2 2305843009213693951).2.2=true then (st.1,(numD bs (numD bs st.2.1 false 8192).2.1 (numD bs st.2.1 false 8192).2.2 2305843009213693951).2.1,true)
  else (st.1++[(((numD bs (numD bs st.2.1 false 8192).2.1 (numD bs st.2.1 false 8192).2.2 2305843009213693951).1:Int),((numD bs st.2.1 false 8192).1:Int))],(numD bs (numD bs st.2.1 false 8192).2.1 (numD bs st.2.1 false 8192).2.2 2305843009213693951).2.1,false)
def idsD (bs:List UInt8) (st:List ID×Nat×Bool):Nat->List ID×Nat×Bool
 | 0=>st
 | n+1=>stepD bs (idsD bs st n)
theorem idsD_stuck (bs:List UInt8) {st:List ID×Nat×Bool} {k:Nat} (h:(idsD bs st k).2.2=true):∀ n,k<=n->idsD bs st n=idsD bs st k:=by
 intro n;induction n with
 | zero=>
  intro hk;obtain rfl:k=0:=by omega
  rfl
 | succ n ih=>
  intro hk;rcases Nat.eq_or_lt_of_le hk with e | hlt
  · rw [e]
  have h1:=ih (by omega);rw [idsD,h1,stepD,if_pos h]
def headD (bs:List UInt8):Nat×Nat×Bool:=numD bs 0 false 1048576
def cntD (bs:List UInt8):Nat×Nat×Bool:=numD bs (headD bs).2.1 (headD bs).2.2 1024
def allD (bs:List UInt8):List ID×Nat×Bool:=idsD bs ([],(cntD bs).2.1,(cntD bs).2.2) (cntD bs).1
def decM (bs:List UInt8):Option Man:=if (allD bs).2.2=true∨(allD bs).2.1≠bs.length∨manE ⟨((headD bs).1:Int),(allD bs).1⟩≠0 then none else some ⟨((headD bs).1:Int),(allD bs).1⟩
theorem row_rdI {w:World} {D:Option Addr} {ids:List ID} {q dc:Nat} (hr:w.ownsRow 0 36 2 (.slice D q dc) q (ids.flatMap encID)) (hq:ids.length=q):RdID w w.heap.size D ids:=by
 intro hp;have hx:∀ g,D=some ⟨g,0,none⟩->g<w.heap.size:=fun g e=>(hr.lt g (by rw [e];rfl)).2;rcases hr.2 with ⟨hv,h0⟩ | ⟨g,cap,cur,hv,_⟩
 · omega
 injection hv with e1 e2 e3;subst e1;subst e3;refine ⟨g,0,rfl,hx g rfl,by have:=hx g rfl;omega,fun j hj i v hi=>?_⟩
 have hi2:i<2:=by
  have:=(List.getElem?_eq_some_iff.1 hi).1;rwa [encID_len] at this
 rw [Nat.zero_add,hr.cellAt (j*2+i) (by rw [<- hq];omega),flat_at encID_len (0,0) ids j i hj hi2];exact hi
section
variable {b:Nat} {w0 w w':World} {l:List Ob}
theorem number_z {A:Option Addr} {c:Nat} {bs:List UInt8} {ga gf gb k:Nat} {f:Bool} (h:SW b w0 (cellOb ga 3 #[.int .i64 (k:Int)]::cellOb gf 4 #[.bool f]::cellOb gb 40 #[.slice A bs.length c]::l) w) (hr:rsOb A bs∈l) (hA:A=none->c=0) (hc:bs.length<=c) (hc2:bs.length<=9223372036854775807) (hk:k<=bs.length) (most:Nat) (z:Int) (hz:((most:Nat):Int)=z) {v a:Nat} {g:Bool} (he:numD bs k f most=(v,a,g)):
 Calls Tryz.prog 221 #[.int .u64 z,vPtr gb,vPtr ga,vPtr gf] w (fun e w'=>e= .returned (.int .u64 (v:Int))/\SW b w0 (cellOb ga 3 #[.int .i64 (a:Int)]::cellOb gf 4 #[.bool g]::cellOb gb 40 #[.slice A bs.length c]::l) w'):=by
 subst hz;have:=number_any h hr hA hc hc2 hk most;rw [he] at this;exact this
abbrev DecP (bs:List UInt8) (b:Nat) (w0:World) (l:List Ob) (e:Ending) (w':World):Prop:=
 (∃ m D c,decM bs=some m/\e= .returned (.tuple #[.agg #[.int .i64 m.size,.slice D m.ids.length c],.int .i64 0])/\SW b w0 (rowOb 36 2 (.slice D m.ids.length c) m.ids.length (m.ids.flatMap encID)::l) w')∨
 (decM bs=none/\e= .returned (.tuple #[.agg #[.int .i64 0,.slice none 0 0],.int .i64 256])/\SW b w0 l w')
set_option maxRecDepth 100000 in
set_option maxHeartbeats 8000000 in
theorem manDec_any (h:SW b w0 l w) {A:Option Addr} {c:Nat} {bs:List UInt8} (hr:rsOb A bs∈l) (hA:A=none->c=0) (hc:bs.length<=c) (hc2:bs.length<=9223372036854775807):
 Calls Tryz.prog 194 #[.slice A bs.length c] w (DecP bs b w0 l):=by
 have HR:=hid hr;have S0:=hid ((((h.newCell 40 #[.slice A bs.length c]).newCellAt 33 #[.int .i64 0,.slice none 0 0] (H:=w.heap.size+1) (by simp)).newCellAt 3 #[.int .i64 0] (H:=w.heap.size+1+1) (by simp)).newCellAt 4 #[.bool false] (H:=w.heap.size+1+1+1) (by simp));clear h hr;go_enter Tryz.func194,Tryz.ntmps194;go_upto_region 4 with fail
 obtain ⟨w1,HW⟩:∃ W,Hid ((((w.alloc (.cells #[.slice A bs.length c] 40)).alloc (.cells #[.int .i64 0,.slice none 0 0] 33)).alloc (.cells #[.int .i64 0] 3)).alloc (.cells #[.bool false] 4)=W):=⟨_,rfl⟩;obtain ⟨gb,HGB⟩:∃ x,Hid (w.heap.size=x):=⟨_,rfl⟩;rw [HW.out,HGB.out] at S0 |-; clear HW HGB;obtain ⟨s1,s2,s3,HS⟩:∃ a b c,Hid (headD bs=(a,b,c)):=⟨_,_,_,rfl⟩;have S1:Hid (SW b w0 (cellOb (gb+1+1) 3 #[.int .i64 ((0:Nat):Int)]::cellOb (gb+1+1+1) 4 #[.bool false]::cellOb gb 40 #[.slice A bs.length c]::cellOb (gb+1) 33 #[.int .i64 0,.slice none 0 0]::l) w1):=SW.front (pre:=[_,_,_,_]) S0.out [1,0,3,2] (n:=4) rfl (by decide);have HN1:=hid (number_z S1.out (.tail _ HR.out) hA hc hc2 (Nat.zero_le _) 1048576 1048576 rfl (show numD bs 0 false 1048576=(s1,s2,s3) from HS.out));have h1b:=numD_at bs 0 false 1048576 (Nat.zero_le _);rw [show numD bs 0 false 1048576=(s1,s2,s3) from HS.out] at h1b;simp only at h1b;clear S0 S1;go_wp2_with (go_at_call 221;(with_reducible refine HN1.out.mono ?_);refine halt_ ?_)
 rintro e w2 ⟨rfl,t2⟩;obtain ⟨hs2,hs1,_⟩:=h1b;have S2:=hid (t2.newCell 33 #[.int .i64 (s1:Int),.slice none 0 0]);clear t2 HN1;go_upto_region 5 with fail
 obtain ⟨w3,HW⟩:∃ W,Hid (w2.alloc (.cells #[.int .i64 (s1:Int),.slice none 0 0] 33)=W):=⟨_,rfl⟩;obtain ⟨gm,HGM⟩:∃ x,Hid (w2.heap.size=x):=⟨_,rfl⟩;rw [HW.out,HGM.out] at S2 |-; clear HW HGM;obtain ⟨n1,n2,n3,HC⟩:∃ a b c,Hid (cntD bs=(a,b,c)):=⟨_,_,_,rfl⟩;have S3:Hid (SW b w0 (cellOb (gb+1+1) 3 #[.int .i64 (s2:Int)]::cellOb (gb+1+1+1) 4 #[.bool s3]::cellOb gb 40 #[.slice A bs.length c]::cellOb gm 33 #[.int .i64 (s1:Int),.slice none 0 0]::cellOb (gb+1) 33 #[.int .i64 0,.slice none 0 0]::l) w3):=SW.front (pre:=[_,_,_,_]) S2.out [1,2,3,0] (n:=4) rfl (by decide);have hcn:numD bs s2 s3 1024=(n1,n2,n3):=by have:=HC.out;rw [cntD,HS.out] at this;exact this
 have HN2:=hid (number_z S3.out (.tail _ (.tail _ HR.out)) hA hc hc2 hs2 1024 1024 rfl hcn);have h2b:=numD_at bs s2 s3 1024 hs2;rw [hcn] at h2b;simp only at h2b;clear S2 S3 hcn;go_wp2_with (go_at_call 221;(with_reducible refine HN2.out.mono ?_);refine halt_ ?_)
 rintro e w4 ⟨rfl,t4⟩;obtain ⟨hn2,hn1,_⟩:=h2b;have S4:Hid (SW b w0 (cellOb (gb+1+1) 3 #[.int .i64 (n2:Int)]::cellOb (gb+1+1+1) 4 #[.bool n3]::cellOb gb 40 #[.slice A bs.length c]::cellOb gm 33 #[.int .i64 (s1:Int),.slice none 0 0]::cellOb (gb+1) 33 #[.int .i64 0,.slice none 0 0]::rowOb 36 2 (.slice none 0 0) 0 []::l) w4):=SW.front (pre:=[_,_,_,_,_,_]) (t4.newRow 36 2) [1,2,3,4,5,0] (n:=6) rfl (by decide);clear t4 HN2;go_wp2_with fail
 have hf0:n3=true->n1=0:=fun e=>by
  subst e;have:=HC.out;rw [cntD,HS.out] at this;exact numD_fail this
 have HF0:=hid hf0;clear hf0;obtain ⟨i1,gi,gz0,gz1,gz2⟩:=info_parts info36;go_loopw [16] (fun s16 wr=>∃ (i a:Nat) (ids:List ID) (D:Option Addr) (dc:Nat),i<=n1/\s16= .int .u64 (i:Int)/\a<=bs.length/\ids.length<=i/\Hid (idsD bs ([],n2,n3) i=(ids,a,n3))/\SW b w0 (cellOb (gb+1+1) 3 #[.int .i64 (a:Int)]::cellOb (gb+1+1+1) 4 #[.bool n3]::cellOb gb 40 #[.slice A bs.length c]::cellOb gm 33 #[.int .i64 (s1:Int),.slice D ids.length dc]::cellOb (gb+1) 33 #[.int .i64 0,.slice none 0 0]::rowOb 36 2 (.slice D ids.length dc) ids.length (ids.flatMap encID)::l) wr) (fun s16 _=>n1-(intOf s16).toNat)
 case atStart=>exact ⟨0,n2,[],none,0,Nat.zero_le _,rfl,hn2,Nat.le_refl _,rfl,S4.out⟩
 obtain ⟨i,a,ids,D,dc,hi,rfl,ha,hil,HI,hs⟩:=hrel;have S5:=hid hs;clear hs S4;by_cases hlt:i<n1
 · have hn3:n3=false:=by
    cases n3 with
    | false=>rfl
    | true=>have:=HF0.out rfl;omega
   subst hn3;obtain ⟨k1,k2,k3,hk⟩:∃ x y z,numD bs a false 8192=(x,y,z):=⟨_,_,_,rfl⟩;obtain ⟨q1,q2,q3,hq⟩:∃ x y z,numD bs k2 k3 2305843009213693951=(x,y,z):=⟨_,_,_,rfl⟩;have hb1:=numD_at bs a false 8192 ha;rw [hk] at hb1;simp only at hb1;have hb2:=numD_at bs k2 k3 2305843009213693951 hb1.1;rw [hq] at hb2;simp only at hb2
   have HST:Hid (idsD bs ([],n2,false) (i+1)=if q3=true then (ids,q2,true) else (ids++[((q1:Int),(k1:Int))],q2,false)):=by
    rw [Hid,idsD,HI.out,stepD,if_neg (by simp)];simp only [hk,hq]
   have HN3:=hid (number_z S5.out (.tail _ (.tail _ (.tail _ HR.out))) hA hc hc2 ha 8192 8192 rfl hk);obtain ⟨hb3,hb4,_⟩:=hb1;obtain ⟨hb5,hb6,_⟩:=hb2;have HQ:=hid hq;clear S5 hk hq;go_wp2_with (go_at_call 221;(with_reducible refine HN3.out.mono ?_);refine halt_ ?_)
   rintro e w5 ⟨rfl,t5⟩;have HN4:=hid (number_z t5 (.tail _ (.tail _ (.tail _ HR.out))) hA hc hc2 hb3 2305843009213693951 2305843009213693951 rfl HQ.out);clear t5 HN3;go_wp2_with (go_at_call 221;(with_reducible refine HN4.out.mono ?_);refine halt_ ?_)
   rintro e w6 ⟨rfl,t6⟩;have S6:=hid (t6.newCell 36 #[.int .u64 (q1:Int),.int .i64 (k1:Int)]);clear t6 HN4;go_upto_region 8 with fail
   obtain ⟨w7,HW⟩:∃ W,Hid (w6.alloc (.cells #[.int .u64 (q1:Int),.int .i64 (k1:Int)] 36)=W):=⟨_,rfl⟩;obtain ⟨gi2,HGI⟩:∃ x,Hid (w6.heap.size=x):=⟨_,rfl⟩;rw [HW.out,HGI.out] at S6 |-; clear HW HGI;have f0:=(S6.out.cell 2 rfl).cell 0;cases q3 with
   | true=>
    have HDN:Hid (decM bs=none):=by
     rw [Hid,decM,if_pos];refine .inl ?_;have h1:idsD bs ([],n2,false) (i+1)=(ids,q2,true):=by rw [HST.out,if_pos rfl]
     rw [allD,HC.out,idsD_stuck bs (k:=i+1) (by rw [h1]) n1 (by omega),h1]
    have S:=hid S6.out.tail;have r0:=(S.out.cell 4 rfl).cell 0;have r1:=(S.out.cell 4 rfl).cell 1;have rz:=fun o=>(S.out.cell 4 rfl).frozen o;clear S6;go_wp2_with fail
    have S9:=hid ((S.out.setAt 4 rfl 0 (.int .i64 0)).setAt 4 rfl 1 (.slice none 0 0));have e0:=(S9.out.cell 4 rfl).cell 0;have e1:=(S9.out.cell 4 rfl).cell 1;refine bodyPost_ret (v:=.tuple #[.agg #[.int .i64 0,.slice none 0 0],.int .i64 256]) (by simp [results,Tryz.results194,go_sem,e0,e1,Result.andThen]) rfl ?_;exact .inr ⟨HDN.out,rfl,S9.out.tail.tail.tail.tail.tail.tail⟩
   | false=>
    have a0:=(S6.out.cell 4 rfl).cell 1;have i0:=(S6.out.cell 0 rfl).cell 0;have i2:=(S6.out.cell 0 rfl).cell 1;have S7:=hid (S6.out.newCell 36 #[.int .u64 (q1:Int),.int .i64 (k1:Int)]);go_wp2_with (at_builtin;(refine wpList_rowS (t:=31) (e:=36) (size:=2) (bytes:=16) (i:=i1) S7.out 7 rfl (by rfl) (.tmp 26) (.tmp 28) (by rfl) Tryz.underlying31 gi gz0 gz1 gz2 rfl (by omega) (by rfl) ⟨w7.heap.size,0,none⟩ 1 [.int .u64 (q1:Int),.int .i64 (k1:Int)] (by rfl) rfl (two_new _ _ _ _ _ (by simp)) (encID_one ((q1:Int),(k1:Int))) (by unfold maxLen;omega) (by omega) ?_);refine halt_ ?_)
    intro v8 w8 s8;obtain ⟨g8,c8,rfl⟩:=own_some (s8.get 7 rfl) (by omega);have S8:=hid s8;have m0:=(S8.out.cell 5 rfl).cell 1;have mz:=fun o=>(S8.out.cell 5 rfl).frozen o
    have S9:Hid (SW b w0 (cellOb (gb+1+1) 3 #[.int .i64 (q2:Int)]::cellOb (gb+1+1+1) 4 #[.bool false]::cellOb gb 40 #[.slice A bs.length c]::cellOb gm 33 #[.int .i64 (s1:Int),.slice (some ⟨g8,0,none⟩) (ids++[((q1:Int),(k1:Int))]).length c8]::cellOb (gb+1) 33 #[.int .i64 0,.slice none 0 0]::rowOb 36 2 (.slice (some ⟨g8,0,none⟩) (ids++[((q1:Int),(k1:Int))]).length c8) (ids++[((q1:Int),(k1:Int))]).length ((ids++[((q1:Int),(k1:Int))]).flatMap encID)::l) (w8.setCell ⟨gm,1,none⟩ (.slice (some ⟨g8,0,none⟩) (ids.length+1) c8))):=by
     have h1:=(S8.out.setAt 5 rfl 1 (.slice (some ⟨g8,0,none⟩) (ids.length+1) c8)).tail.tail;rw [Hid,List.length_append,List.flatMap_append];exact h1
    have HI2:Hid (idsD bs ([],n2,false) (i+1)=(ids++[((q1:Int),(k1:Int))],q2,false)):=by rw [Hid,HST.out,if_neg (by simp)]
    have HLN:Hid (ids.length+1=(ids++[((q1:Int),(k1:Int))]).length):=by rw [Hid,List.length_append];rfl
    clear s8 S6 S7 S8 a0 i0 i2 f0;go_wp2_with fail
    go_roundw
    case rel=>exact ⟨i+1,q2,ids++[((q1:Int),(k1:Int))],some ⟨g8,0,none⟩,c8,by omega,by go_num,hb5,by rw [<- HLN.out];omega,HI2,S9.out⟩
    simp [intOf];omega
 obtain rfl:i=n1:=by omega
 have HAL:Hid (allD bs=(ids,a,n3)):=by rw [Hid,allD,HC.out];exact HI.out
 have HHD:Hid ((headD bs).1=s1):=by rw [Hid,HS.out]
 have S:=hid S5.out;have r0:=(S.out.cell 4 rfl).cell 0;have r1:=(S.out.cell 4 rfl).cell 1;have rz:=fun o=>(S.out.cell 4 rfl).frozen o;have f0:=(S.out.cell 1 rfl).cell 0;have a0:=(S.out.cell 0 rfl).cell 0;have b0:=(S.out.cell 2 rfl).cell 0;have m0:=(S.out.cell 3 rfl).cell 0;have m1:=(S.out.cell 3 rfl).cell 1;clear S5;cases n3 with
 | true=>
  have HDN:Hid (decM bs=none):=by
   rw [Hid,decM,HAL.out,if_pos (.inl rfl)]
  go_wp2_with fail
  have S9:=hid ((S.out.setAt 4 rfl 0 (.int .i64 0)).setAt 4 rfl 1 (.slice none 0 0));have e0:=(S9.out.cell 4 rfl).cell 0;have e1:=(S9.out.cell 4 rfl).cell 1;refine bodyPost_ret (v:=.tuple #[.agg #[.int .i64 0,.slice none 0 0],.int .i64 256]) (by simp [results,Tryz.results194,go_sem,e0,e1,Result.andThen]) rfl ?_;exact .inr ⟨HDN.out,rfl,S9.out.tail.tail.tail.tail.tail.tail⟩
 | false=>
  by_cases hab:a=bs.length
  · have hbe:((a:Int) !=(bs.length:Int))=false:=by rw [bne_eq_false_iff_eq];omega
    have hbe2:(a !=bs.length)=false:=by rw [bne_eq_false_iff_eq];exact hab
    have HAB:=hid hab;have hidl:ids.length<=1024:=by omega
    have HCK:=hid (manCheck_any _ ⟨(s1:Int),ids⟩ D dc wr (row_rdI (S.out.get 5 rfl) rfl) (by simp only;omega));clear hab;have S1:=S;clear r0 r1 rz;go_wp2_with (go_at_call 74;(with_reducible refine HCK.out.mono ?_);refine halt_ ?_)
    rintro e w9 ⟨rfl,hb9⟩;have S:=hid (S1.out.on hb9);clear hb9 S1 HCK f0 a0 b0 m0 m1;have r0:=(S.out.cell 4 rfl).cell 0;have r1:=(S.out.cell 4 rfl).cell 1;have rz:=fun o=>(S.out.cell 4 rfl).frozen o;have m0:=(S.out.cell 3 rfl).cell 0;have m1:=(S.out.cell 3 rfl).cell 1;by_cases hE:manE ⟨(s1:Int),ids⟩=0
    · have HD:Hid (decM bs=some ⟨(s1:Int),ids⟩):=by
       rw [Hid,decM,HAL.out,HHD.out,if_neg];rintro (h | h | h)
       · cases h
       · exact h HAB.out
       exact h hE
      rw [hE];have S9:=hid ((S.out.setAt 4 rfl 0 (.int .i64 (s1:Int))).setAt 4 rfl 1 (.slice D ids.length dc));have e0:=(S9.out.cell 4 rfl).cell 0;have e1:=(S9.out.cell 4 rfl).cell 1;have SL:=hid S9.out.tail.tail.tail.tail.tail;clear S S9 hE;go_wp2_with fail
      refine bodyPost_ret (v:=.tuple #[.agg #[.int .i64 (s1:Int),.slice D ids.length dc],.int .i64 0]) (by simp [results,Tryz.results194,go_sem,e0,e1,Result.andThen]) rfl ?_;exact .inl ⟨⟨(s1:Int),ids⟩,D,dc,HD.out,rfl,SL.out⟩
    have HDN:Hid (decM bs=none):=by
     rw [Hid,decM,HAL.out,HHD.out,if_pos (.inr (.inr hE))]
    have hEn:(manE ⟨(s1:Int),ids⟩ !=0)=true:=by rw [bne_iff_ne];exact hE
    clear hE;go_wp2_with fail
    have S9:=hid ((S.out.setAt 4 rfl 0 (.int .i64 0)).setAt 4 rfl 1 (.slice none 0 0));have e0:=(S9.out.cell 4 rfl).cell 0;have e1:=(S9.out.cell 4 rfl).cell 1;refine bodyPost_ret (v:=.tuple #[.agg #[.int .i64 0,.slice none 0 0],.int .i64 256]) (by simp [results,Tryz.results194,go_sem,e0,e1,Result.andThen]) rfl ?_;exact .inr ⟨HDN.out,rfl,S9.out.tail.tail.tail.tail.tail.tail⟩
  have hbe:((a:Int) !=(bs.length:Int))=true:=by rw [bne_iff_ne];omega
  have HDN:Hid (decM bs=none):=by
   rw [Hid,decM,HAL.out,if_pos (.inr (.inl hab))]
  clear hab;go_wp2_with fail
  have S9:=hid ((S.out.setAt 4 rfl 0 (.int .i64 0)).setAt 4 rfl 1 (.slice none 0 0));have e0:=(S9.out.cell 4 rfl).cell 0;have e1:=(S9.out.cell 4 rfl).cell 1;refine bodyPost_ret (v:=.tuple #[.agg #[.int .i64 0,.slice none 0 0],.int .i64 256]) (by simp [results,Tryz.results194,go_sem,e0,e1,Result.andThen]) rfl ?_;exact .inr ⟨HDN.out,rfl,S9.out.tail.tail.tail.tail.tail.tail⟩
end
end Go.Proofs.YtmiknfneeipkeaaGreat
namespace Go.Proofs.YtmiknfneeipkeaaGreat
open Go.RowKit Go.MapKept Go.ChangeMaps Go.Shelf Go.Sort
attribute [local go_sem] wext_cell
def oneM (bs:List UInt8):Option (Man×Nat):=
 match takeU 0 0 bs with
 | some (v,n)=>if (bs.drop n).length<v then none else (decM ((bs.drop n).take v)).map (fun m=>(m,n+v))
 | none=>none
section
variable {b:Nat} {w0 w w':World} {l:List Ob}
theorem SW.view {A:Option Addr} {c:Nat} {bs:List UInt8} (h:SW b w0 l w) (hr:rsOb A bs∈l) (hv:(A=none->c=0)/\bs.length<=c/\bs.length<=9223372036854775807):Vw w A c bs:=⟨h.1.holds _ hr,hv⟩
theorem rs_sub {A A':Option Addr} {bs bs':List UInt8} (h:SW b w0 l w) (hr:rsOb A bs∈l) (hh:RS w A' bs') (hs:∀ i,(rsOb A' bs').rd i->(rsOb A bs).rd i):SW b w0 (rsOb A' bs'::l) w:=
 SW.again (o':=rsOb A' bs') h hr (fun _ h=>h) hh (fun _ h=>h) hs
theorem cutA_rd {A:Option Addr} {c k i:Nat} {bs:List UInt8} (h:(rsOb (cutA A k c) (bs.drop k)).rd i) (hk:k<=bs.length):(rsOb A bs).rd i:=by
 obtain ⟨hp,o,e⟩:=h;rw [List.length_drop] at hp;unfold cutA at e;split at e
 · exact ⟨by omega,o,e⟩
 cases A with
 | none=>cases e
 | some ad=>
  injection e with e;injection e with e1 e2 e3;obtain ⟨g,o2,sp⟩:=ad;simp only at e1 e2 e3;subst e1 e3;exact ⟨by omega,o2,rfl⟩
abbrev OneP (A:Option Addr) (c:Nat) (bs:List UInt8) (b:Nat) (w0:World) (l:List Ob) (e:Ending) (w':World):Prop:=
 (∃ m k D dc A' c',oneM bs=some (m,k)/\k<=bs.length/\e= .returned (.tuple #[.agg #[.int .i64 m.size,.slice D m.ids.length dc],.slice A' (bs.drop k).length c',.bool true])/\(∀ W,Vw W A c bs->Vw W A' c' (bs.drop k))/\(∀ i,(rsOb A' (bs.drop k)).rd i->(rsOb A bs).rd i)/\SW b w0 (rowOb 36 2 (.slice D m.ids.length dc) m.ids.length (m.ids.flatMap encID)::l) w')∨
 (oneM bs=none/\(∃ v1 A' n' c',e= .returned (.tuple #[v1,.slice A' n' c',.bool false])/\v1= .agg #[.int .i64 0,.slice none 0 0])/\SW b w0 l w')
set_option maxRecDepth 100000 in
set_option maxHeartbeats 8000000 in
theorem readMan_any (h:SW b w0 l w) {A:Option Addr} {c:Nat} {bs:List UInt8} (hr:rsOb A bs∈l) (hv:(A=none->c=0)/\bs.length<=c/\bs.length<=9223372036854775807):
 Calls Tryz.prog 148 #[.slice A bs.length c] w (OneP A c bs b w0 l):=by
 have HR:=hid hr;have HV:=hid hv;have S0:=hid (h.newCell 33 #[.int .i64 0,.slice none 0 0]);have HU:=hid (readUint_any A c bs _ (S0.out.view (.tail _ hr) hv));clear h hr hv;go_enter Tryz.func148,Tryz.ntmps148;go_wp2_with (go_at_call 147;(with_reducible refine HU.out.mono ?_);refine halt_ ?_)
 rintro e w1 ⟨hb1,⟨v,n,ht,hn,rfl⟩ | ⟨ht,rfl⟩⟩
 · have S1:=hid (S0.out.on hb1);have HT:=hid ht;have hn0:=takeU_le _ _ _ _ _ ht
   have HA:Hid (∃ g o,A=some ⟨g,o,none⟩):=by
    have h1:=S1.out.1.holds (rsOb A bs) (.tail _ HR.out);cases A with
    | none=>have:=h1.1 rfl;omega
    | some ad=>
     obtain ⟨g,o,rfl,_⟩:=h1.2 ad rfl (by omega);exact ⟨g,o,rfl⟩
   obtain ⟨g,o2,HB⟩:∃ g o2,Hid (cutA A n c=some ⟨g,o2,none⟩):=by
    obtain ⟨g,o,rfl⟩:=HA.out;by_cases h:c=n
    · exact ⟨g,o,if_pos h⟩
    exact ⟨g,o+n,if_neg h⟩
   have HVD:Hid (∀ W,Vw W A c bs->Vw W (some ⟨g,o2,none⟩) (c-n) (bs.drop n)):=fun W h=>by rw [<- HB.out];exact h.drop n hn
   have S2:Hid (SW b w0 (rsOb (some ⟨g,o2,none⟩) (bs.drop n)::cellOb w.heap.size 33 #[.int .i64 0,.slice none 0 0]::l) w1):=by
    have h1:=rs_sub S1.out (.tail _ HR.out) (HVD.out w1 (S1.out.view (.tail _ HR.out) HV.out)).1 (fun i hi=>by
     rw [<- HB.out] at hi;exact cutA_rd hi hn)
    exact h1
   have hvv:=(HVD.out w1 (S1.out.view (.tail _ HR.out) HV.out)).2;obtain ⟨rest,HRE⟩:∃ x,Hid (bs.drop n=x):=⟨_,rfl⟩;obtain ⟨cB,HCB⟩:∃ x,Hid (c-n=x):=⟨_,rfl⟩;rw [HB.out];rw [HRE.out] at S2 hvv |-; rw [HCB.out] at hvv |-; obtain ⟨_,hv2,hv3⟩:=hvv;clear hb1 S0 HU S1 ht hn0;by_cases hsz:rest.length<v
   · have HN:Hid (oneM bs=none):=by rw [Hid,oneM,HT.out];simp only;rw [HRE.out,if_pos hsz]
     have hszd:decide (rest.length<v)=true:=decide_eq_true hsz;have hszi:decide ((rest.length:Int)<(v:Int))=true:=decide_eq_true (by omega);have S3:=hid S2.out.tail;have r0:=(S3.out.cell 0 rfl).cell 0;have r1:=(S3.out.cell 0 rfl).cell 1;have rz:=fun o=>(S3.out.cell 0 rfl).frozen o;clear S2;go_wp2_with fail
     have S9:=hid ((S3.out.setAt 0 rfl 0 (.int .i64 0)).setAt 0 rfl 1 (.slice none 0 0));have e0:=(S9.out.cell 0 rfl).cell 0;have e1:=(S9.out.cell 0 rfl).cell 1;refine bodyPost_ret (v:=.tuple #[.agg #[.int .i64 0,.slice none 0 0],.slice none 0 0,.bool false]) (by simp [results,Tryz.results148,go_sem,e0,e1,Result.andThen]) rfl ?_;exact .inr ⟨HN.out,⟨_,none,0,0,rfl,rfl⟩,S9.out.tail⟩
   have hszd:decide (rest.length<v)=false:=decide_eq_false hsz;have hszi:decide ((rest.length:Int)<(v:Int))=false:=decide_eq_false (by omega);have hvl:v<=rest.length:=by omega
   have hvc:v<=cB:=by omega
   have HTL:Hid ((rest.take v).length=v):=by rw [Hid,List.length_take];omega
   have S3:=hid (rs_sub S2.out (.head _) (Vw.take (S2.out.view (.head _) ⟨(fun e=>by cases e),hv2,hv3⟩) v hvl).1 (fun i hi=>by
    obtain ⟨hp,o,e⟩:=hi;rw [HTL.out] at hp;exact ⟨by omega,o,e⟩))
   have HDE:Hid (Calls Tryz.prog 194 #[.slice (some ⟨g,o2,none⟩) v cB] w1 (DecP (rest.take v) b w0 (rsOb (some ⟨g,o2,none⟩) (rest.take v)::rsOb (some ⟨g,o2,none⟩) rest::cellOb w.heap.size 33 #[.int .i64 0,.slice none 0 0]::l))):=by
    have h1:=manDec_any S3.out (.head _) (fun e=>by cases e) (by rw [HTL.out];exact hvc) (by rw [HTL.out];omega);rw [HTL.out] at h1;exact h1
   have hsz2:¬ rest.length<v:=hsz;clear S2 S3 hsz;go_wp2_with (go_at_call 194;(with_reducible refine HDE.out.mono ?_);refine halt_ ?_)
   rintro e w2 (⟨m,D,dc,hd,rfl,t2⟩ | ⟨hd,rfl,t2⟩)
   · have HD:=hid hd;have SX:=hid (t2.newCell 33 #[.int .i64 m.size,.slice D m.ids.length dc]);clear hd t2 HDE;have m0:=(SX.out.cell 0 rfl).cell 0;have m1:=(SX.out.cell 0 rfl).cell 1;have r0:=(SX.out.cell 4 rfl).cell 0;have r1:=(SX.out.cell 4 rfl).cell 1;have rz:=fun o=>(SX.out.cell 4 rfl).frozen o;have hwv:((v:Nat):Int).toNat=v:=by omega
     by_cases hcq:cB=v
     · have hct:(cB=v)=True:=eq_true hcq;have HCU:Hid (cutA (some ⟨g,o2,none⟩) v cB=some ⟨g,o2,none⟩):=if_pos hcq;clear hcq;go_wp2_with fail
       go_region
       have S9:=hid (((SX.out.setAt 4 rfl 0 (.int .i64 m.size)).setAt 4 rfl 1 (.slice D m.ids.length dc)).drew);have e0:=(S9.out.cell 4 rfl).cell 0;have e1:=(S9.out.cell 4 rfl).cell 1;have HO:Hid (oneM bs=some (m,n+v)):=by rw [Hid,oneM,HT.out];simp only;rw [HRE.out,if_neg hsz2,HD.out];rfl
       have HDR:Hid (rest.drop v=bs.drop (n+v)):=by rw [Hid, <- HRE.out,List.drop_drop]
       have HKL:Hid (n+v<=bs.length):=by
        have h1:=congrArg List.length HRE.out;rw [List.length_drop] at h1;rw [Hid];omega
       have HLL:Hid (rest.length-v=(bs.drop (n+v)).length):=by rw [Hid, <- HDR.out,List.length_drop]
       have SL:=hid (SW.sub S9.out (.cons _ (.cons_cons _ (.cons _ (.cons _ (.cons _ (List.Sublist.refl _)))))));clear m0 m1 r0 r1 rz SX;go_wp2_with fail
       refine bodyPost_ret (v:=.tuple #[.agg #[.int .i64 m.size,.slice D m.ids.length dc],.slice (cutA (some ⟨g,o2,none⟩) v cB) (rest.length-v) (cB-v),.bool true]) (by simp [results,Tryz.results148,go_sem,e0,e1,HCU.out,Result.andThen]) rfl ?_;refine .inl ⟨m,n+v,D,dc,_,_,HO.out,HKL.out,by rw [HLL.out],fun W hW=>?_,fun i hi=>?_,SL.out⟩
       · have h1:=HVD.out W hW;rw [HRE.out,HCB.out] at h1;have h2:=h1.drop v hvl;rw [HDR.out] at h2;exact h2
       rw [<- HDR.out] at hi;have h1:=cutA_rd hi hvl;rw [<- HRE.out, <- HB.out] at h1;exact cutA_rd h1 hn
     have HCU:Hid (cutA (some ⟨g,o2,none⟩) v cB=some ⟨g,o2+v,none⟩):=if_neg hcq;go_wp2_with fail
     go_region
     have S9:=hid (((SX.out.setAt 4 rfl 0 (.int .i64 m.size)).setAt 4 rfl 1 (.slice D m.ids.length dc)).drew);have e0:=(S9.out.cell 4 rfl).cell 0;have e1:=(S9.out.cell 4 rfl).cell 1;have HO:Hid (oneM bs=some (m,n+v)):=by rw [Hid,oneM,HT.out];simp only;rw [HRE.out,if_neg hsz2,HD.out];rfl
     have HDR:Hid (rest.drop v=bs.drop (n+v)):=by rw [Hid, <- HRE.out,List.drop_drop]
     have HKL:Hid (n+v<=bs.length):=by
      have h1:=congrArg List.length HRE.out;rw [List.length_drop] at h1;rw [Hid];omega
     have HLL:Hid (rest.length-v=(bs.drop (n+v)).length):=by rw [Hid, <- HDR.out,List.length_drop]
     have SL:=hid (SW.sub S9.out (.cons _ (.cons_cons _ (.cons _ (.cons _ (.cons _ (List.Sublist.refl _)))))));clear m0 m1 r0 r1 rz SX;go_wp2_with fail
     refine bodyPost_ret (v:=.tuple #[.agg #[.int .i64 m.size,.slice D m.ids.length dc],.slice (cutA (some ⟨g,o2,none⟩) v cB) (rest.length-v) (cB-v),.bool true]) (by simp [results,Tryz.results148,go_sem,e0,e1,HCU.out,Result.andThen]) rfl ?_;refine .inl ⟨m,n+v,D,dc,_,_,HO.out,HKL.out,by rw [HLL.out],fun W hW=>?_,fun i hi=>?_,SL.out⟩
     · have h1:=HVD.out W hW;rw [HRE.out,HCB.out] at h1;have h2:=h1.drop v hvl;rw [HDR.out] at h2;exact h2
     rw [<- HDR.out] at hi;have h1:=cutA_rd hi hvl;rw [<- HRE.out, <- HB.out] at h1;exact cutA_rd h1 hn
   have HD:=hid hd;have SX:=hid (t2.newCell 33 #[.int .i64 0,.slice none 0 0]);clear hd t2 HDE;have m0:=(SX.out.cell 0 rfl).cell 0;have m1:=(SX.out.cell 0 rfl).cell 1;have r0:=(SX.out.cell 3 rfl).cell 0;have r1:=(SX.out.cell 3 rfl).cell 1;have rz:=fun o=>(SX.out.cell 3 rfl).frozen o;have hwv:((v:Nat):Int).toNat=v:=by omega
   by_cases hcq:cB=v
   · have hct:(cB=v)=True:=eq_true hcq;have HCU:Hid (cutA (some ⟨g,o2,none⟩) v cB=some ⟨g,o2,none⟩):=if_pos hcq;clear hcq;go_wp2_with fail
     go_region
     have S9:=hid (((SX.out.setAt 3 rfl 0 (.int .i64 0)).setAt 3 rfl 1 (.slice none 0 0)).drew);have e0:=(S9.out.cell 3 rfl).cell 0;have e1:=(S9.out.cell 3 rfl).cell 1;have HO:Hid (oneM bs=none):=by rw [Hid,oneM,HT.out];simp only;rw [HRE.out,if_neg hsz2,HD.out];rfl
     have SL:=hid (SW.sub S9.out (.cons _ (.cons _ (.cons _ (.cons _ (List.Sublist.refl _))))));clear m0 m1 r0 r1 rz SX;go_wp2_with fail
     refine bodyPost_ret (v:=.tuple #[.agg #[.int .i64 0,.slice none 0 0],.slice (cutA (some ⟨g,o2,none⟩) v cB) (rest.length-v) (cB-v),.bool false]) (by simp [results,Tryz.results148,go_sem,e0,e1,HCU.out,Result.andThen]) rfl ?_;exact .inr ⟨HO.out,⟨_,_,_,_,rfl,rfl⟩,SL.out⟩
   have HCU:Hid (cutA (some ⟨g,o2,none⟩) v cB=some ⟨g,o2+v,none⟩):=if_neg hcq;go_wp2_with fail
   go_region
   have S9:=hid (((SX.out.setAt 3 rfl 0 (.int .i64 0)).setAt 3 rfl 1 (.slice none 0 0)).drew);have e0:=(S9.out.cell 3 rfl).cell 0;have e1:=(S9.out.cell 3 rfl).cell 1;have HO:Hid (oneM bs=none):=by rw [Hid,oneM,HT.out];simp only;rw [HRE.out,if_neg hsz2,HD.out];rfl
   have SL:=hid (SW.sub S9.out (.cons _ (.cons _ (.cons _ (.cons _ (List.Sublist.refl _))))));clear m0 m1 r0 r1 rz SX;go_wp2_with fail
   refine bodyPost_ret (v:=.tuple #[.agg #[.int .i64 0,.slice none 0 0],.slice (cutA (some ⟨g,o2,none⟩) v cB) (rest.length-v) (cB-v),.bool false]) (by simp [results,Tryz.results148,go_sem,e0,e1,HCU.out,Result.andThen]) rfl ?_;exact .inr ⟨HO.out,⟨_,_,_,_,rfl,rfl⟩,SL.out⟩
 have S1:=hid (S0.out.on hb1);have HN:Hid (oneM bs=none):=by rw [Hid,oneM,ht]
 have r0:=(S1.out.cell 0 rfl).cell 0;have r1:=(S1.out.cell 0 rfl).cell 1;have rz:=fun o=>(S1.out.cell 0 rfl).frozen o;clear hb1 S0 ht HU;go_wp2_with fail
 have S9:=hid ((S1.out.setAt 0 rfl 0 (.int .i64 0)).setAt 0 rfl 1 (.slice none 0 0));have e0:=(S9.out.cell 0 rfl).cell 0;have e1:=(S9.out.cell 0 rfl).cell 1;refine bodyPost_ret (v:=.tuple #[.agg #[.int .i64 0,.slice none 0 0],.slice none 0 0,.bool false]) (by simp [results,Tryz.results148,go_sem,e0,e1,Result.andThen]) rfl ?_;exact .inr ⟨HN.out,⟨_,none,0,0,rfl,rfl⟩,S9.out.tail⟩
end
end Go.Proofs.YtmiknfneeipkeaaGreat
namespace Go.Proofs.YtmiknfneeipkeaaGreat
open Go.RowKit Go.ChangeShapes
theorem cell_lt {W:World} {b o:Nat} {v:Value} (h:W.cell? ⟨b,o,none⟩=some v):b<W.heap.size:=by
 rcases Nat.lt_or_ge b W.heap.size with h1 | h1
 · exact h1
 exfalso
 simp [World.cell?, Array.getElem?_eq_none h1] at h
theorem open_nums {H:Type} {enc:TypeId×Value->H} {W:World} {base:Nat} {spare:Nat->Bool} {held:Bool} {A:Option Addr} {len cap:Nat} {d:DataW H} {p:List MemPlace}
 (h:DataW.Trod enc Tryz.prog W base spare held 22 (.slice A len cap) d p):∃ xs:List Int,xs.length=len/\RdT W W.heap.size A xs/\len<=9223372036854775807:=by
 obtain ⟨fuel,hf⟩:=h;rcases Go.ChangeShapes.open_ints Tryz.underlying22 Tryz.underlying3 (by kernel_rfl) hf with ⟨hcs,_⟩ | ⟨a,l,c,zs,hcs,_,hl,hm,hz,_,hx,_⟩
 · simp [Value.cells] at hcs;obtain ⟨rfl,rfl,rfl⟩:=hcs;exact ⟨[],rfl,fun hp=>absurd hp (by simp),by omega⟩
 simp [Value.cells] at hcs;obtain ⟨rfl,rfl,rfl⟩:=hcs;have hlz:len<=zs.length:=by rw [hz];split<;>omega
 unfold maxLen at hm;refine ⟨zs.take len,by rw [List.length_take];omega,fun hp=>?_,by omega⟩;have hp':0<len:=by rw [List.length_take] at hp;omega
 obtain ⟨b,off,spot⟩:=a;have h0:=hx 0 (by omega);have hspot:spot=none:=by simpa [Addr.add] using World.cell?_spot h0
 subst hspot;have hadd:∀ j,(⟨b,off,none⟩:Addr).add j=⟨b,off+j,none⟩:=fun j=>by unfold Addr.add;split<;>simp_all
 rw [hadd] at h0;refine ⟨b,off,rfl,cell_lt h0,fun j hj=>?_⟩;rw [List.length_take] at hj;have:=hx j (by omega);rw [hadd] at this;rw [this,List.getD_eq_getElem?_getD,List.getD_eq_getElem?_getD,List.getElem?_take_of_lt (by omega)]
theorem open_bytes {H:Type} {enc:TypeId×Value->H} {W:World} {base:Nat} {spare:Nat->Bool} {held:Bool} {A:Option Addr} {len cap:Nat} {d:DataW H} {p:List MemPlace}
 (h:DataW.Trod enc Tryz.prog W base spare held 40 (.slice A len cap) d p):∃ bs:List UInt8,bs.length=len/\(SB W A bs/\len<=cap/\(A=none->cap=0))/\len<=9223372036854775807:=by
 obtain ⟨fuel,hf⟩:=h;rcases Go.ChangeShapes.open_ints Tryz.underlying40 Tryz.underlying5 (by kernel_rfl) hf with ⟨hcs,_⟩ | ⟨a,l,c,zs,hcs,_,hl,hm,hz,_,hx,hwf⟩
 · simp [Value.cells] at hcs;obtain ⟨rfl,rfl,rfl⟩:=hcs;exact ⟨[],rfl,⟨⟨fun _=>rfl,(fun ad e=>by cases e)⟩,Nat.le_refl _,fun _=>rfl⟩,by omega⟩
 simp [Value.cells] at hcs;obtain ⟨rfl,rfl,rfl⟩:=hcs;have hlz:len<=zs.length:=by rw [hz];split<;>omega
 unfold maxLen at hm;refine ⟨(zs.take len).map (fun n=>UInt8.ofNat n.toNat),by rw [List.length_map,List.length_take];omega,⟨⟨(fun e=>by cases e),fun ad e j u hu=>?_⟩,hl,(fun e=>by cases e)⟩,by omega⟩;injection e with e;subst e
 have hj:j<len:=by
  have:=(List.getElem?_eq_some_iff.1 hu).1;simp at this;omega
 rw [hx j (by omega)];rw [List.map_map,List.getElem?_map,List.getElem?_take_of_lt hj,List.getElem?_eq_getElem (by omega)] at hu;have hm':=hwf zs[j] (List.getElem_mem (by omega));simp only [Lit.wf] at hm';rw [List.getD_eq_getElem?_getD,List.getElem?_eq_getElem (by omega), <- hu];simp only [Option.getD_some,Option.map_some,Function.comp_def,encU]
 have:0<=zs[j]/\zs[j]<256:=by
  rw [Bool.and_eq_true,decide_eq_true_eq,decide_eq_true_eq,show IntKind.u8.min=0 from rfl,show IntKind.u8.max=255 from rfl] at hm';omega
 congr 2
 rw [UInt8.toNat_ofNat'];omega
end Go.Proofs.YtmiknfneeipkeaaGreat
namespace Go.Proofs.YtmiknfneeipkeaaGreat
open Go.RowKit Go.ChangeShapes Go.Deep
theorem two_of {α:Type} {l:List α} (h:l.length=2):∃ a b,l=[a,b]:=by
 match l,h with
 | [a,b],_=>exact ⟨a,b,rfl⟩
theorem elem36 {H:Type} {enc':TypeId×Value->H} {W:World} {base:Nat} {spare:Nat->Bool} {held:Bool} (n:Nat) (cs:List Value) (x:DataW H×List MemPlace) (h:DataW.trod enc' Tryz.prog W base spare held n 36 cs=some x):∃ y:ID,okID y/\cs=encID y:=by
 obtain ⟨y0,y1,n',_,hl,h0,h1⟩:=trod_struct2 Tryz.underlying36 h;rw [cellsOf36] at hl;obtain ⟨v0,v1,rfl⟩:=two_of hl;simp [cellsOf34,cellsOf3] at h0 h1;obtain ⟨a,e0,w0⟩:=DataW.trod_int Tryz.underlying34 h0;obtain ⟨b,e1,w1⟩:=DataW.trod_int Tryz.underlying3 h1;simp at e0 e1;subst e0 e1;exact ⟨(a,b),⟨w0.2,w1.2⟩,rfl⟩
theorem open_id {H:Type} {enc':TypeId×Value->H} {W:World} {base:Nat} {spare:Nat->Bool} {held:Bool} {v:Value} {d:DataW H} {p:List MemPlace}
 (h:DataW.Trod enc' Tryz.prog W base spare held 36 v d p):∃ s z:Int,v= .agg #[.int .u64 s,.int .i64 z]:=by
 obtain ⟨fuel,hf⟩:=h;obtain ⟨⟨s,z⟩,_,e⟩:=elem36 _ _ _ hf;refine ⟨s,z,?_⟩;cases v with
 | agg xs=>
  simp only [Value.cells,encID] at e;congr 1
  apply Array.ext'
  exact e
 | _=>simp [Value.cells,encID] at e
end Go.Proofs.YtmiknfneeipkeaaGreat
namespace Go.Proofs.YtmiknfneeipkeaaGreat
open Go.RowKit Go.ChangeShapes Go.Deep
theorem SB.rs {w:World} {A:Option Addr} {bs:List UInt8} (h:SB w A bs):RS w A bs:=by
 refine ⟨h.1,fun ad e hp=>?_⟩;obtain ⟨b,off,spot⟩:=ad
 have hc:∀ j,j<bs.length->(bs.map encU)[j]? =some (encU (bs.getD j 0)):=fun j hj=>by
  rw [List.getElem?_map,List.getD_eq_getElem?_getD,List.getElem?_eq_getElem hj];rfl
 have h0:=h.2 _ e 0 _ (hc 0 hp);have hspot:spot=none:=by simpa [Addr.add] using World.cell?_spot h0
 subst hspot;refine ⟨b,off,rfl,fun j hj=>?_⟩;have:=h.2 _ e j _ (hc j hj);rw [lit_add] at this;exact this
end Go.Proofs.YtmiknfneeipkeaaGreat
