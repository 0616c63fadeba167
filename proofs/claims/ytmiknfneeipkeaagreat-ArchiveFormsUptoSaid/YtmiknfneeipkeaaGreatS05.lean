/- Contracts of the walk, part 5. -/
import Derived.BigRegion
import Derived.Test.YtmiknfneeipkeaaGreatS04
import Derived.Test.YtmiknfneeipkeaaGreatS01
import Derived.Test.YtmiknfneeipkeaaGreatS03
import Derived.Test.YtmiknfneeipkeaaGreatS02
open Go.Lib (hid)
namespace Go.Proofs.YtmiknfneeipkeaaGreat
open Go.RowKit
attribute [local go_sem] wext_cell
def sumZ (l:List ID):Int:=(l.map (·.2)).sum
theorem sumZ_snoc (l:List ID) (i:ID):sumZ (l++[i])=sumZ l+i.2:=by simp [sumZ]
structure Man where
 size:Int
 ids:List ID
structure MR where
 size:Int
 A:Option Addr
 len:Nat
 cap:Nat
def encMR (r:MR):List Value:=[.int .i64 r.size,.slice r.A r.len r.cap]
def mr0:MR:=⟨0,none,0,0⟩
def man0:Man:=⟨0,[]⟩
theorem encMR_len (r:MR):(encMR r).length=2:=rfl
theorem encMR_one (r:MR):∀ u∈encMR r,u.oneCell'=true:=by
 intro u hu;simp [encMR] at hu;rcases hu with rfl | rfl<;>rfl
def Link (w:World) (x:Nat) (r:MR) (m:Man):Prop:=r.size=m.size/\r.len=m.ids.length/\r.len<=r.cap/\RdID w x r.A m.ids
def RdM (w:World) (x:Nat) (A:Option Addr) (ms:List Man):Prop:=
 ∃ rs:List MR,Rd encMR 2 mr0 w x A rs/\rs.length=ms.length/\∀ j,j<ms.length->Link w x (rs.getD j mr0) (ms.getD j man0)
theorem RdM.on {w w':World} {x:Nat} {A:Option Addr} {ms:List Man} (h:RdM w x A ms) (hb:Below w.heap.size w w'):RdM w' x A ms:=by
 obtain ⟨rs,h1,h2,h3⟩:=h;exact ⟨rs,h1.on hb,h2,fun j hj=>let ⟨a,b,c,d⟩:=h3 j hj;⟨a,b,c,d.on hb⟩⟩
theorem RdM.gr {w w':World} {x:Nat} {A:Option Addr} {ms:List Man} (h:RdM w x A ms) (hb:w.grownBy w' (some x)):RdM w' x A ms:=by
 obtain ⟨rs,h1,h2,h3⟩:=h;exact ⟨rs,h1.gr hb,h2,fun j hj=>let ⟨a,b,c,d⟩:=h3 j hj;⟨a,b,c,d.gr hb⟩⟩
theorem info33:(Tryz.prog.info? 33).map (fun i=>(i.zero,i.size,i.bytes))=some (some (.agg #[.int .i64 0,.slice none 0 0]),2,32):=by kernel_rfl
theorem getD_snoc_lt {α:Type} (l:List α) (y d:α) (j:Nat) (h:j<l.length):(l++[y]).getD j d=l.getD j d:=by
 rw [List.getD_eq_getElem?_getD,List.getD_eq_getElem?_getD,List.getElem?_append_left h]
theorem getD_snoc_eq {α:Type} (l:List α) (y d:α) (j:Nat) (h:j=l.length):(l++[y]).getD j d=y:=by
 subst h;rw [List.getD_eq_getElem?_getD,List.getElem?_append_right (Nat.le_refl _)];simp
def validB (i:ID):Bool:=decide (0<=i.2)&&decide (i.2<=1048576)&&decide (i.1<2305843009213693951)&&(decide (0<i.2)||i.1==0)
set_option maxHeartbeats 1000000 in
theorem Valid_any (s z:Int) (w:World):Calls Tryz.prog 112 #[.agg #[.int .u64 s,.int .i64 z]] w (Gives (.bool (validB (s,z))) w):=by
 have fin:∀ b:Bool,validB (s,z)=b->∀ W,W=w.alloc (.cells #[.int .u64 s,.int .i64 z] 36)->Gives (.bool (validB (s,z))) w (.returned (.bool b)) W:=by
  rintro b h W rfl;exact ⟨by rw [h],bel1 _ _⟩
 by_cases h1:0<=z
 · by_cases h2:z<=1048576
   · by_cases h3:s<2305843009213693951
     · by_cases h4:0<z
       · go_enter Tryz.func112,Tryz.ntmps112;go_wp2_with fail
         go_ret;exact fin _ (by simp [validB];omega) _ rfl
       by_cases h5:s=0
       · subst h5;have V:Hid (validB (0,z)=true):=by simp [Hid,validB];omega
         go_enter Tryz.func112,Tryz.ntmps112;go_wp2_with fail
         go_ret;exact fin _ V.out _ rfl
       have hb:(s==0)=false:=by rw [beq_eq_false_iff_ne];exact h5
       go_enter Tryz.func112,Tryz.ntmps112;go_wp2_with fail
       go_ret;exact fin _ (by simp [validB];omega) _ rfl
     go_enter Tryz.func112,Tryz.ntmps112;go_wp2_with fail
     go_ret;exact fin _ (by simp [validB];omega) _ rfl
   go_enter Tryz.func112,Tryz.ntmps112;go_wp2_with fail
   go_ret;exact fin _ (by simp [validB];omega) _ rfl
 go_enter Tryz.func112,Tryz.ntmps112;go_wp2_with fail
 go_ret;exact fin _ (by simp [validB];omega) _ rfl
set_option maxHeartbeats 1000000 in
theorem rValid_any (s z:Int) (w:World):Calls Tryz.prog 78 #[.agg #[.int .u64 s,.int .i64 z]] w (Gives (.bool (validB (s,z))) w):=by
 have fin:∀ b:Bool,validB (s,z)=b->∀ W,W=w.alloc (.cells #[.int .u64 s,.int .i64 z] 36)->Gives (.bool (validB (s,z))) w (.returned (.bool b)) W:=by
  rintro b h W rfl;exact ⟨by rw [h],bel1 _ _⟩
 by_cases h1:0<=z
 · by_cases h2:z<=1048576
   · by_cases h3:s<2305843009213693951
     · by_cases h4:0<z
       · go_enter Tryz.func78,Tryz.ntmps78;go_wp2_with fail
         go_ret;exact fin _ (by simp [validB];omega) _ rfl
       by_cases h5:s=0
       · subst h5;have V:Hid (validB (0,z)=true):=by simp [Hid,validB];omega
         go_enter Tryz.func78,Tryz.ntmps78;go_wp2_with fail
         go_ret;exact fin _ V.out _ rfl
       have hb:(s==0)=false:=by rw [beq_eq_false_iff_ne];exact h5
       go_enter Tryz.func78,Tryz.ntmps78;go_wp2_with fail
       go_ret;exact fin _ (by simp [validB];omega) _ rfl
     go_enter Tryz.func78,Tryz.ntmps78;go_wp2_with fail
     go_ret;exact fin _ (by simp [validB];omega) _ rfl
   go_enter Tryz.func78,Tryz.ntmps78;go_wp2_with fail
   go_ret;exact fin _ (by simp [validB];omega) _ rfl
 go_enter Tryz.func78,Tryz.ntmps78;go_wp2_with fail
 go_ret;exact fin _ (by simp [validB];omega) _ rfl
def chunkB (i:ID):Bool:=validB i&&decide (1<=i.2)&&decide (i.2<=8192)
def manE (m:Man):Int:=if 1024<m.ids.length then 251 else if m.ids.all chunkB=false then 250 else if m.size=sumZ m.ids/\m.size<=1048576 then 0 else 252
theorem getD_mem {α:Type} (l:List α) (d:α) (k:Nat) (h:k<l.length):l.getD k d∈l:=by
 rw [List.getD_eq_getElem?_getD,List.getElem?_eq_getElem h];exact List.getElem_mem h
theorem take_snoc {α:Type} (l:List α) (d:α) (k:Nat) (h:k<l.length):l.take (k+1)=l.take k++[l.getD k d]:=by
 rw [List.take_add_one,List.getD_eq_getElem?_getD,List.getElem?_eq_getElem h];rfl
theorem chunkB_sound {i:ID} (h:chunkB i=true):1<=i.2/\i.2<=8192:=by
 simp [chunkB] at h;omega
theorem sum_take_bd {l:List ID}:∀ {k:Nat},(l.take k).all chunkB=true->0<=sumZ (l.take k)/\sumZ (l.take k)<=8192*k:=by
 have key:∀ (l:List ID),l.all chunkB=true->0<=sumZ l/\sumZ l<=8192*l.length:=by
  intro l;induction l with
  | nil=>intro _;simp [sumZ]
  | cons i l ih=>
   intro h;rw [List.all_cons,Bool.and_eq_true] at h;have h1:=chunkB_sound h.1;have h2:=ih h.2;simp only [sumZ,List.map_cons,List.sum_cons,List.length_cons] at *; omega
 intro k h;have:=key _ h;have hl:(l.take k).length<=k:=by rw [List.length_take];omega
 omega
theorem manE_bad {m:Man} {k:Nat} (hl:m.ids.length<=1024) (hk:k<m.ids.length) (h:chunkB (m.ids.getD k (0,0))=false):manE m=250:=by
 unfold manE;rw [if_neg (by omega),if_pos];rw [List.all_eq_false];exact ⟨_,getD_mem _ _ _ hk,by rw [h];simp⟩
theorem manE_end {m:Man} (hl:m.ids.length<=1024) (h:m.ids.all chunkB=true):manE m=if m.size=sumZ m.ids/\m.size<=1048576 then 0 else 252:=by
 unfold manE;rw [if_neg (by omega),if_neg (by simp [h])]
set_option maxHeartbeats 2000000 in
theorem manCheck_any (x:Nat) (m:Man) (A:Option Addr) (c:Nat) (w:World) (hr:RdID w x A m.ids) (hn:m.ids.length<=9223372036854775807):
 Calls Tryz.prog 74 #[.agg #[.int .i64 m.size,.slice A m.ids.length c]] w (Gives (.int .i64 (manE m)) w):=by
 have Hr:=hid hr;clear hr;by_cases hl:m.ids.length<=1024
 · go_enter Tryz.func74,Tryz.ntmps74;go_wp2_with fail
   go_loopw [3,13] (fun n i wr=>∃ k:Nat,k<=m.ids.length/\i= .int .i64 k/\n= .int .i64 (sumZ (m.ids.take k))/\(m.ids.take k).all chunkB=true/\IsB wr w.heap.size 33 #[.int .i64 m.size,.slice A m.ids.length c]/\Below w.heap.size w wr) (fun _ i _=>m.ids.length-(intOf i).toNat)
   case atStart=>exact ⟨0,Nat.zero_le _,rfl,by simp [sumZ],by simp,IsB.new _ _ _,bel1 _ _⟩
   obtain ⟨k,hk,rfl,rfl,hall,hB,hb⟩:=hrel;have hsz:=hb.size;have hbd:=sum_take_bd hall;have HB:=hid hB;have Hall:=hid hall;clear hB hall;obtain ⟨S,HS⟩:∃ S,Hid (sumZ (m.ids.take k)=S):=⟨_,rfl⟩;rw [HS.out] at hbd |-; by_cases hlt:k<m.ids.length
   · obtain ⟨b,o,rfl,hbB,_,hc⟩:=Hr.out (by omega);obtain ⟨s,z,HI⟩:∃ s z,Hid (m.ids.getD k (0,0)=(s,z)):=⟨_,_,rfl⟩;have hc0:wr.cell? ⟨b,o+k*2,none⟩=some (.int .u64 s):=by rw [hb.cell (p:=⟨b,o+k*2,none⟩) hbB];exact hc k hlt 0 _ (by rw [HI.out];rfl)
     have hc1:wr.cell? ⟨b,o+k*2+1,none⟩=some (.int .i64 z):=by rw [hb.cell (p:=⟨b,o+k*2+1,none⟩) hbB];exact hc k hlt 1 _ (by rw [HI.out];rfl)
     clear hc;go_wp2_with fail
     refine (Valid_any s z _).mono ?_;rintro e w1 ⟨rfl,hb1⟩;have hn0:w1.cell? ⟨wr.heap.size,0,none⟩=some (.int .u64 s):=by rw [hb1.cell (p:=⟨wr.heap.size,0,none⟩) (by simp)];exact new_cell _ _ _ _ rfl 0
     have hn1:w1.cell? ⟨wr.heap.size,1,none⟩=some (.int .i64 z):=by rw [hb1.cell (p:=⟨wr.heap.size,1,none⟩) (by simp)];exact new_cell _ _ _ _ rfl 1
     have hbw:Hid (Below w.heap.size w w1):=(hb.alloc hb.size _).trans (hb1.mono (by simp;omega));have HB1:Hid (IsB w1 w.heap.size 33 #[.int .i64 m.size,.slice (some ⟨b,o,none⟩) m.ids.length c]):=(HB.out.alloc _).on hb1;clear hb1;cases hv:validB (s,z) with
     | false=>
      have HE:Hid (manE m=250):=manE_bad hl hlt (by rw [HI.out];simp [chunkB,hv]);clear hv;go_wp2_with fail
      go_ret;exact gv HE.out (hbw.out)
     | true=>
      by_cases h1:z<1
      · have HE:Hid (manE m=250):=manE_bad hl hlt (by rw [HI.out];simp [chunkB];omega);clear hv;go_wp2_with fail
        go_ret;exact gv HE.out (hbw.out)
      by_cases h2:8192<z
      · have HE:Hid (manE m=250):=manE_bad hl hlt (by rw [HI.out];simp [chunkB];omega);clear hv;go_wp2_with fail
        go_ret;exact gv HE.out (hbw.out)
      have HC:Hid (chunkB (s,z)=true):=by simp [Hid,chunkB,hv];omega
      clear hv;go_wp2_with fail
      go_roundw
      case rel=>exact ⟨k+1,by omega,by go_num,by rw [take_snoc _ (0,0) _ hlt,sumZ_snoc,HS.out,HI.out],by rw [take_snoc _ (0,0) _ hlt,List.all_append,Hall.out,HI.out];simp [HC.out],HB1.out,hbw.out⟩
      simp [intOf];omega
   obtain rfl:k=m.ids.length:=by omega
   rw [List.take_length] at Hall HS;have hE:=manE_end hl Hall.out;rw [HS.out] at hE;have hc0:wr.cell? ⟨w.heap.size,0,none⟩=some (.int .i64 m.size):=by rw [HB.out.cell];rfl
   by_cases h1:m.size=S
   · subst h1;by_cases h2:m.size<=1048576
     · rw [if_pos ⟨rfl,h2⟩] at hE;have HE:=hid hE;clear hE;go_wp2_with fail
       go_ret;exact gv HE.out (hb)
     rw [if_neg (by omega)] at hE;have HE:=hid hE;clear hE;go_wp2_with fail
     go_ret;exact gv HE.out (hb)
   have hbe:(m.size !=S)=true:=by rw [bne_iff_ne];exact h1
   rw [if_neg (by omega)] at hE;have HE:=hid hE;clear hE h1;go_wp2_with fail
   go_ret;exact gv HE.out (hb)
 have HE:Hid (manE m=251):=by unfold Hid manE;rw [if_pos (by omega)]
 go_enter Tryz.func74,Tryz.ntmps74;go_wp2_with fail
 go_ret;exact gv HE.out (bel1 _ _)
set_option maxHeartbeats 2000000 in
theorem rmanCheck_any (x:Nat) (m:Man) (A:Option Addr) (c:Nat) (w:World) (hr:RdID w x A m.ids) (hn:m.ids.length<=9223372036854775807):
 Calls Tryz.prog 37 #[.agg #[.int .i64 m.size,.slice A m.ids.length c]] w (Gives (.int .i64 (manE m)) w):=by
 have Hr:=hid hr;clear hr;by_cases hl:m.ids.length<=1024
 · go_enter Tryz.func37,Tryz.ntmps37;go_wp2_with fail
   go_loopw [3,4] (fun n i wr=>∃ k:Nat,k<=m.ids.length/\i= .int .i64 k/\n= .int .i64 (sumZ (m.ids.take k))/\(m.ids.take k).all chunkB=true/\IsB wr w.heap.size 33 #[.int .i64 m.size,.slice A m.ids.length c]/\Below w.heap.size w wr) (fun _ i _=>m.ids.length-(intOf i).toNat)
   case atStart=>exact ⟨0,Nat.zero_le _,rfl,by simp [sumZ],by simp,IsB.new _ _ _,bel1 _ _⟩
   obtain ⟨k,hk,rfl,rfl,hall,hB,hb⟩:=hrel;have hsz:=hb.size;have hbd:=sum_take_bd hall;have hm0:wr.cell? ⟨w.heap.size,0,none⟩=some (.int .i64 m.size):=by rw [hB.cell];rfl
   have hm1:wr.cell? ⟨w.heap.size,1,none⟩=some (.slice A m.ids.length c):=by rw [hB.cell];rfl
   have hBlt:=hB.lt;have HB:=hid hB;have Hall:=hid hall;clear hB hall;obtain ⟨S,HS⟩:∃ S,Hid (sumZ (m.ids.take k)=S):=⟨_,rfl⟩;rw [HS.out] at hbd |-; by_cases hlt:k<m.ids.length
   · obtain ⟨b,o,rfl,hbB,_,hc⟩:=Hr.out (by omega);obtain ⟨s,z,HI⟩:∃ s z,Hid (m.ids.getD k (0,0)=(s,z)):=⟨_,_,rfl⟩;have hc0:wr.cell? ⟨b,o+k*2,none⟩=some (.int .u64 s):=by rw [hb.cell (p:=⟨b,o+k*2,none⟩) hbB];exact hc k hlt 0 _ (by rw [HI.out];rfl)
     have hc1:wr.cell? ⟨b,o+k*2+1,none⟩=some (.int .i64 z):=by rw [hb.cell (p:=⟨b,o+k*2+1,none⟩) hbB];exact hc k hlt 1 _ (by rw [HI.out];rfl)
     clear hc;go_wp2_with fail
     refine (rValid_any s z _).mono ?_;rintro e w1 ⟨rfl,hb1⟩;have hn0:w1.cell? ⟨wr.heap.size,0,none⟩=some (.int .u64 s):=by rw [hb1.cell (p:=⟨wr.heap.size,0,none⟩) (by simp)];exact new_cell _ _ _ _ rfl 0
     have hn1:w1.cell? ⟨wr.heap.size,1,none⟩=some (.int .i64 z):=by rw [hb1.cell (p:=⟨wr.heap.size,1,none⟩) (by simp)];exact new_cell _ _ _ _ rfl 1
     have hbw:Hid (Below w.heap.size w w1):=(hb.alloc hb.size _).trans (hb1.mono (by simp;omega));have HB1:Hid (IsB w1 w.heap.size 33 #[.int .i64 m.size,.slice (some ⟨b,o,none⟩) m.ids.length c]):=(HB.out.alloc _).on hb1;clear hb1;cases hv:validB (s,z) with
     | false=>
      have HE:Hid (manE m=250):=manE_bad hl hlt (by rw [HI.out];simp [chunkB,hv]);clear hv;go_wp2_with fail
      go_ret;exact gv HE.out (hbw.out)
     | true=>
      by_cases h1:z<1
      · have HE:Hid (manE m=250):=manE_bad hl hlt (by rw [HI.out];simp [chunkB];omega);clear hv;go_wp2_with fail
        go_ret;exact gv HE.out (hbw.out)
      by_cases h2:8192<z
      · have HE:Hid (manE m=250):=manE_bad hl hlt (by rw [HI.out];simp [chunkB];omega);clear hv;go_wp2_with fail
        go_ret;exact gv HE.out (hbw.out)
      have HC:Hid (chunkB (s,z)=true):=by simp [Hid,chunkB,hv];omega
      clear hv;go_wp2_with fail
      go_roundw
      case rel=>exact ⟨k+1,by omega,by go_num,by rw [take_snoc _ (0,0) _ hlt,sumZ_snoc,HS.out,HI.out],by rw [take_snoc _ (0,0) _ hlt,List.all_append,Hall.out,HI.out];simp [HC.out],HB1.out,hbw.out⟩
      simp [intOf];omega
   obtain rfl:k=m.ids.length:=by omega
   rw [List.take_length] at Hall HS;have hE:=manE_end hl Hall.out;rw [HS.out] at hE;by_cases h1:m.size=S
   · subst h1;by_cases h2:m.size<=1048576
     · rw [if_pos ⟨rfl,h2⟩] at hE;have HE:=hid hE;clear hE;go_wp2_with fail
       go_ret;exact gv HE.out (hb)
     rw [if_neg (by omega)] at hE;have HE:=hid hE;clear hE;go_wp2_with fail
     go_ret;exact gv HE.out (hb)
   have hbe:(m.size !=S)=true:=by rw [bne_iff_ne];exact h1
   rw [if_neg (by omega)] at hE;have HE:=hid hE;clear hE h1;go_wp2_with fail
   go_ret;exact gv HE.out (hb)
 have HE:Hid (manE m=251):=by unfold Hid manE;rw [if_pos (by omega)]
 go_enter Tryz.func37,Tryz.ntmps37;go_wp2_with fail
 go_ret;exact gv HE.out (bel1 _ _)
end Go.Proofs.YtmiknfneeipkeaaGreat
namespace Go.Proofs.YtmiknfneeipkeaaGreat
open Go.RowKit Go.MapKept Go.ChangeMaps Go.Shelf Go.Sort
attribute [local go_sem] wext_cell
def powP (n:Nat):Nat:=pB^n % pP
theorem powP_lt (n:Nat):powP n<pP:=Nat.mod_lt _ pP_pos
theorem powP_zero:powP 0=1:=by
 unfold powP pP;rw [Nat.pow_zero]
theorem powP_one:powP 1=747382712868975713:=by
 unfold powP pP pB;rw [Nat.pow_one]
theorem powP_add (a b:Nat):powP a*powP b % pP=powP (a+b):=by
 unfold powP;rw [Nat.pow_add, <- Nat.mul_mod]
theorem bit_step (n i:Nat):n % 2^(i+1)=n % 2^i+2^i*(n / 2^i % 2):=by
 rw [Nat.pow_succ,Nat.mod_mul]
theorem two_pow_double (i:Nat):2^i+2^i=2^(i+1):=by rw [Nat.pow_succ];omega
theorem bitLenAux_lt:∀ (f x:Nat),x<2^f->x<2^Lib.bitLenAux f x
 | 0,x,h=>by simpa [Lib.bitLenAux] using h
 | f+1,x,h=>by
  simp only [Lib.bitLenAux];by_cases h0:x=0
  · subst h0;simp
  rw [if_neg h0,Nat.add_comm,Nat.pow_succ];have:=bitLenAux_lt f (x / 2) (by rw [Nat.pow_succ] at h;omega);omega
theorem bitLen_bd (n:Nat) (hn:n<=1048576):Lib.bitLen n<=21/\n<2^Lib.bitLen n:=
 ⟨Lib.bitLen_le n 21 (by omega) (by omega),bitLenAux_lt 64 n (by omega)⟩
theorem and_one (x:Nat) (hx:x<9223372036854775808):bits .and .i64 (x:Int) 1=((x % 2:Nat):Int):=by
 have h1:(BitVec.ofInt 64 (x:Int)).toNat=x:=by
  rw [BitVec.ofInt_natCast,BitVec.toNat_ofNat];exact Nat.mod_eq_of_lt (by omega)
 have h2:(BitVec.ofInt 64 (1:Int)).toNat=1:=by decide
 show IntKind.i64.wrap ((BitVec.ofInt 64 (x:Int) &&& BitVec.ofInt 64 (1:Int)).toNat:Int)=_;rw [BitVec.toNat_and,h1,h2,Nat.and_one_is_mod];have h3:=Nat.mod_two_eq_zero_or_one x;rcases h3 with h | h<;>rw [h]<;>rfl
set_option maxHeartbeats 2000000 in
theorem Power_any (n:Nat) (hn:n<=1048576) (w:World):Calls Tryz.prog 121 #[.int .i64 (n:Int)] w fun e w'=>e= .returned (.int .u64 ((powP n:Nat):Int))/\w=w':=by
 have HB:=hid (bitLen_bd n hn);have HL:=hid (Tryz.bits_Len (n:Int) w (by omega) (by omega));rw [Int.toNat_natCast] at HL;obtain ⟨q,HQ⟩:∃ q,Hid (Lib.bitLen n=q):=⟨_,rfl⟩;rw [HQ.out] at HL HB;have hq:q<=21:=HB.out.1;go_enter Tryz.func121,Tryz.ntmps121;go_wp2_with (go_at_call 127;(with_reducible refine HL.out.mono ?_);rintro e w' ⟨rfl,hw⟩;rw [hw])
 go_loop [3,4,15] (fun v3 v4 v15=>∃ i:Nat,i<=q/\v15= .int .i64 (i:Int)/\v3= .int .u64 ((powP (n % 2^i):Nat):Int)/\v4= .int .u64 ((powP (2^i):Nat):Int)) (fun _ _ v15=>q-(intOf v15).toNat)
 case atStart=>exact ⟨0,Nat.zero_le _,rfl,by rw [Nat.pow_zero,Nat.mod_one,powP_zero];rfl,by rw [Nat.pow_zero,powP_one];rfl⟩
 obtain ⟨i,hi,rfl,rfl,rfl⟩:=hrel;by_cases hlt:i<q
 · have hsq:=hid (powP_add (2^i) (2^i));rw [two_pow_double] at hsq;have hst:=hid (bit_step n i);have hpw:=hid (powP_add (n % 2^i) (2^i));have HM:=hid (fmul_any (powP (2^i)) (powP (2^i)) w (powP_lt _) (powP_lt _));have HM2:=hid (fmul_any (powP (n % 2^i)) (powP (2^i)) w (powP_lt _) (powP_lt _));rw [hsq.out] at HM;rw [hpw.out] at HM2
   have hb:bits .and .i64 ((n:Int) / 2^i) 1=((n / 2^i % 2:Nat):Int):=by
    have:=and_one (n / 2^i) (Nat.lt_of_le_of_lt (Nat.div_le_self _ _) (by omega));rw [<- this];congr 1
   have h01:=Nat.mod_two_eq_zero_or_one (n / 2^i);generalize n / 2^i % 2=bt at hst hb h01;go_upto_if 22 with fail
   clear hb;rcases h01 with rfl | rfl
   · have he:powP (n % 2^(i+1))=powP (n % 2^i):=by rw [hst.out,Nat.mul_zero,Nat.add_zero]
     have HE:=hid he;clear he hst;go_wp2_with (go_at_call 120;(with_reducible refine HM.out.mono ?_);rintro e w' ⟨rfl,rfl⟩)
     go_round
     case rel=>exact ⟨i+1,by omega,by go_num,by rw [HE.out],rfl⟩
     simp [intOf];omega
   have he:powP (n % 2^(i+1))=powP (n % 2^i+2^i):=by rw [hst.out,Nat.mul_one]
   have HE:=hid he;clear he hst;go_wp2_with (go_at_call 120;first | (with_reducible refine HM2.out.mono ?_) | (with_reducible refine HM.out.mono ?_);rintro e w' ⟨rfl,rfl⟩)
   go_round
   case rel=>exact ⟨i+1,by omega,by go_num,by rw [HE.out],rfl⟩
   simp [intOf];omega
 obtain rfl:i=q:=by omega
 rw [Nat.mod_eq_of_lt HB.out.2];go_wp2_with fail
 go_ret;exact ⟨rfl,rfl⟩
set_option maxHeartbeats 2000000 in
theorem rPower_any (n:Nat) (hn:n<=1048576) (w:World):Calls Tryz.prog 81 #[.int .i64 (n:Int)] w fun e w'=>e= .returned (.int .u64 ((powP n:Nat):Int))/\w=w':=by
 go_enter Tryz.func81,Tryz.ntmps81;go_wp2_with fail
 go_loop [0,3,4] (fun v0 v3 v4=>∃ m out sq:Nat,m<=n/\v0= .int .i64 (m:Int)/\v3= .int .u64 ((out:Nat):Int)/\v4= .int .u64 ((powP sq:Nat):Int)/\out<pP/\out*powP (sq*m) % pP=powP n) (fun v0 _ _=>(intOf v0).toNat)
 case atStart=>exact ⟨n,1,1,Nat.le_refl _,rfl,rfl,by rw [powP_one];rfl,by unfold pP;omega,by rw [Nat.one_mul,Nat.one_mul];exact Nat.mod_eq_of_lt (powP_lt n)⟩
 obtain ⟨m,out,sq,hm,rfl,rfl,rfl,ho,hp⟩:=hrel;have HP:=hid hp;have HO:=hid ho;clear hp ho;by_cases hlt:0<m
 · have hsq:=hid (powP_add sq sq);have HM:=hid (rmul_any (powP sq) (powP sq) w (powP_lt _) (powP_lt _));have HM2:=hid (rmul_any out (powP sq) w HO.out (powP_lt _));rw [hsq.out] at HM;have hb:bits .and .i64 (m:Int) 1=((m % 2:Nat):Int):=and_one m (by omega);have h01:=Nat.mod_two_eq_zero_or_one m;have hdm:=Nat.div_add_mod m 2;generalize m % 2=bt at hb h01 hdm;rcases h01 with rfl | rfl
   · have HE:Hid (out*powP ((sq+sq)*(m / 2)) % pP=powP n):=by
      rw [Hid, <- HP.out, <- Nat.two_mul,Nat.mul_assoc,Nat.mul_left_comm,show 2*(m / 2)=m by omega]
     go_wp2_with (go_at_call 80;(with_reducible refine HM.out.mono ?_);rintro e w' ⟨rfl,rfl⟩)
     go_round
     case rel=>exact ⟨m / 2,out,sq+sq,by omega,by go_num,rfl,rfl,HO.out,HE.out⟩
     simp [intOf];omega
   have HE:Hid (out*powP sq % pP*powP ((sq+sq)*(m / 2)) % pP=powP n):=by
    have e:sq+(sq+sq)*(m / 2)=sq*m:=by
     rw [<- Nat.two_mul,Nat.mul_comm 2 sq,Nat.mul_assoc,Nat.add_comm, <- Nat.mul_succ];congr 1
    rw [Hid,Nat.mod_mul_mod,Nat.mul_assoc, <- Nat.mul_mod_mod,powP_add,e,HP.out]
   go_wp2_with (go_at_call 80;first | (with_reducible refine HM2.out.mono ?_) | (with_reducible refine HM.out.mono ?_);rintro e w' ⟨rfl,rfl⟩)
   go_round
   case rel=>exact ⟨m / 2,out*powP sq % pP,sq+sq,by omega,by go_num,rfl,rfl,Nat.mod_lt _ pP_pos,HE.out⟩
   simp [intOf];omega
 obtain rfl:m=0:=by omega
 have HE:Hid (out=powP n):=by
  have:=HP.out;rw [Nat.mul_zero,powP_zero,Nat.mul_one,Nat.mod_eq_of_lt HO.out] at this;exact this
 go_wp2_with fail
 go_ret;exact ⟨by rw [HE.out];rfl,rfl⟩
end Go.Proofs.YtmiknfneeipkeaaGreat
namespace Go.Proofs.YtmiknfneeipkeaaGreat
open Go.RowKit Go.MapKept Go.ChangeMaps
abbrev vRa (a i:Int):Value:=.agg #[.string pA,.int .i64 i,.int .i64 (10*i),.int .i64 a,.int .i64 1,.bool false,.bool false,.bool false,.int .u64 i,.int .i64 1,.string ⟨#[]⟩,.int .i64 0]
abbrev ckC (R:Value) (n:Int) (E:Value) (ml me mi:Nat):Array Value:= #[R,.slice none 0 0,.int .i64 n,.string ⟨#[]⟩,.string ⟨#[]⟩,E,.slice none 0 0,.map (some ml),.map (some me),.map (some mi)]
section
variable {b:Nat} {w0 w:World} {l:List Ob} {R E:Value} {n:Int} {kb ml me mi:Nat} {L:List (Fi×Fi)}
theorem isLive_any (a:Int) (h3:a≠3) (h5:a≠5) (w:World):Calls Tryz.prog 211 #[.int .i64 a] w (fun e w'=>e= .returned (.bool true)/\w=w'):=by
 have h3':(a !=3)=true:=by simpa using h3
 have h5':(a !=5)=true:=by simpa using h5
 clear h3 h5;go_enter Tryz.func211,Tryz.ntmps211;go_wp2_with fail
 go_ret;exact ⟨by first | rfl | (rw [h5'];rfl),rfl⟩
theorem look_F {w:World} {m:Nat} (h:MapIs okF vF vF w m L) {f:Fi} (hf:okF f) {g:Fi} (ha:asc L f=some g) (W:World) (hW:Below w.heap.size w W):(Instr.lookup 207 (.map (some m)) (.agg #[.string f.1,.int .i64 f.2]) false).run Tryz.prog W= .ok (vF g) W:=by
 have:=MapIs.look mkF Tryz.underlying207 (zero168 W) (h.on hW) hf false;rw [ha] at this;exact this
end
end Go.Proofs.YtmiknfneeipkeaaGreat
namespace Go.Proofs.YtmiknfneeipkeaaGreat
open Go.RowKit
inductive Tr where
 | nil
 | take (k:Nat) (t:Tr)
 | one (k:Nat) (t:Tr)
 | two (k:Nat) (t:Tr) (k2:Nat) (t2:Tr)
 | three (k:Nat) (t:Tr) (k2:Nat) (t2:Tr) (k3:Nat) (t3:Tr)
section
variable {P:Program} {ops:Array Oper} {md:Region.Mode} {S:World->Prop} {Q:Exit->Act->World->Prop}
def runC (P:Program) (ops:Array Oper) (Q:Exit->Act->World->Prop) (S:World->Prop) (o:Oper) (K:Act->World->Prop) (a:Act) (w:World):Prop:=
 if Region.wanted o (yielded ops a.tmps)=true then Oper.wp P o a w (fun a' w'=>S w'/\K a' w') Q else S w/\K (a.put o.dst undef) w
def wpTr (P:Program) (ops:Array Oper) (Q:Exit->Act->World->Prop) (S:World->Prop) (T:Act->World->Prop):Tr->Act->World->Prop
 | .nil,a,w=>T a w
 | .take k t,a,w=>∃ v,YieldsIf P ops S (ops.getD k default) v a/\wpTr P ops Q S T t (a.put (ops.getD k default).dst v) w
 | .one k t,a,w=>runC P ops Q S (ops.getD k default) (wpTr P ops Q S T t) a w
 | .two k t k2 t2,a,w=>runC P ops Q S (ops.getD k default) (wpTr P ops Q S T t) a w/\runC P ops Q S (ops.getD k2 default) (wpTr P ops Q S T t2) a w
 | .three k t k2 t2 k3 t3,a,w=>runC P ops Q S (ops.getD k default) (wpTr P ops Q S T t) a w/\runC P ops Q S (ops.getD k2 default) (wpTr P ops Q S T t2) a w/\runC P ops Q S (ops.getD k3 default) (wpTr P ops Q S T t3) a w
def treeB (md:Region.Mode) (ops:Array Oper) (n g:Nat):Nat->Tr->Array Bool->Bool
 | 0,.nil,listed=>Region.seqB md ops g n listed
 | f+1,.take k t,listed=>decide (k<n)&&(Region.ready md ops listed).contains k&&Region.free md ops listed k&&treeB md ops n g f t (listed.setIfInBounds k true)
 | f+1,.one k t,listed=>decide (k<n)&&decide (Region.ready md ops listed=[k])&&treeB md ops n g f t (listed.setIfInBounds k true)
 | f+1,.two k t k2 t2,listed=>decide (k<n)&&decide (k2<n)&&decide (Region.ready md ops listed=[k,k2])&&treeB md ops n g f t (listed.setIfInBounds k true)&&treeB md ops n g f t2 (listed.setIfInBounds k2 true)
 | f+1,.three k t k2 t2 k3 t3,listed=>decide (k<n)&&decide (k2<n)&&decide (k3<n)&&decide (Region.ready md ops listed=[k,k2,k3])&&treeB md ops n g f t (listed.setIfInBounds k true)&&treeB md ops n g f t2 (listed.setIfInBounds k2 true)&&treeB md ops n g f t3 (listed.setIfInBounds k3 true)
 | _,_,_=>false
theorem runC_op {k:Nat} {K:Act->World->Prop} {a:Act} {w:World} (hk:k<ops.size) (h:runC P ops Q S (ops.getD k default) K a w):wpOp P ops Q k (fun a' w'=>S w'/\K a' w') a w:=by
 have h0:ops[k]? =some (ops.getD k default):=by simp [Array.getD_eq_getD_getElem?, hk]
 unfold wpOp;simp only [h0];unfold runC at h;by_cases hwt:Region.wanted (ops.getD k default) (yielded ops a.tmps)=true
 · rw [if_pos hwt] at h |-; exact .inl h
 rw [if_neg hwt] at h |-; exact h
theorem headH_of_tree {n g:Nat} {T:Act->World->Prop} (hsel:Region.noSelect ops=true) (hQ:∀ c a d v w,Q (.panic c) (a.put d v) w->Q (.panic c) a w) (hs:Region.sinkB md ops n=true) (hc:Region.chainB md ops n=true) (hn:n<ops.size):
 ∀ (f:Nat) (t:Tr) (listed:Array Bool) (a:Act) (w:World),HeadInv md ops n listed->S w->
 treeB md ops n g f t listed=true->wpTr P ops Q S T t a w->
 headH P md ops Q S n (fun listed' a' w'=>Region.seqB md ops g n listed'=true/\T a' w') f listed a w
 | 0,.nil,listed,a,w,_,_,hB,h=>⟨by simpa [treeB] using hB,by simpa [wpTr] using h⟩
 | f+1,.take k t,listed,a,w,inv,hS,hB,h=>by
  simp only [treeB,Bool.and_eq_true,decide_eq_true_eq] at hB;obtain ⟨⟨⟨hkn,hr⟩,hf⟩,hB'⟩:=hB;have hk:k<ops.size:=by omega
  have h0:ops[k]? =some (ops.getD k default):=by simp [Array.getD_eq_getD_getElem?, hk]
  have hr':k∈Region.ready md ops listed:=by simpa using hr
  obtain ⟨v,hy,hK⟩:∃ v,YieldsIf P ops S (ops.getD k default) v a/\wpTr P ops Q S T t (a.put (ops.getD k default).dst v) w:=h
  exact headH_first h0 (Region.noSelect_spec hsel) hQ hs hc hn hkn (fun listed' a' w' hL=>seqB_ready hL.1) f listed a w inv (Region.free_spec h0 hf) hr' hy hS
   (headH_of_tree hsel hQ hs hc hn f t _ _ w (inv.set hr' hkn) hS hB' hK)
 | f+1,.one k t,listed,a,w,inv,hS,hB,h=>by
  simp only [treeB,Bool.and_eq_true,decide_eq_true_eq] at hB;obtain ⟨⟨hkn,hr⟩,hB'⟩:=hB;refine ⟨fun h1=>(by rw [hr] at h1;cases h1),fun i hi=>?_⟩;have hr':i∈Region.ready md ops listed:=hi;rw [hr] at hi;obtain rfl:i=k:=by simpa using hi
  exact ⟨hkn,wpOp_mono (fun a' w' h'=>⟨h'.1,headH_of_tree hsel hQ hs hc hn f t _ a' w' (inv.set hr' hkn) h'.1 hB' h'.2⟩) (runC_op (by omega) h)⟩
 | f+1,.two k t k2 t2,listed,a,w,inv,hS,hB,h=>by
  simp only [treeB,Bool.and_eq_true,decide_eq_true_eq] at hB;obtain ⟨⟨⟨⟨hkn,hkn2⟩,hr⟩,hB'⟩,hB2⟩:=hB;refine ⟨fun h1=>(by rw [hr] at h1;cases h1),fun i hi=>?_⟩;have hr':i∈Region.ready md ops listed:=hi;rw [hr] at hi;simp only [List.mem_cons,List.not_mem_nil,or_false] at hi;obtain ⟨h1,h2⟩:runC P ops Q S (ops.getD k default) (wpTr P ops Q S T t) a w/\runC P ops Q S (ops.getD k2 default) (wpTr P ops Q S T t2) a w:=h;rcases hi with rfl | rfl
  · exact ⟨hkn,wpOp_mono (fun a' w' h'=>⟨h'.1,headH_of_tree hsel hQ hs hc hn f t _ a' w' (inv.set hr' hkn) h'.1 hB' h'.2⟩) (runC_op (by omega) h1)⟩
  exact ⟨hkn2,wpOp_mono (fun a' w' h'=>⟨h'.1,headH_of_tree hsel hQ hs hc hn f t2 _ a' w' (inv.set hr' hkn2) h'.1 hB2 h'.2⟩) (runC_op (by omega) h2)⟩
 | f+1,.three k t k2 t2 k3 t3,listed,a,w,inv,hS,hB,h=>by
  simp only [treeB,Bool.and_eq_true,decide_eq_true_eq] at hB;obtain ⟨⟨⟨⟨⟨⟨hkn,hkn2⟩,hkn3⟩,hr⟩,hB'⟩,hB2⟩,hB3⟩:=hB;refine ⟨fun h1=>(by rw [hr] at h1;cases h1),fun i hi=>?_⟩;have hr':i∈Region.ready md ops listed:=hi;rw [hr] at hi;simp only [List.mem_cons,List.not_mem_nil,or_false] at hi;obtain ⟨h1,h2,h3⟩:runC P ops Q S (ops.getD k default) (wpTr P ops Q S T t) a w/\runC P ops Q S (ops.getD k2 default) (wpTr P ops Q S T t2) a w/\runC P ops Q S (ops.getD k3 default) (wpTr P ops Q S T t3) a w:=h;rcases hi with rfl | rfl | rfl
  · exact ⟨hkn,wpOp_mono (fun a' w' h'=>⟨h'.1,headH_of_tree hsel hQ hs hc hn f t _ a' w' (inv.set hr' hkn) h'.1 hB' h'.2⟩) (runC_op (by omega) h1)⟩
  · exact ⟨hkn2,wpOp_mono (fun a' w' h'=>⟨h'.1,headH_of_tree hsel hQ hs hc hn f t2 _ a' w' (inv.set hr' hkn2) h'.1 hB2 h'.2⟩) (runC_op (by omega) h2)⟩
  exact ⟨hkn3,wpOp_mono (fun a' w' h'=>⟨h'.1,headH_of_tree hsel hQ hs hc hn f t3 _ a' w' (inv.set hr' hkn3) h'.1 hB3 h'.2⟩) (runC_op (by omega) h3)⟩
 | 0,.take _ _,_,_,_,_,_,hB,_=>by simp [treeB] at hB
 | 0,.one _ _,_,_,_,_,_,hB,_=>by simp [treeB] at hB
 | 0,.two _ _ _ _,_,_,_,_,_,hB,_=>by simp [treeB] at hB
 | 0,.three _ _ _ _ _ _,_,_,_,_,_,hB,_=>by simp [treeB] at hB
 | f+1,.nil,_,_,_,_,_,hB,_=>by simp [treeB] at hB
def treeTailB (md:Region.Mode) (ops:Array Oper) (n:Nat) (t:Tr):Bool:=
 Region.noSelect ops&&decide (n<ops.size)&&Region.sinkB md ops n&&Region.chainB md ops n&&treeB md ops n (ops.size-n) n t (Array.replicate ops.size false)
theorem wp_region_tree {id:Nat} {a:Act} {w:World} {l:List Oper} (n:Nat) (t:Tr) (S:World->Prop) (hm:P.follows .mixedOrders=true) (hQ:∀ c a d v w,Q (.panic c) (a.put d v) w->Q (.panic c) a w) (hB:treeTailB .any l.toArray n t=true) (hS:S w.drew)
 (h:wpTr P l.toArray Q S (fun a' w'=>wpList P l.toArray Q (l.drop n) a' w') t a w.drew):(Code.region id l.toArray true).wp P Q a w:=by
 simp only [treeTailB,Bool.and_eq_true,decide_eq_true_eq] at hB;obtain ⟨⟨⟨⟨hsel,hn⟩,hs⟩,hc⟩,hlex⟩:=hB;have hdl:(l.drop n).length=l.toArray.size-n:=by simp
 have inv0:HeadInv .any l.toArray n (Array.replicate l.toArray.size false):=
  ⟨by simp,fun j oj _ hl=>(by rw [getD_replicate_false] at hl;cases hl),fun t _ ht=>getD_in (by simpa using ht) (getD_replicate_false _ _)⟩
 have H:=headH_of_tree (md:=.any) (g:=l.toArray.size-n) hsel hQ hs hc hn n t _ a w.drew inv0 hS hlex h;refine wp_region_any hm ?_
 have:=any_of_headH (Q:=Q) (S:=S) (g:=l.toArray.size-n) (fun listed a' w' hL=>by
  have:=wpAny_of_seq (md:=.any) (Q':=Q) (l.drop n) n listed a' w' (fun j=>by simp [List.getElem?_drop]) (by rw [hdl];exact hL.1) hL.2;rwa [hdl] at this) _ _ _ _ H
 rw [show n+(l.toArray.size-n)=l.toArray.size by omega] at this;exact this
theorem wpTr_nil {T:Act->World->Prop} {a:Act} {w:World} (h:T a w):wpTr P ops Q S T .nil a w:=h
theorem wpTr_take {T:Act->World->Prop} {k:Nat} {t:Tr} {a:Act} {w:World} {o:Oper} (ho:ops.getD k default=o) (v:Value) (hy:YieldsIf P ops S o v a) (h:wpTr P ops Q S T t (a.put o.dst v) w):wpTr P ops Q S T (.take k t) a w:=by
 subst ho;exact ⟨v,hy,h⟩
theorem wpTr_run {K:Act->World->Prop} {k:Nat} {a:Act} {w:World} {o:Oper} (ho:ops.getD k default=o) (h:∀ K':Act->World->Prop,Shut (∀ a w,S w->K a w->K' a w)->if Region.wanted o (yielded ops a.tmps)=true then Oper.wp P o a w K' Q else K' (a.put o.dst undef) w):runC P ops Q S (ops.getD k default) K a w:=by
 subst ho;exact h _ (fun _ _ h1 h2=>⟨h1,h2⟩)
theorem getD_lit {l:List Oper} {k:Nat} {o:Oper} (h:l[k]? =some o):l.toArray.getD k default=o:=by
 simp only [Array.getD_eq_getD_getElem?, List.getElem?_toArray,h,Option.getD_some]
theorem wpTr_runL {l:List Oper} {K:Act->World->Prop} {k:Nat} {a:Act} {w:World} {o:Oper} (ho:l[k]? =some o) (h:∀ K':Act->World->Prop,Shut (∀ a w,S w->K a w->K' a w)->if Region.wanted o (yielded l.toArray a.tmps)=true then Oper.wp P o a w K' Q else K' (a.put o.dst undef) w):runC P l.toArray Q S (l.toArray.getD k default) K a w:=
 wpTr_run (getD_lit ho) h
theorem wpTr_takeL {l:List Oper} {T:Act->World->Prop} {k:Nat} {t:Tr} {a:Act} {w:World} {o:Oper} (ho:l[k]? =some o) (v:Value) (hy:YieldsIf P l.toArray S o v a) (h:wpTr P l.toArray Q S T t (a.put o.dst v) w):wpTr P l.toArray Q S T (.take k t) a w:=
 wpTr_take (getD_lit ho) v hy h
theorem wpTr_one {T:Act->World->Prop} {k:Nat} {t:Tr} {a:Act} {w:World} (h:runC P ops Q S (ops.getD k default) (wpTr P ops Q S T t) a w):wpTr P ops Q S T (.one k t) a w:=h
theorem wpTr_two {T:Act->World->Prop} {k k2:Nat} {t t2:Tr} {a:Act} {w:World} (h:runC P ops Q S (ops.getD k default) (wpTr P ops Q S T t) a w) (h2:runC P ops Q S (ops.getD k2 default) (wpTr P ops Q S T t2) a w):wpTr P ops Q S T (.two k t k2 t2) a w:=⟨h,h2⟩
theorem wpTr_three {T:Act->World->Prop} {k k2 k3:Nat} {t t2 t3:Tr} {a:Act} {w:World} (h:runC P ops Q S (ops.getD k default) (wpTr P ops Q S T t) a w) (h2:runC P ops Q S (ops.getD k2 default) (wpTr P ops Q S T t2) a w) (h3:runC P ops Q S (ops.getD k3 default) (wpTr P ops Q S T t3) a w):wpTr P ops Q S T (.three k t k2 t2 k3 t3) a w:=⟨h,h2,h3⟩
end
end Go.Proofs.YtmiknfneeipkeaaGreat
