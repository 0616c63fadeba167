/- Contracts of the walk, part 3. -/
import Derived.Laws.Bits64b
import Derived.Deep.RegionHeld3
import Derived.ArgAppend
import Derived.WalkKit
import Derived.Test.YtmiknfneeipkeaaGreatS02
import Derived.Test.YtmiknfneeipkeaaGreatS01
open Go.Lib (hid)
namespace Go.Proofs.YtmiknfneeipkeaaGreat
open Go.RowKit
theorem halt_q {p:Prop} (h:Hid p):p:=h
theorem rint_u {p q:Nat} {w W:World} (h:p=q) (hw:w=W):Ending.returned (.int .u64 ((q:Nat):Int))= .returned (.int .u64 ((p:Nat):Int))/\w=W:=⟨by rw [h],hw⟩
set_option maxRecDepth 100000 in
set_option maxHeartbeats 1000000 in
theorem fadd_any (a b:Nat) (w:World) (ha:a<2305843009213693951) (hb:b<2305843009213693951):Calls Tryz.prog 119 #[.int .u64 (a:Int),.int .u64 (b:Int)] w fun e w'=>e= .returned (.int .u64 (((a+b) % pP:Nat):Int))/\w=w':=by
 by_cases h:a+b<2305843009213693951
 · have e1:Hid ((a+b) % pP=a+b):=Nat.mod_eq_of_lt h;have h':¬ (2305843009213693951<=(a:Int)+b):=by omega
   go_enter Tryz.func119,Tryz.ntmps119;go_wp2
   go_ret;exact rint_u (q:=a+b) e1.out rfl
 have e1:Hid ((a+b) % pP=a+b-2305843009213693951):=by
  rw [Hid,Nat.mod_eq_sub_mod (by unfold pP;omega)];exact Nat.mod_eq_of_lt (by unfold pP;omega)
 have h':2305843009213693951<=(a:Int)+b:=by omega
 go_enter Tryz.func119,Tryz.ntmps119;go_wp2
 go_ret;have e2:((a+b-2305843009213693951:Nat):Int)=(a:Int)+b-2305843009213693951:=by omega
 rw [e1.out,e2];exact ⟨rfl,rfl⟩
theorem mask61 (a:Nat) (ha:a<18446744073709551616):bits .and .u64 (a:Int) 2305843009213693951=((a % 2305843009213693952:Nat):Int):=by
 have h:=bits_and_u64_nat a 2305843009213693951 ha (by omega);have e:a &&& 2305843009213693951=a % 2305843009213693952:=Nat.and_two_pow_sub_one_eq_mod a 61;rw [e] at h;exact h
theorem or3 (x y:Nat) (hy:y<8):x*8 ||| y=x*8+y:=by
 have:=Nat.two_pow_add_eq_or_of_lt (i:=3) (b:=y) (by omega) x;rw [show 2^3*x=x*8 by omega] at this;exact this.symm
theorem prod_lt {a b:Nat} (ha:a<2305843009213693951) (hb:b<2305843009213693951):a*b<pP*pP:=Nat.mul_lt_mul'' (by unfold pP;exact ha) (by unfold pP;exact hb)
theorem mul_lo (m:Nat):(bits .and .u64 ((m:Int) % 18446744073709551616) 2305843009213693951).tmod 2305843009213693951=((m % 18446744073709551616 % 2305843009213693952 % pP:Nat):Int):=by
 have e:(m:Int) % 18446744073709551616=((m % 18446744073709551616:Nat):Int):=by omega
 rw [e,mask61 _ (Nat.mod_lt _ (by omega)),Int.tmod_eq_emod_of_nonneg (by omega)];unfold pP;omega
theorem mul_hi (m:Nat) (hm:m<pP*pP):bits .or .u64 (IntKind.u64.wrap ((m:Int) / 18446744073709551616*8)) ((m:Int) % 18446744073709551616 / 2305843009213693952)=((m / 18446744073709551616*8+m % 18446744073709551616 / 2305843009213693952:Nat):Int):=by
 have hh:=mul_high m hm
 have e1:IntKind.u64.wrap ((m:Int) / 18446744073709551616*8)=((m / 18446744073709551616*8:Nat):Int):=by
  rw [IntKind.wrap_u64];omega
 have e2:(m:Int) % 18446744073709551616 / 2305843009213693952=((m % 18446744073709551616 / 2305843009213693952:Nat):Int):=by omega
 rw [e1,e2,bits_or_u64_nat _ _ (by omega) (by omega),or3 _ _ (by omega)]
theorem mul_sum (m:Nat) (hm:m<pP*pP):(m % 18446744073709551616 % 2305843009213693952 % pP+(m / 18446744073709551616*8+m % 18446744073709551616 / 2305843009213693952) % pP) % pP=m % pP:=by
 rw [<- Nat.add_mod,mul_words m hm]
set_option maxRecDepth 100000 in
set_option maxHeartbeats 1000000 in
theorem fmul_any (a b:Nat) (w:World) (ha:a<2305843009213693951) (hb:b<2305843009213693951):Calls Tryz.prog 120 #[.int .u64 (a:Int),.int .u64 (b:Int)] w fun e w'=>e= .returned (.int .u64 (((a*b) % pP:Nat):Int))/\w=w':=by
 have HP:=hid (prod_lt ha hb);go_enter Tryz.func120,Tryz.ntmps120;go_wp2_with (first | (go_at_call 125;refine (Tryz.bits_Mul64 a b (by omega) (by omega) _).mono ?_;rintro e w' ⟨rfl,hw⟩;rw [hw]) | (go_at_call 119;refine halt_q ?_))
 have e1:=mul_lo (a*b);have e2:=mul_hi (a*b) HP.out;rw [Int.natCast_mul] at e1 e2
 have e3:(((a*b / 18446744073709551616*8+a*b % 18446744073709551616 / 2305843009213693952:Nat):Int)).tmod 2305843009213693951=(((a*b / 18446744073709551616*8+a*b % 18446744073709551616 / 2305843009213693952) % pP:Nat):Int):=by
  rw [Int.tmod_eq_emod_of_nonneg (by omega)];unfold pP;omega
 rw [e2,e1,e3];refine (fadd_any (a*b % 18446744073709551616 % 2305843009213693952 % pP) ((a*b / 18446744073709551616*8+a*b % 18446744073709551616 / 2305843009213693952) % pP) w (Nat.mod_lt _ pP_pos) (Nat.mod_lt _ pP_pos)).mono ?_;rintro e w' ⟨rfl,rfl⟩;rw [mul_sum _ HP.out];clear e1 e2 e3;go_wp2_with fail
 go_ret;exact ⟨rfl,rfl⟩
theorem fp_byte (bs:List UInt8) (x:UInt8):(fpSum bs*747382712868975713 % pP+(x.toNat+1)) % pP=fpSum (bs++[x]):=by
 rw [fpSum_snoc,fpStep,Nat.add_mod,Nat.mod_mod, <- Nat.add_mod];rfl
def RS (w:World) (A:Option Addr) (bs:List UInt8):Prop:=(A=none->bs.length=0)/\∀ ad,A=some ad->0<bs.length->∃ g o,ad=⟨g,o,none⟩/\∀ j,j<bs.length->w.cell? ⟨g,o+j,none⟩=some (encU (bs.getD j 0))
theorem RS.sb {w:World} {A:Option Addr} {bs:List UInt8} (h:RS w A bs):SB w A bs:=by
 refine ⟨h.1,fun ad e j u hu=>?_⟩;obtain ⟨hj,hu'⟩:=List.getElem?_eq_some_iff.1 hu;have hj':j<bs.length:=by simpa using hj
 obtain ⟨g,o,rfl,hc⟩:=h.2 ad e (by omega);rw [lit_add,hc j hj', <- hu',List.getElem_map,List.getD_eq_getElem?_getD,List.getElem?_eq_getElem hj'];rfl
theorem RB.rs {w:World} {d:BD} {bs:List UInt8} (h:RB w d bs):RS w d.A bs:=by
 obtain ⟨h1,h2,h3,h4⟩:=h;refine ⟨fun e=>by have:=h3 e;omega,fun ad e _=>?_⟩;obtain ⟨g,cur,rfl,hg,_,hc⟩:=h4 ad e;refine ⟨g,0,rfl,fun j hj=>?_⟩;rw [hg.cell,Nat.zero_add];refine hc j _ ?_;rw [List.getElem?_map,List.getD_eq_getElem?_getD,List.getElem?_eq_getElem hj];rfl
theorem RS.lt {w:World} {A:Option Addr} {bs:List UInt8} (h:RS w A bs) {g o:Nat} (e:A=some ⟨g,o,none⟩) (hp:0<bs.length):g<w.heap.size:=h.sb.lt _ e hp
theorem RS.on {w w':World} {A:Option Addr} {bs:List UInt8} (h:RS w A bs) (hb:Below w.heap.size w w'):RS w' A bs:=by
 refine ⟨h.1,fun ad e hp=>?_⟩;obtain ⟨g,o,rfl,hc⟩:=h.2 ad e hp;exact ⟨g,o,rfl,fun j hj=>by rw [hb.cell (p:=⟨g,o+j,none⟩) (h.lt e (by omega))];exact hc j hj⟩
theorem RS.sub {w:World} {g o:Nat} {bs:List UInt8} (h:RS w (some ⟨g,o,none⟩) bs) (k n:Nat) (hk:k+n<=bs.length):RS w (some ⟨g,o+k,none⟩) ((bs.drop k).take n):=by
 refine ⟨(fun e=>by cases e),fun ad e hp=>?_⟩;simp only [List.length_take,List.length_drop] at hp;obtain ⟨g',o',e2,hc⟩:=h.2 _ rfl (by omega);injection e2 with e3 e4 _;subst e3 e4;injection e with e;subst e;refine ⟨g,o+k,rfl,fun j hj=>?_⟩;simp only [List.length_take,List.length_drop] at hj;have:=hc (k+j) (by omega);rw [Nat.add_assoc,this];congr 2
 rw [List.getD_eq_getElem?_getD,List.getD_eq_getElem?_getD,List.getElem?_take_of_lt (by omega),List.getElem?_drop]
theorem take_snocU (bs:List UInt8) (k:Nat) (h:k<bs.length):bs.take (k+1)=bs.take k++[bs.getD k 0]:=by
 rw [List.take_succ_eq_append_getElem h,List.getD_eq_getElem?_getD,List.getElem?_eq_getElem h];rfl
set_option maxRecDepth 100000 in
set_option maxHeartbeats 1000000 in
theorem Sum_any (A:Option Addr) (c:Nat) (bs:List UInt8) (w:World) (h:RS w A bs) (hn:bs.length<=1099511627776):Calls Tryz.prog 77 #[.slice A bs.length c] w fun e w'=>e= .returned (.int .u64 ((fpSum bs:Nat):Int))/\w=w':=by
 have H:=hid h;clear h;go_enter Tryz.func77,Tryz.ntmps77;go_wp2_with fail
 go_loop [3,8] (fun v i=>∃ k:Nat,k<=bs.length/\i= .int .i64 k/\v= .int .u64 ((fpSum (bs.take k):Nat):Int)) (fun _ i=>bs.length-(intOf i).toNat)
 case atStart=>exact ⟨0,Nat.zero_le _,rfl,by rw [List.take_zero,fpSum_nil];rfl⟩
 obtain ⟨k,hk,rfl,rfl⟩:=hrel;by_cases hlt:k<bs.length
 · cases A with
   | none=>exact absurd (H.out.1 rfl) (by omega)
   | some ad=>
    obtain ⟨g,o,rfl,hc⟩:=H.out.2 ad rfl (by omega);have hcl:w.cell? ⟨g,o+k,none⟩=some (.int .u8 (((bs.getD k 0).toNat:Nat):Int)):=hc k hlt;have HT:Hid ((fpSum (bs.take k)*747382712868975713 % pP+((bs.getD k 0).toNat+1)) % pP=fpSum (bs.take (k+1))):=by rw [Hid,take_snocU bs k hlt, <- fp_byte]
    have hf:=fpSum_lt (bs.take k);have HF:Hid (fpSum (bs.take k)<pP):=hf;clear hc hf;generalize hx:bs.getD k 0=x at *; have hx2:=x.toNat_lt;have HX:=hid hx;clear hx;generalize fpSum (bs.take k)=sm at *; generalize hs':fpSum (bs.take (k+1))=sm' at *; have HS:=hid hs';clear hs';have hm:=fun w=>fmul_any sm 747382712868975713 w HF.out (by omega);have hmt:sm*747382712868975713 % pP<pP:=Nat.mod_lt _ pP_pos;generalize sm*747382712868975713 % pP=t at *; have ha:=fun w=>fadd_any t (x.toNat+1) w hmt (by omega);rw [HT.out] at ha;simp only [Int.natCast_add,Int.natCast_one] at ha;have HM:=hid hm;have HA:=hid ha;clear hm ha hmt;go_wp2_with (first | (go_at_call 120;refine (HM.out _).mono ?_;rintro e w' ⟨rfl,rfl⟩) | (go_at_call 119;refine (HA.out _).mono ?_;rintro e w' ⟨rfl,rfl⟩))
    go_round
    case rel=>exact ⟨k+1,by omega,by go_num,by rw [HS.out]⟩
    simp [intOf];omega
 obtain rfl:k=bs.length:=by omega
 rw [List.take_length];go_wp2_with fail
 go_ret;exact ⟨rfl,rfl⟩
theorem fold_of {α:Sort _} (x:α):∃ y,Hid (x=y):=⟨x,rfl⟩
set_option maxRecDepth 100000 in
set_option maxHeartbeats 1000000 in
theorem Of_any (A:Option Addr) (c:Nat) (bs:List UInt8) (w:World) (h:RS w A bs) (hn:bs.length<=1099511627776):Calls Tryz.prog 33 #[.slice A bs.length c] w fun e w'=>e= .returned (.agg #[.int .u64 (fpOf bs).1,.int .i64 (fpOf bs).2])/\Below w.heap.size w w':=by
 have H:=hid (fun W (hW:RS W A bs)=>Sum_any A c bs W hW hn);have H1:=hid (h.on ((Below.refl _ w).alloc (Nat.le_refl _) (.cells #[.int .u64 0,.int .i64 0] 36)));clear h;simp only [fpOf];generalize fpSum bs=sm at *; go_enter Tryz.func33,Tryz.ntmps33;go_wp2_with (go_at_call 77;refine (H.out _ H1.out).mono ?_;rintro e w' ⟨rfl,rfl⟩)
 refine bodyPost_ret (v:=.agg #[.int .u64 ((sm:Nat):Int),.int .i64 ((bs.length:Nat):Int)]) ?_ rfl ⟨rfl,?_⟩
 · simp [results,Tryz.results33,go_sem]
 exact (Below.refl _ _).alloc (Nat.le_refl _) _
end Go.Proofs.YtmiknfneeipkeaaGreat
namespace Go.Proofs.YtmiknfneeipkeaaGreat
open Go.RowKit
set_option maxRecDepth 100000 in
set_option maxHeartbeats 1000000 in
theorem rplus_any (a b:Nat) (w:World) (ha:a<=2305843009213693951) (hb:b<=2305843009213693951):Calls Tryz.prog 79 #[.int .u64 (a:Int),.int .u64 (b:Int)] w fun e w'=>e= .returned (.int .u64 (((a+b) % pP:Nat):Int))/\w=w':=by
 by_cases h:a+b<2305843009213693951
 · have e1:Hid ((a+b) % pP=a+b):=Nat.mod_eq_of_lt h;have h':¬ (2305843009213693951<=(a:Int)+b):=by omega
   go_enter Tryz.func79,Tryz.ntmps79;go_wp2
   go_ret;exact rint_u (q:=a+b) e1.out rfl
 have h':2305843009213693951<=(a:Int)+b:=by omega
 by_cases h2:a+b-2305843009213693951<2305843009213693951
 · have e1:Hid ((a+b) % pP=a+b-2305843009213693951):=by
    rw [Hid,Nat.mod_eq_sub_mod (by unfold pP;omega)];exact Nat.mod_eq_of_lt (by unfold pP;omega)
   have h2':¬ (2305843009213693951<=(a:Int)+b-2305843009213693951):=by omega
   obtain ⟨r,hr⟩:∃ r,r=(a+b) % pP:=⟨_,rfl⟩;rw [<- hr];have E2:Hid (((r:Nat):Int)=(a:Int)+b-2305843009213693951):=by rw [Hid,hr,e1.out];omega
   clear hr e1;go_enter Tryz.func79,Tryz.ntmps79;go_wp2
   go_ret;rw [E2.out];exact ⟨rfl,rfl⟩
 obtain rfl:a=2305843009213693951:=by omega
 obtain rfl:b=2305843009213693951:=by omega
 obtain ⟨r,hr⟩:∃ r,r=(2305843009213693951+2305843009213693951) % pP:=⟨_,rfl⟩
 have hr0:r=0:=by
  rw [hr];unfold pP;omega
 rw [<- hr,hr0];clear hr hr0;go_enter Tryz.func79,Tryz.ntmps79;go_wp2
 go_ret;exact ⟨rfl,rfl⟩
theorem rmul_lo (m:Nat):bits .and .u64 ((m:Int) % 18446744073709551616) 2305843009213693951=((m % 18446744073709551616 % 2305843009213693952:Nat):Int):=by
 have e:(m:Int) % 18446744073709551616=((m % 18446744073709551616:Nat):Int):=by omega
 rw [e,mask61 _ (Nat.mod_lt _ (by omega))]
set_option maxRecDepth 100000 in
set_option maxHeartbeats 1000000 in
theorem rmul_any (a b:Nat) (w:World) (ha:a<2305843009213693951) (hb:b<2305843009213693951):Calls Tryz.prog 80 #[.int .u64 (a:Int),.int .u64 (b:Int)] w fun e w'=>e= .returned (.int .u64 (((a*b) % pP:Nat):Int))/\w=w':=by
 have HP:=hid (prod_lt ha hb);go_enter Tryz.func80,Tryz.ntmps80;go_wp2_with (first | (go_at_call 125;refine (Tryz.bits_Mul64 a b (by omega) (by omega) _).mono ?_;rintro e w' ⟨rfl,hw⟩;rw [hw]) | (go_at_call 79;refine halt_q ?_))
 have e1:=rmul_lo (a*b);have e2:=mul_hi (a*b) HP.out;rw [Int.natCast_mul] at e1 e2;rw [e2,e1];have hh:=mul_high _ HP.out;refine (rplus_any (a*b % 18446744073709551616 % 2305843009213693952) (a*b / 18446744073709551616*8+a*b % 18446744073709551616 / 2305843009213693952) w (by omega) (by omega)).mono ?_;rintro e w' ⟨rfl,rfl⟩;rw [mul_words _ HP.out];clear e1 e2 hh;go_wp2_with fail
 go_ret;exact ⟨rfl,rfl⟩
set_option maxRecDepth 100000 in
set_option maxHeartbeats 2000000 in
theorem rSum_any (A:Option Addr) (c:Nat) (bs:List UInt8) (w:World) (h:RS w A bs) (hn:bs.length<=1099511627776):Calls Tryz.prog 73 #[.slice A bs.length c] w fun e w'=>e= .returned (.int .u64 ((fpSum bs:Nat):Int))/\Below w.heap.size w w':=by
 have H:=hid h;clear h;go_enter Tryz.func73,Tryz.ntmps73;go_wp2_with fail
 go_loopw [3,4] (fun v i wr=>∃ (k:Nat),k<=bs.length/\i= .int .i64 k/\v= .int .u64 ((fpSum (bs.take k):Nat):Int)/\Below w.heap.size w wr) (fun _ i _=>bs.length-(intOf i).toNat)
 case atStart=>exact ⟨0,Nat.zero_le _,rfl,by rw [List.take_zero,fpSum_nil];rfl,Below.refl _ _⟩
 obtain ⟨k,hk,rfl,rfl,hbl⟩:=hrel;have HB:=hid hbl;have HR:=hid (H.out.on hbl);clear hbl;by_cases hlt:k<bs.length
 · cases A with
   | none=>exact absurd (H.out.1 rfl) (by omega)
   | some ad=>
    obtain ⟨g,o,rfl,hc⟩:=HR.out.2 ad rfl (by omega);have hcl:wr.cell? ⟨g,o+k,none⟩=some (.int .u8 (((bs.getD k 0).toNat:Nat):Int)):=hc k hlt;have HT:Hid ((fpSum (bs.take k)*747382712868975713 % pP+((bs.getD k 0).toNat+1)) % pP=fpSum (bs.take (k+1))):=by rw [Hid,take_snocU bs k hlt, <- fp_byte]
    have hf:=fpSum_lt (bs.take k);have HF:Hid (fpSum (bs.take k)<pP):=hf;clear hc hf;generalize hx:bs.getD k 0=x at *; have hx2:=x.toNat_lt;have HX:=hid hx;clear hx;generalize fpSum (bs.take k)=sm at *; generalize hs':fpSum (bs.take (k+1))=sm' at *; have HS:=hid hs';clear hs';have hm:=fun w=>rmul_any sm 747382712868975713 w HF.out (by omega);have hmt:sm*747382712868975713 % pP<pP:=Nat.mod_lt _ pP_pos;generalize sm*747382712868975713 % pP=t at *; have ha:=fun w=>rplus_any t (x.toNat+1) w (by unfold pP at hmt;omega) (by omega);rw [HT.out] at ha;simp only [Int.natCast_add,Int.natCast_one] at ha;have HM:Hid (∀ w,Calls Tryz.prog 80 #[.int .u64 ((sm:Nat):Int),.int .u64 747382712868975713] w fun e w'=>e= .returned (.int .u64 ((t:Nat):Int))/\w'=w):=fun w=>(hm w).mono fun _ _ h=>⟨h.1,h.2.symm⟩;have HA:Hid (∀ w,Calls Tryz.prog 79 #[.int .u64 ((t:Nat):Int),.int .u64 (((x.toNat:Nat):Int)+1)] w fun e w'=>e= .returned (.int .u64 ((sm':Nat):Int))/\w'=w):=fun w=>(ha w).mono fun _ _ h=>⟨h.1,h.2.symm⟩;clear hm ha hmt;go_wp2_with fail
    go_quiet ((first | (go_at_call 80;exact Calls.quiet_of_same (HM.out _)) | (go_at_call 79;exact Calls.quiet_of_same (HA.out _))))
    go_wp2_with fail
    go_roundw
    case rel=>exact ⟨k+1,by omega,by go_num,by rw [HS.out],bdrewN HB.out _⟩
    simp [intOf];omega
 obtain rfl:k=bs.length:=by omega
 rw [List.take_length];go_wp2_with fail
 go_ret;exact ⟨rfl,HB.out⟩
set_option maxRecDepth 100000 in
set_option maxHeartbeats 1000000 in
theorem rOf_any (A:Option Addr) (c:Nat) (bs:List UInt8) (w:World) (h:RS w A bs) (hn:bs.length<=1099511627776):Calls Tryz.prog 70 #[.slice A bs.length c] w fun e w'=>e= .returned (.agg #[.int .u64 (fpOf bs).1,.int .i64 (fpOf bs).2])/\Below w.heap.size w w':=by
 have H:=hid (fun W (hW:RS W A bs)=>rSum_any A c bs W hW hn);have H1:=hid (h.on ((Below.refl _ w).alloc (Nat.le_refl _) (.cells #[.int .u64 0,.int .i64 0] 36)));have B1:Hid (IsB (w.alloc (.cells #[.int .u64 0,.int .i64 0] 36)) w.heap.size 36 #[.int .u64 0,.int .i64 0]):=IsB.new _ _ _;clear h;simp only [fpOf];generalize fpSum bs=sm at *; go_enter Tryz.func70,Tryz.ntmps70;go_wp2_with (go_at_call 73;refine (H.out _ H1.out).mono ?_;rintro e w' ⟨rfl,hb⟩;have HB:=hid hb;have hc0:=(B1.out.on hb).cell 0;have hc1:=(B1.out.on hb).cell 1;have hf0:=(B1.out.on hb).frozen 0;have hf1:=(B1.out.on hb).frozen 1;clear hb)
 refine bodyPost_ret (v:=.agg #[.int .u64 ((sm:Nat):Int),.int .i64 ((bs.length:Nat):Int)]) ?_ rfl ⟨rfl,?_⟩
 · simp [results,Tryz.results70,go_sem,hc0,hc1]
 exact ((((Below.refl _ w).alloc (Nat.le_refl _) _).trans (HB.out.mono (by simp))).setCell (p:=⟨w.heap.size,0,none⟩) (Nat.le_refl _) _).setCell (p:=⟨w.heap.size,1,none⟩) (Nat.le_refl _) _
end Go.Proofs.YtmiknfneeipkeaaGreat
namespace Go.Proofs.YtmiknfneeipkeaaGreat
open Go.RowKit
section
variable {P:Program} {ops:Array Oper} {md:Region.Mode} {S:World->Prop} {Q:Exit->Act->World->Prop}
def headH (P:Program) (md:Region.Mode) (ops:Array Oper) (Q:Exit->Act->World->Prop) (S:World->Prop) (n:Nat) (L:Array Bool->Act->World->Prop):Nat->Array Bool->Act->World->Prop
 | 0,listed,a,w=>L listed a w
 | f+1,listed,a,w=>Region.ready md ops listed≠[]/\∀ i∈Region.ready md ops listed,i<n/\wpOp P ops Q i (fun a' w'=>S w'/\headH P md ops Q S n L f (listed.setIfInBounds i true) a' w') a w
theorem any_of_headH {n g:Nat} {L:Array Bool->Act->World->Prop} (hL:∀ listed a w,L listed a w->wpAny P md ops Q g listed a w):
 ∀ (f:Nat) (listed:Array Bool) (a:Act) (w:World),headH P md ops Q S n L f listed a w->wpAny P md ops Q (f+g) listed a w
 | 0,listed,a,w,h=>by rw [Nat.zero_add];exact hL _ _ _ h
 | f+1,listed,a,w,h=>by
  rw [show f+1+g=(f+g)+1 by omega];exact ⟨fun h0=>absurd h0 h.1,fun i hi=>wpOp_mono (fun a' w' h'=>any_of_headH hL f _ a' w' h'.2) (h.2 i hi).2⟩
theorem headH_first {n i:Nat} {oi:Oper} {v:Value} {L:Array Bool->Act->World->Prop} (hi:ops[i]? =some oi) (hsel:∀ (j:Nat) (o:Oper) cs b,ops[j]? =some o->o.op≠ .select cs b)
 (hQ:∀ c a d v w,Q (.panic c) (a.put d v) w->Q (.panic c) a w)
 (hs:Region.sinkB md ops n=true) (hc:Region.chainB md ops n=true) (hn:n<ops.size) (hin:i<n)
 (hdone:∀ listed a w,L listed a w->∀ j∈Region.ready md ops listed,n<=j):
 ∀ (f:Nat) (listed:Array Bool) (a:Act) (w:World),HeadInv md ops n listed->
  (∀ j oj,ops[j]? =some oj->j≠i->listed.getD j true=false->(∀ e∈oj.after,Region.binds md e=true->e.on≠i)->oi.apart ops oj=true)->
  i∈Region.ready md ops listed->YieldsIf P ops S oi v a->S w->
  headH P md ops Q S n L f (listed.setIfInBounds i true) (a.put oi.dst v) w->headH P md ops Q S n L (f+1) listed a w:=by
 have early:∀ (listed:Array Bool),HeadInv md ops n listed->i∈Region.ready md ops listed->∀ j∈Region.ready md ops listed,j<n:=by
  intro listed inv hr j hj;rcases Nat.lt_or_ge j n with h | h
  · exact h
  exact absurd hj (tail_waits hs hc hn inv _ i rfl hin (mem_ready.1 hr).1 j h)
 intro f;induction f with
 | zero=>
  intro listed a w inv _ hr hy hS H;refine ⟨fun h=>(by rw [h] at hr;cases hr),fun j hj=>⟨early listed inv hr j hj,?_⟩⟩;by_cases hji:j=i
  · subst hji;exact hy.wpOp hi hS ⟨hS,H⟩
  have h1:=hdone _ _ _ H j (ready_mono hj hji);have h2:=early listed inv hr j hj;omega
 | succ f ih=>
  intro listed a w inv hfree hr hy hS H;have hun:=(mem_ready.1 hr).1;refine ⟨fun h=>(by rw [h] at hr;cases hr),fun j hj=>⟨early listed inv hr j hj,?_⟩⟩;by_cases hji:j=i
  · subst hji;exact hy.wpOp hi hS ⟨hS,H⟩
  have hjn:=early listed inv hr j hj;have h1:=(H.2 j (ready_mono hj hji)).2;obtain ⟨hjun,oj,hoj,hall⟩:=mem_ready.1 hj
  have hnot:∀ e∈oj.after,Region.binds md e=true->e.on≠i:=fun e he hb heq=>by
   have h1:=hall e he hb;rw [heq,getD_both hun] at h1;cases h1
  have h2:=wpOp_putIf hoj (hfree j oj hoj hji hjun hnot) (fun cs b=>hsel i oi cs b hi) (fun cs b=>hsel j oj cs b hoj) (fun c a w h=>hQ c a _ _ w h) hy h1
  have hfree':∀ k ok,ops[k]? =some ok->k≠i->(listed.setIfInBounds j true).getD k true=false->
   (∀ e∈ok.after,Region.binds md e=true->e.on≠i)->oi.apart ops ok=true:=fun k ok hk hki hun hno=>by
   refine hfree k ok hk hki ?_ hno;by_cases hjk:j=k
   · subst hjk;exact hjun
   rw [getD_set_ne true hjk] at hun;exact hun
  refine wpOp_mono (fun a' w' h3=>⟨h3.2.1,ih (listed.setIfInBounds j true) a' w' (inv.set hj hjn) hfree' (ready_mono hr (Ne.symm hji)) h3.1 h3.2.1 ?_⟩) h2;rw [Array.setIfInBounds_comm _ _ hji];exact h3.2.2
def wpHeld (P:Program) (ops:Array Oper) (Q:Exit->Act->World->Prop) (S:World->Prop) (T:Act->World->Prop):List (Bool×Oper)->Act->World->Prop
 | (true,o)::fs,a,w=>∃ v,YieldsIf P ops S o v a/\wpHeld P ops Q S T fs (a.put o.dst v) w
 | (false,o)::fs,a,w=>if Region.wanted o (yielded ops a.tmps)=true then Oper.wp P o a w (fun a' w'=>S w'/\wpHeld P ops Q S T fs a' w') Q else S w/\wpHeld P ops Q S T fs (a.put o.dst undef) w
 | [],a,w=>T a w
theorem wpHeld_take {T:Act->World->Prop} {fs:List (Bool×Oper)} {o:Oper} {a:Act} {w:World} {v:Value} (h1:YieldsIf P ops S o v a) (h2:wpHeld P ops Q S T fs (a.put o.dst v) w):wpHeld P ops Q S T ((true,o)::fs) a w:=⟨v,h1,h2⟩
theorem wpHeld_run {T:Act->World->Prop} {fs:List (Bool×Oper)} {o:Oper} {a:Act} {w:World}
 (h:∀ K:Act->World->Prop,Shut (∀ a w,S w->wpHeld P ops Q S T fs a w->K a w)->if Region.wanted o (yielded ops a.tmps)=true then Oper.wp P o a w K Q else K (a.put o.dst undef) w):wpHeld P ops Q S T ((false,o)::fs) a w:=
 h _ (fun _ _ h1 h2=>⟨h1,h2⟩)
theorem wpHeld_nil {T:Act->World->Prop} {a:Act} {w:World} (h:T a w):wpHeld P ops Q S T [] a w:=by
 unfold wpHeld;exact h
instance:Inhabited Oper:=⟨{ dst:=none,op:=.move (.tmp 0),type:=0,pos:="",after:= #[],guard:=none }⟩
def picked (l:List Oper) (fs:List (Nat×Bool)):List (Bool×Oper):=fs.map (fun p=>(p.2,l.getD p.1 default))
def heldB (md:Region.Mode) (ops:Array Oper) (n g:Nat):List (Nat×Bool)->Array Bool->Bool
 | [],listed=>Region.seqB md ops g n listed
 | (k,true)::fs,listed=>decide (k<n)&&(Region.ready md ops listed).contains k&&Region.free md ops listed k&&heldB md ops n g fs (listed.setIfInBounds k true)
 | (k,false)::fs,listed=>decide (k<n)&&decide (Region.ready md ops listed=[k])&&heldB md ops n g fs (listed.setIfInBounds k true)
def heldTailB (md:Region.Mode) (ops:Array Oper) (fs:List (Nat×Bool)):Bool:=
 Region.noSelect ops&&decide (fs.length<ops.size)&&Region.sinkB md ops fs.length&&Region.chainB md ops fs.length&&heldB md ops fs.length (ops.size-fs.length) fs (Array.replicate ops.size false)
theorem headH_of_held {n g:Nat} {l:List Oper} {T:Act->World->Prop} (hl:ops=l.toArray) (hsel:Region.noSelect ops=true) (hQ:∀ c a d v w,Q (.panic c) (a.put d v) w->Q (.panic c) a w) (hs:Region.sinkB md ops n=true) (hc:Region.chainB md ops n=true) (hn:n<ops.size):
 ∀ (fs:List (Nat×Bool)) (listed:Array Bool) (a:Act) (w:World),HeadInv md ops n listed->S w->
 heldB md ops n g fs listed=true->wpHeld P ops Q S T (picked l fs) a w->
 headH P md ops Q S n (fun listed' a' w'=>Region.seqB md ops g n listed'=true/\T a' w') fs.length listed a w
 | [],listed,a,w,_,_,hB,h=>⟨by simpa [heldB] using hB,by simpa [picked,wpHeld] using h⟩
 | (k,true)::fs,listed,a,w,inv,hS,hB,h=>by
  simp only [heldB,Bool.and_eq_true,decide_eq_true_eq] at hB;obtain ⟨⟨⟨hkn,hr⟩,hf⟩,hB'⟩:=hB;have hkl:k<l.length:=by rw [hl] at hn;simp at hn;omega
  have h0:ops[k]? =some (l.getD k default):=by rw [hl];simp [List.getD_eq_getElem?_getD,hkl]
  have hr':k∈Region.ready md ops listed:=by simpa using hr
  obtain ⟨v,hy,hK⟩:∃ v,YieldsIf P ops S (l.getD k default) v a/\wpHeld P ops Q S T (picked l fs) (a.put (l.getD k default).dst v) w:=h
  exact headH_first h0 (Region.noSelect_spec hsel) hQ hs hc hn hkn (fun listed' a' w' hL=>seqB_ready hL.1) fs.length listed a w inv (Region.free_spec h0 hf) hr' hy hS
   (headH_of_held hl hsel hQ hs hc hn fs _ _ w (inv.set hr' hkn) hS hB' hK)
 | (k,false)::fs,listed,a,w,inv,hS,hB,h=>by
  simp only [heldB,Bool.and_eq_true,decide_eq_true_eq] at hB;obtain ⟨⟨hkn,hr⟩,hB'⟩:=hB;have hkl:k<l.length:=by rw [hl] at hn;simp at hn;omega
  have h0:ops[k]? =some (l.getD k default):=by rw [hl];simp [List.getD_eq_getElem?_getD,hkl]
  have hr':k∈Region.ready md ops listed:=by rw [hr];simp
  refine ⟨fun h1=>(by rw [hr] at h1;cases h1),fun i hi=>?_⟩;rw [hr] at hi;have hik:i=k:=by simpa using hi
  subst hik;refine ⟨hkn,?_⟩
  have hw:wpOp P ops Q i (fun a' w'=>S w'/\wpHeld P ops Q S T (picked l fs) a' w') a w:=by
   unfold wpOp;simp only [h0];have h2:if Region.wanted (l.getD i default) (yielded ops a.tmps)=true then Oper.wp P (l.getD i default) a w (fun a' w'=>S w'/\wpHeld P ops Q S T (picked l fs) a' w') Q else S w/\wpHeld P ops Q S T (picked l fs) (a.put (l.getD i default).dst undef) w:=h
   by_cases hwt:Region.wanted (l.getD i default) (yielded ops a.tmps)=true
   · rw [if_pos hwt] at h2 |-; exact .inl h2
   rw [if_neg hwt] at h2 |-; exact h2
  exact wpOp_mono (fun a' w' h'=>⟨h'.1,headH_of_held hl hsel hQ hs hc hn fs _ a' w' (inv.set hr' hkn) h'.1 hB' h'.2⟩) hw
theorem wp_region_held_tail {id:Nat} {a:Act} {w:World} {l:List Oper} (fs:List (Nat×Bool)) (S:World->Prop) (hm:P.follows .mixedOrders=true) (hQ:∀ c a d v w,Q (.panic c) (a.put d v) w->Q (.panic c) a w) (hB:heldTailB .any l.toArray fs=true) (hS:S w.drew)
 (h:wpHeld P l.toArray Q S (fun a' w'=>wpList P l.toArray Q (l.drop fs.length) a' w') (picked l fs) a w.drew):(Code.region id l.toArray true).wp P Q a w:=by
 simp only [heldTailB,Bool.and_eq_true,decide_eq_true_eq] at hB;obtain ⟨⟨⟨⟨hsel,hn⟩,hs⟩,hc⟩,hlex⟩:=hB;have hdl:(l.drop fs.length).length=l.toArray.size-fs.length:=by simp
 have inv0:HeadInv .any l.toArray fs.length (Array.replicate l.toArray.size false):=
  ⟨by simp,fun j oj _ hl=>(by rw [getD_replicate_false] at hl;cases hl),fun t _ ht=>getD_in (by simpa using ht) (getD_replicate_false _ _)⟩
 have H:=headH_of_held (md:=.any) (g:=l.toArray.size-fs.length) (l:=l) rfl hsel hQ hs hc hn fs _ a w.drew inv0 hS hlex h;refine wp_region_any hm ?_
 have:=any_of_headH (Q:=Q) (S:=S) (g:=l.toArray.size-fs.length) (fun listed a' w' hL=>by
  have:=wpAny_of_seq (md:=.any) (Q':=Q) (l.drop fs.length) fs.length listed a' w' (fun j=>by simp [List.getElem?_drop]) (by rw [hdl];exact hL.1) hL.2;rwa [hdl] at this) _ _ _ _ H
 rw [show fs.length+(l.toArray.size-fs.length)=l.toArray.size by omega] at this;exact this
end
end Go.Proofs.YtmiknfneeipkeaaGreat
namespace Go.Proofs.YtmiknfneeipkeaaGreat
open Go.RowKit
theorem perm_erase {α:Type}:∀ (l:List α) (k:Nat) (o:α),l[k]? =some o->l.Perm (o::l.eraseIdx k)
 | [],_,_,h=>by simp at h
 | x::l,0,o,h=>by
  simp at h;subst h;simp
 | x::l,k+1,o,h=>by
  rw [List.getElem?_cons_succ] at h;rw [List.eraseIdx_cons_succ];exact ((perm_erase l k o h).cons x).trans (List.Perm.swap _ _ _)
theorem erase_set {α:Type}:∀ (l:List α) (k:Nat) (o:α),(l.set k o).eraseIdx k=l.eraseIdx k
 | [],_,_=>rfl
 | _::_,0,_=>rfl
 | x::l,k+1,o=>by rw [List.set_cons_succ,List.eraseIdx_cons_succ,List.eraseIdx_cons_succ,erase_set l k o]
structure Ob where
 own:Nat->Prop
 rd:Nat->Prop
 holds:World->Prop
 stable:∀ w w':World,holds w->(w'.os=w.os/\w'.tape=w.tape/\w'.output=w.output/\w.heap.size<=w'.heap.size)->(∀ i,own i∨rd i->w'.heap[i]? =w.heap[i]?)->holds w'
def Apart (x y:Ob):Prop:=(∀ i,x.own i->¬ y.own i/\¬ y.rd i)/\∀ i,y.own i->¬ x.rd i
theorem Apart.symm {x y:Ob} (h:Apart x y):Apart y x:=⟨fun i hi=>⟨fun hx=>(h.1 i hx).1 hi,h.2 i hi⟩,fun i hi=>(h.1 i hi).2⟩
structure Fr (w w':World) (S S':Nat->Prop):Prop where
 os:w'.os=w.os
 tape:w'.tape=w.tape
 output:w'.output=w.output
 size:w.heap.size<=w'.heap.size
 block:∀ i,i<w.heap.size->¬ S i->w'.heap[i]? =w.heap[i]?
 own:∀ i,S' i->S i∨w.heap.size<=i
theorem Fr.refl (w:World) (S:Nat->Prop):Fr w w S S:=⟨rfl,rfl,rfl,Nat.le_refl _,fun _ _ _=>rfl,fun _ h=> .inl h⟩
theorem Fr.of_below {w w':World} (h:Below w.heap.size w w') (S:Nat->Prop):Fr w w' S S:=⟨h.os,h.tape,h.output,h.size,fun i hi _=>h.block i hi,fun _ h=> .inl h⟩
theorem Fr.new {w w':World} (h:Below w.heap.size w w') {S S':Nat->Prop} (hs:∀ i,S' i->S i∨w.heap.size<=i):Fr w w' S S':=⟨h.os,h.tape,h.output,h.size,fun i hi _=>h.block i hi,hs⟩
theorem Fr.trans {w w1 w2:World} {S S1 S2:Nat->Prop} (h:Fr w w1 S S1) (k:Fr w1 w2 S1 S2):Fr w w2 S S2:=
 ⟨k.os.trans h.os,k.tape.trans h.tape,k.output.trans h.output,Nat.le_trans h.size k.size,fun i hi hn=>(k.block i (Nat.lt_of_lt_of_le hi h.size) (fun h1=>by
  rcases h.own i h1 with h2 | h2
  · exact hn h2
  · omega)).trans (h.block i hi hn),fun i hi=>by
  rcases k.own i hi with h1 | h1
  · exact h.own i h1
  exact .inr (Nat.le_trans h.size h1)⟩
theorem Fr.wide {w w':World} {S S' T T':Nat->Prop} (h:Fr w w' S S') (hS:∀ i,S i->T i) (hT:∀ i,T' i->T i∨w.heap.size<=i):Fr w w' T T':=
 ⟨h.os,h.tape,h.output,h.size,fun i hi hn=>h.block i hi (fun hs=>hn (hS i hs)),hT⟩
theorem Fr.grown {w w':World} {g:Nat} (h:w.grownBy w' (some g)) {S S':Nat->Prop} (hg:S g) (hs:∀ i,S' i->S i∨w.heap.size<=i):Fr w w' S S':=
 ⟨h.os,h.tape,h.output,h.size,fun i hi hn=>h.block i hi (fun e=>hn (by injection e with e;rw [e];exact hg)),hs⟩
theorem Fr.below {w w':World} {S S':Nat->Prop} {b:Nat} (h:Fr w w' S S') (hb:∀ i,S i->b<=i) (h0:b<=w.heap.size):Below b w w':=
 ⟨h.os,h.tape,h.output,h.size,fun i hi=>h.block i (by omega) (fun hs=>by have:=hb i hs;omega)⟩
structure Sep (b:Nat) (w:World) (l:List Ob):Prop where
 base:b<=w.heap.size
 holds:∀ o∈l,o.holds w
 own:∀ o∈l,∀ i,o.own i->b<=i/\i<w.heap.size
 rd:∀ o∈l,∀ i,o.rd i->i<w.heap.size
 apart:l.Pairwise Apart
section
variable {b:Nat} {w w':World} {o o' x y:Ob} {l l':List Ob}
theorem Sep.perm (h:Sep b w l) (hp:l'.Perm l):Sep b w l':=
 ⟨h.base,fun o ho=>h.holds o (hp.mem_iff.1 ho),fun o ho=>h.own o (hp.mem_iff.1 ho),fun o ho=>h.rd o (hp.mem_iff.1 ho),(hp.pairwise_iff (fun h=>h.symm)).2 h.apart⟩
theorem Sep.sub (h:Sep b w l) (hs:l'.Sublist l):Sep b w l':=
 ⟨h.base,fun o ho=>h.holds o (hs.subset ho),fun o ho=>h.own o (hs.subset ho),fun o ho=>h.rd o (hs.subset ho),h.apart.sublist hs⟩
theorem Sep.tail (h:Sep b w (o::l)):Sep b w l:=h.sub (List.sublist_cons_self _ _)
theorem Sep.swap (h:Sep b w (x::y::l)):Sep b w (y::x::l):=h.perm (List.Perm.swap _ _ _)
theorem Sep.head (h:Sep b w (o::l)):o.holds w:=h.holds o (by simp)
theorem Sep.nil (w:World) (h:b<=w.heap.size):Sep b w []:=⟨h,by simp,by simp,by simp,List.Pairwise.nil⟩
theorem Sep.step (h:Sep b w (o::l)) (hf:Fr w w' o.own o'.own) (hr:∀ i,o'.rd i->o.own i∨o.rd i∨w.heap.size<=i) (hh:o'.holds w') (hlt:∀ i,o'.own i∨o'.rd i->i<w'.heap.size):Sep b w' (o'::l)/\Below b w w':=by
 have hown:=h.own o (by simp);obtain ⟨ha,hp⟩:=List.pairwise_cons.1 h.apart;have hb:Below b w w':=hf.below (fun i hi=>(hown i hi).1) h.base;refine ⟨⟨Nat.le_trans h.base hf.size,fun y hy=>?_,fun y hy i hi=>?_,fun y hy i hi=>?_,List.pairwise_cons.2 ⟨fun y hy=>?_,hp⟩⟩,hb⟩
 · rcases List.mem_cons.1 hy with rfl | hy
   · exact hh
   refine y.stable w w' (h.holds y (by simp [hy])) ⟨hf.os,hf.tape,hf.output,hf.size⟩ (fun i hi=>?_);refine hf.block i ?_ (fun ho=>?_)
   · rcases hi with hi | hi
     · exact (h.own y (by simp [hy]) i hi).2
     exact h.rd y (by simp [hy]) i hi
   have:=(ha y hy).1 i ho;rcases hi with hi | hi
   · exact this.1 hi
   exact this.2 hi
 · rcases List.mem_cons.1 hy with rfl | hy
   · refine ⟨?_,hlt i (.inl hi)⟩;rcases hf.own i hi with h1 | h1
     · exact (hown i h1).1
     have:=h.base;omega
   have:=h.own y (by simp [hy]) i hi;exact ⟨this.1,Nat.lt_of_lt_of_le this.2 hf.size⟩
 · rcases List.mem_cons.1 hy with rfl | hy
   · exact hlt i (.inr hi)
   exact Nat.lt_of_lt_of_le (h.rd y (by simp [hy]) i hi) hf.size
 have hyo:=h.own y (by simp [hy]);have hyr:=h.rd y (by simp [hy]);refine ⟨fun i hi=>?_,fun i hi hi'=>?_⟩
 · rcases hf.own i hi with h1 | h1
   · exact (ha y hy).1 i h1
   exact ⟨fun h2=>by have:=(hyo i h2).2;omega,fun h2=>by have:=hyr i h2;omega⟩
 rcases hr i hi' with h1 | h1 | h1
 · exact ((ha y hy).1 i h1).1 hi
 · exact (ha y hy).2 i hi h1
 have:=(hyo i hi).2;omega
theorem Sep.add (h:Sep b w l) (hb:Below w.heap.size w w') (hh:o'.holds w') (ho:∀ i,o'.own i->w.heap.size<=i/\i<w'.heap.size) (hr:∀ i,o'.rd i->i<w'.heap.size) (hn:∀ i,o'.rd i->i<w.heap.size->∀ y∈l,¬ y.own i):Sep b w' (o'::l)/\Below b w w':=by
 refine ⟨⟨Nat.le_trans h.base hb.size,fun y hy=>?_,fun y hy i hi=>?_,fun y hy i hi=>?_,List.pairwise_cons.2 ⟨fun y hy=>⟨fun i hi=>⟨fun h2=>?_,fun h2=>?_⟩,fun i hi hi'=>?_⟩,h.apart⟩⟩,hb.mono h.base⟩
 · rcases List.mem_cons.1 hy with rfl | hy
   · exact hh
   refine y.stable w w' (h.holds y hy) ⟨hb.os,hb.tape,hb.output,hb.size⟩ (fun i hi=>hb.block i ?_);rcases hi with hi | hi
   · exact (h.own y hy i hi).2
   exact h.rd y hy i hi
 · rcases List.mem_cons.1 hy with rfl | hy
   · have:=ho i hi;have:=h.base;omega
   have:=h.own y hy i hi;have:=hb.size;omega
 · rcases List.mem_cons.1 hy with rfl | hy
   · exact hr i hi
   have:=h.rd y hy i hi;have:=hb.size;omega
 · have:=(ho i hi).1;have:=(h.own y hy i h2).2;omega
 · have:=(ho i hi).1;have:=h.rd y hy i h2;omega
 by_cases hlt:i<w.heap.size
 · exact hn i hi' hlt y hy hi
 have:=(h.own y hy i hi).2;omega
theorem Sep.on (h:Sep b w l) (hb:Below w.heap.size w w'):Sep b w' l:=
 ⟨Nat.le_trans h.base hb.size,fun y hy=>y.stable w w' (h.holds y hy) ⟨hb.os,hb.tape,hb.output,hb.size⟩ (fun i hi=>hb.block i (by
  rcases hi with hi | hi
  · exact (h.own y hy i hi).2
  exact h.rd y hy i hi)),fun y hy i hi=>⟨(h.own y hy i hi).1,Nat.lt_of_lt_of_le (h.own y hy i hi).2 hb.size⟩,fun y hy i hi=>Nat.lt_of_lt_of_le (h.rd y hy i hi) hb.size,h.apart⟩
theorem Sep.view (h:Sep b w (o::l)) (hh:o'.holds w) (ho:∀ i,¬ o'.own i) (hr:∀ i,o'.rd i->o.rd i) (hx:∀ i,o.own i->¬ o.rd i):Sep b w (o'::o::l):=
 ⟨h.base,fun y hy=>by
  rcases List.mem_cons.1 hy with rfl | hy
  · exact hh
  · exact h.holds y hy,fun y hy i hi=>by
  rcases List.mem_cons.1 hy with rfl | hy
  · exact absurd hi (ho i)
  · exact h.own y hy i hi,fun y hy i hi=>by
  rcases List.mem_cons.1 hy with rfl | hy
  · exact h.rd o (by simp) i (hr i hi)
  exact h.rd y hy i hi,List.pairwise_cons.2 ⟨fun y hy=>⟨fun i hi=>absurd hi (ho i),fun i hi hi'=>by
  rcases List.mem_cons.1 hy with rfl | hy
  · exact hx i hi (hr i hi')
  exact ((List.pairwise_cons.1 h.apart).1 y hy).2 i hi (hr i hi')⟩,h.apart⟩⟩
theorem Sep.pull (h:Sep b w l) {k:Nat} (hk:l[k]? =some o):Sep b w (o::l.eraseIdx k):=h.perm (perm_erase l k o hk).symm
theorem Sep.stepAt (h:Sep b w l) (k:Nat) (hk:l[k]? =some o) (hf:Fr w w' o.own o'.own) (hr:∀ i,o'.rd i->o.own i∨o.rd i∨w.heap.size<=i) (hh:o'.holds w') (hlt:∀ i,o'.own i∨o'.rd i->i<w'.heap.size):Sep b w' (l.set k o')/\Below b w w':=by
 obtain ⟨h1,h2⟩:=(h.pull hk).step hf hr hh hlt;refine ⟨h1.perm ?_,h2⟩;have hl:=(List.getElem?_eq_some_iff.1 hk).1;have h3:=perm_erase (l.set k o') k o' (by rw [List.getElem?_set_self hl]);rw [erase_set] at h3;exact h3
theorem Sep.get (h:Sep b w l) {k:Nat} (hk:l[k]? =some o):o.holds w:=h.holds o (List.mem_of_getElem? hk)
end
def cellOb (g:Nat) (t:TypeId) (cs:Array Value):Ob where
 own:=fun i=>i=g
 rd:=fun _=>False
 holds:=fun w=>IsB w g t cs
 stable:=fun w w' h _ hk=>(hk g (.inl rfl)).trans h
theorem Sep.cell {b:Nat} {w:World} {l:List Ob} (h:Sep b w l) {k g:Nat} {t:TypeId} {cs:Array Value} (hk:l[k]? =some (cellOb g t cs)):IsB w g t cs:=h.get hk
theorem Sep.setAt {b:Nat} {w:World} {l:List Ob} (h:Sep b w l) (k:Nat) {g:Nat} {t:TypeId} {cs:Array Value} (hk:l[k]? =some (cellOb g t cs)) (j:Nat) (u:Value):Sep b (w.setCell ⟨g,j,none⟩ u) (l.set k (cellOb g t (cs.setIfInBounds j u)))/\Below b w (w.setCell ⟨g,j,none⟩ u):=by
 have hc:=h.cell hk;have hg:w.grownBy (w.setCell ⟨g,j,none⟩ u) (some g):=g_set (p:=⟨g,j,none⟩) (g_refl _ _) (.inl rfl) _;refine h.stepAt k hk (Fr.grown hg rfl (fun i hi=> .inl hi)) (fun i hi=>hi.elim) (hc.set_ j u) (fun i hi=>?_);rcases hi with hi | hi
 · have:=hc.lt;have e:i=g:=hi;rw [e];simpa [World.setCell] using this
 exact hi.elim
theorem Sep.newCell {b:Nat} {w:World} {l:List Ob} (h:Sep b w l) (t:TypeId) (cs:Array Value):Sep b (w.alloc (.cells cs t)) (cellOb w.heap.size t cs::l)/\Below b w (w.alloc (.cells cs t)):=
 h.add ((Below.refl _ _).alloc (Nat.le_refl _) _) (IsB.new w t cs) (fun i hi=>by have e:i=w.heap.size:=hi;simp [e]) (fun i hi=>hi.elim) (fun i hi=>hi.elim)
end Go.Proofs.YtmiknfneeipkeaaGreat
namespace Go.Proofs.YtmiknfneeipkeaaGreat
open Go.RowKit
section
variable {P:Program}
theorem append_block (w:World) (t ty e:TypeId) (i:TypeInfo) (z:Value) (ht:P.underlying t=some (.slice e)) (hi:P.info? e=some i) (hz:i.zero=some z)
 (v:Value) (n:Nat) (xs:List Value) (hown:w.ownsRow 0 e i.size v n xs) (a:Addr) (m c:Nat) (news:List Value) (hl:news.length=m*i.size) (hnews:∀ j u,news[j]? =some u->w.cell? (a.add j)=some u)
 (h1:∀ u∈news,u.oneCell'=true) (hm:0<m) (h63:n+m<=maxLen) (hbytes:(n+m)*i.bytes<=140737488355328) {v':Value} {w':World}
 (hr:(Builtin.append_ #[t,t] ty #[v,.slice (some a) m c]).run P w= .ok v' w'):v'.ownBlock=v.ownBlock∨v'.ownBlock=some w.heap.size:=by
 unfold maxLen at h63;rcases hown.2 with ⟨rfl,rfl⟩ | ⟨g,cap,cur,rfl,_,hg,hnc,_,hcs,htk⟩
 · rw [run_append_nil w t ty e i z ht hi hz a m c news hl hnews hm (by omega) (by rw [Nat.zero_add] at hbytes;omega)] at hr;injection hr with hv _;subst hv;exact .inr rfl
 by_cases hroom:n+m<=cap
 · have hsz:(n+m)*i.size<=cap*i.size:=Nat.mul_le_mul_right _ hroom;rw [Nat.add_mul] at hsz
   rw [run_append_room_cells w t ty e i ht hi g 0 n cap a m c news hl hnews h1 hroom (fun j hj=>by
    rw [cell_of_row w g _ cur e (0,0) hg,Array.getElem?_eq_getElem (by omega)];rfl) (fun j hj=>by simp [World.frozen?, hg])] at hr
   injection hr with hv _;subst hv;exact .inl rfl
 rw [run_append_grow w t ty e i z ht hi hz ⟨g,0,none⟩ n cap xs hown.1 (fun j u hu=>by
  have hj:j<n*i.size:=by
   have:=(List.getElem?_eq_some_iff.1 hu).1;rw [hown.1] at this;exact this
  rw [show (⟨g,0,none⟩:Addr).add j=⟨g,j,none⟩ by unfold Addr.add;split<;>simp_all,cell_of_row w g _ cur e (0,0) hg, <- Array.getElem?_toList, <- hu, <- htk,List.getElem?_take_of_lt hj]) a m c news hl hnews (by omega) (by omega) (growslice_fits (by omega) hbytes)] at hr
 injection hr with hv _;subst hv;exact .inr rfl
theorem step_append_row {w:World} {ops:Array Oper} {o:Oper} {a:Act} {K:Act->World->Prop} {Q:Exit->Act->World->Prop} {E:Prop} (hgd:o.guard=none) (s x:Operand) (t:TypeId)
 (ho:o.op= .call { callee:=.builtin .append,args:= #[s,x],argTypes:= #[t,t] })
 (e:TypeId) (i:TypeInfo) (z:Value) (size bytes:Nat) (ht:P.underlying t=some (.slice e)) (hi:P.info? e=some i) (hz:i.zero=some z)
 (hsize:i.size=size) (hby:i.bytes=bytes) (hzs:z.cells.size=size) (hsz:0<size)
 (v:Value) (n:Nat) (xs:List Value) (hs:a.eval s=v) (hown:w.ownsRow 0 e size v n xs)
 (ad:Addr) (m c:Nat) (news:List Value) (hx:a.eval x= .slice (some ad) m c) (hl:news.length=m*size) (hnews:∀ j u,news[j]? =some u->w.cell? (ad.add j)=some u) (h1:∀ u∈news,u.oneCell'=true)
 (hm:0<m) (h63:n+m<=maxLen) (hbytes:(n+m)*bytes<=140737488355328)
 (h:∀ v' w',w'.ownsRow 0 e size v' (n+m) (xs++news)->w.grownBy w' v.ownBlock->v'.ownBlock=v.ownBlock∨v'.ownBlock=some w.heap.size->K (a.put o.dst v') w'):
 if Region.wanted o (yielded ops a.tmps)=true then Oper.wp P o a w K Q else E:=by
 have hw:Region.wanted o (yielded ops a.tmps)=true:=by simp [Region.wanted,hgd]
 rw [if_pos hw];subst hsize hby;obtain ⟨v',w',hr,h2,h3,_⟩:=run_append_own (P:=P) w 0 t o.type e i z i.size i.bytes ht hi hz rfl rfl hzs hsz v n xs hown ad m c news hl hnews h1 h63 hbytes (Nat.zero_le _);have h4:=append_block w t o.type e i z ht hi hz v n xs hown ad m c news hl hnews h1 hm h63 hbytes hr;unfold Oper.wp execOp;simp only [ho,resolve,invoke,builtin,Sem.run_bind,Sem.run_pure,Result.andThen_ok,List.map_toArray,List.map_cons,List.map_nil,hs,hx,hr];exact h v' w' h2 h3 h4
end
end Go.Proofs.YtmiknfneeipkeaaGreat
