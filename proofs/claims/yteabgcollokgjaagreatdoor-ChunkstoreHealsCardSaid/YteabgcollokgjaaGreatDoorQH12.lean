/- Q -/
import Derived.Laws.Bits64b
import Derived.Laws.MakeOwn
import Derived.Laws.IdiomCopy
import Derived.Test.YteabgcollokgjaaGreatDoorQH08
import Derived.Laws.StructEq
set_option linter.unusedSimpArgs false
set_option linter.unusedVariables false
set_option maxRecDepth 100000
set_option maxHeartbeats 32000000
open Go.Lib (hid)
open List renaming getD_eq_getElem?_getD → zA,length_append → zB,length_take → zC,length_cons → zD,length_map → zE,getElem?_eq_getElem → zF,take_succ_eq_append_getElem → zG,length_nil → zH,getElem?_take_of_lt → zI
open Nat renaming le_refl → zJ,zero_add → zK
namespace Go.Proofs.YteabgcollokgjaaGreatDoor
section
open Go.RowKit
theorem halt_q {p:Prop} (h:Hid p):p:=h
theorem rint_u {p q:Nat} {w W:World} (h:p=q) (hw:w=W):Ending.returned (.int .u64 ((q:Nat):Int))= .returned (.int .u64 ((p:Nat):Int))/\w=W:=⟨by rw [h],hw⟩
theorem fadd_any (a b:Nat) (w:World) (ha:a<2305843009213693951) (hb:b<2305843009213693951):Calls Tryz.prog 141 #[.int .u64 (a:Int),.int .u64 (b:Int)] w fun e w'=>e= .returned (.int .u64 (((a+b) % pP:Nat):Int))/\w=w':=by
 by_cases h:a+b<2305843009213693951
 · have e1:Hid ((a+b) % pP=a+b):=Nat.mod_eq_of_lt h;have h':¬ (2305843009213693951<=(a:Int)+b):=by omega
   go_enter Tryz.func141,Tryz.ntmps141;go_wp2
   go_ret;exact rint_u (q:=a+b) e1.out rfl
 have e1:Hid ((a+b) % pP=a+b-2305843009213693951):=by
  rw [Hid,Nat.mod_eq_sub_mod (by unfold pP;omega)];exact Nat.mod_eq_of_lt (by unfold pP;omega)
 have h':2305843009213693951<=(a:Int)+b:=by omega
 go_enter Tryz.func141,Tryz.ntmps141;go_wp2
 go_ret;have e2:((a+b-2305843009213693951:Nat):Int)=(a:Int)+b-2305843009213693951:=by omega
 rw [e1.out,e2];exact ⟨rfl,rfl⟩
theorem mask61 (a:Nat) (ha:a<18446744073709551616):bits .and .u64 (a:Int) 2305843009213693951=((a % 2305843009213693952:Nat):Int):=by
 have h:=bits_and_u64_nat a 2305843009213693951 ha (by omega);have e:a &&& 2305843009213693951=a % 2305843009213693952:=Nat.and_two_pow_sub_one_eq_mod a 61;rw [e] at h;exact h
theorem or3 (x y:Nat) (hy:y<8):x*8 ||| y=x*8+y:=by
 have:=Nat.two_pow_add_eq_or_of_lt (i:=3) (b:=y) (by omega) x;rw [show 2^3*x=x*8 by omega] at this;exact this.symm
theorem prod_lt {a b:Nat} (ha:a<2305843009213693951) (hb:b<2305843009213693951):a*b<pP*pP:=Nat.mul_lt_mul'' (by unfold pP;exact ha) (by unfold pP;exact hb)
theorem mul_lo (m:Nat):(bits .and .u64 ((m:Int) % 18446744073709551616) 2305843009213693951).tmod 2305843009213693951=((m % 18446744073709551616 % 2305843009213693952 % pP:Nat):Int):=by
 have e:(m:Int) % 18446744073709551616=((m % 18446744073709551616:Nat):Int):=by omega
 rw [e,mask61 _ (Nat.mod_lt _ (by omega)),Int.tmod_eq_emod_of_nonneg (by omega)];unfold pP;omega
theorem mul_hi (m:Nat) (hm:m<pP*pP):bits .or .u64 (IntKind.u64.wrap ((m:Int) / 18446744073709551616*8)) ((m:Int) % 18446744073709551616 / 2305843009213693952)=((m / 18446744073709551616*8+m % 18446744073709551616 / 2305843009213693952:Nat):Int):=by
 have hh:=mul_high m hm
 have e1:IntKind.u64.wrap ((m:Int) / 18446744073709551616*8)=((m / 18446744073709551616*8:Nat):Int):=by
  rw [IntKind.wrap_u64];omega
 have e2:(m:Int) % 18446744073709551616 / 2305843009213693952=((m % 18446744073709551616 / 2305843009213693952:Nat):Int):=by omega
 rw [e1,e2,bits_or_u64_nat _ _ (by omega) (by omega),or3 _ _ (by omega)]
theorem mul_sum (m:Nat) (hm:m<pP*pP):(m % 18446744073709551616 % 2305843009213693952 % pP+(m / 18446744073709551616*8+m % 18446744073709551616 / 2305843009213693952) % pP) % pP=m % pP:=by
 rw [<- Nat.add_mod,mul_words m hm]
theorem fmul_any (a b:Nat) (w:World) (ha:a<2305843009213693951) (hb:b<2305843009213693951):Calls Tryz.prog 142 #[.int .u64 (a:Int),.int .u64 (b:Int)] w fun e w'=>e= .returned (.int .u64 (((a*b) % pP:Nat):Int))/\w=w':=by
 have HP:=hid (prod_lt ha hb);go_enter Tryz.func142,Tryz.ntmps142;go_wp2_with (first | (go_at_call 185;refine (Tryz.bits_Mul64 a b (by omega) (by omega) _).mono ?_;rintro e w' ⟨rfl,hw⟩;rw [hw]) | (go_at_call 141;refine halt_q ?_))
 have e1:=mul_lo (a*b);have e2:=mul_hi (a*b) HP.out;rw [Int.natCast_mul] at e1 e2
 have e3:(((a*b / 18446744073709551616*8+a*b % 18446744073709551616 / 2305843009213693952:Nat):Int)).tmod 2305843009213693951=(((a*b / 18446744073709551616*8+a*b % 18446744073709551616 / 2305843009213693952) % pP:Nat):Int):=by
  rw [Int.tmod_eq_emod_of_nonneg (by omega)];unfold pP;omega
 rw [e2,e1,e3];refine (fadd_any (a*b % 18446744073709551616 % 2305843009213693952 % pP) ((a*b / 18446744073709551616*8+a*b % 18446744073709551616 / 2305843009213693952) % pP) w (Nat.mod_lt _ pP_pos) (Nat.mod_lt _ pP_pos)).mono ?_;rintro e w' ⟨rfl,rfl⟩;rw [mul_sum _ HP.out];clear e1 e2 e3;go_wp2_with fail
 go_ret;exact ⟨rfl,rfl⟩
theorem fp_byte (bs:List UInt8) (x:UInt8):(fpSum bs*747382712868975713 % pP+(x.toNat+1)) % pP=fpSum (bs++[x]):=by
 rw [fpSum_snoc,fpStep,Nat.add_mod,Nat.mod_mod, <- Nat.add_mod];rfl
def RS (w:World) (A:Option Addr) (bs:List UInt8):Prop:=(A=none->bs.length=0)/\∀ ad,A=some ad->∃ g o,ad=⟨g,o,none⟩/\∀ j,j<bs.length->w.cell? ⟨g,o+j,none⟩=some (encU (bs.getD j 0))
theorem RS.sb {w:World} {A:Option Addr} {bs:List UInt8} (h:RS w A bs):SB w A bs:=by
 refine ⟨h.1,fun ad e j u hu=>?_⟩;obtain ⟨g,o,rfl,hc⟩:=h.2 ad e;obtain ⟨hj,hu'⟩:=List.getElem?_eq_some_iff.1 hu;have hj':j<bs.length:=by simpa using hj
 rw [lit_add,hc j hj', <- hu',List.getElem_map,zA,zF hj'];rfl
theorem RB.rs {w:World} {d:BD} {bs:List UInt8} (h:RB w d bs):RS w d.A bs:=by
 obtain ⟨h1,h2,h3,h4⟩:=h;refine ⟨fun e=>by have:=h3 e;omega,fun ad e=>?_⟩;obtain ⟨g,cur,rfl,hg,_,hc⟩:=h4 ad e;refine ⟨g,0,rfl,fun j hj=>?_⟩;rw [hg.cell,zK];refine hc j _ ?_;rw [List.getElem?_map,zA,zF hj];rfl
theorem RS.lt {w:World} {A:Option Addr} {bs:List UInt8} (h:RS w A bs) {g o:Nat} (e:A=some ⟨g,o,none⟩) (hp:0<bs.length):g<w.heap.size:=h.sb.lt _ e hp
theorem RS.on {w w':World} {A:Option Addr} {bs:List UInt8} (h:RS w A bs) (hb:Below w.heap.size w w'):RS w' A bs:=by
 refine ⟨h.1,fun ad e=>?_⟩;obtain ⟨g,o,rfl,hc⟩:=h.2 ad e;exact ⟨g,o,rfl,fun j hj=>by rw [hb.cell (p:=⟨g,o+j,none⟩) (h.lt e (by omega))];exact hc j hj⟩
theorem RS.sub {w:World} {g o:Nat} {bs:List UInt8} (h:RS w (some ⟨g,o,none⟩) bs) (k n:Nat) (hk:k+n<=bs.length):RS w (some ⟨g,o+k,none⟩) ((bs.drop k).take n):=by
 obtain ⟨g',o',e,hc⟩:=h.2 _ rfl;injection e with e1 e2 _;subst e1 e2;refine ⟨(fun e=>by cases e),fun ad e=>?_⟩;injection e with e;subst e;refine ⟨g,o+k,rfl,fun j hj=>?_⟩;simp only [zC,List.length_drop] at hj;have:=hc (k+j) (by omega);rw [Nat.add_assoc,this];congr 2
 rw [zA,zA,zI (by omega),List.getElem?_drop]
theorem take_snocU (bs:List UInt8) (k:Nat) (h:k<bs.length):bs.take (k+1)=bs.take k++[bs.getD k 0]:=by
 rw [zG h,zA,zF h];rfl
theorem Sum_any (A:Option Addr) (c:Nat) (bs:List UInt8) (w:World) (h:RS w A bs) (hn:bs.length<=1099511627776):Calls Tryz.prog 92 #[.slice A bs.length c] w fun e w'=>e= .returned (.int .u64 ((fpSum bs:Nat):Int))/\w=w':=by
 have H:=hid h;clear h;go_enter Tryz.func92,Tryz.ntmps92;go_wp2_with fail
 go_loop [3,8] (fun v i=>∃ k:Nat,k<=bs.length/\i= .int .i64 k/\v= .int .u64 ((fpSum (bs.take k):Nat):Int)) (fun _ i=>bs.length-(intOf i).toNat)
 case atStart=>exact ⟨0,Nat.zero_le _,rfl,by rw [List.take_zero,fpSum_nil];rfl⟩
 obtain ⟨k,hk,rfl,rfl⟩:=hrel;by_cases hlt:k<bs.length
 · cases A with
   | none=>exact absurd (H.out.1 rfl) (by omega)
   | some ad=>
    obtain ⟨g,o,rfl,hc⟩:=H.out.2 ad rfl;have hcl:w.cell? ⟨g,o+k,none⟩=some (.int .u8 (((bs.getD k 0).toNat:Nat):Int)):=hc k hlt;have HT:Hid ((fpSum (bs.take k)*747382712868975713 % pP+((bs.getD k 0).toNat+1)) % pP=fpSum (bs.take (k+1))):=by rw [Hid,take_snocU bs k hlt, <- fp_byte]
    have hf:=fpSum_lt (bs.take k);have HF:Hid (fpSum (bs.take k)<pP):=hf;clear hc hf;generalize hx:bs.getD k 0=x at *; have hx2:=x.toNat_lt;have HX:=hid hx;clear hx;generalize fpSum (bs.take k)=sm at *; generalize hs':fpSum (bs.take (k+1))=sm' at *; have HS:=hid hs';clear hs';have hm:=fun w=>fmul_any sm 747382712868975713 w HF.out (by omega);have hmt:sm*747382712868975713 % pP<pP:=Nat.mod_lt _ pP_pos;generalize sm*747382712868975713 % pP=t at *; have ha:=fun w=>fadd_any t (x.toNat+1) w hmt (by omega);rw [HT.out] at ha;simp only [Int.natCast_add,Int.natCast_one] at ha;have HM:=hid hm;have HA:=hid ha;clear hm ha hmt;go_wp2_with (first | (go_at_call 142;refine (HM.out _).mono ?_;rintro e w' ⟨rfl,rfl⟩) | (go_at_call 141;refine (HA.out _).mono ?_;rintro e w' ⟨rfl,rfl⟩))
    go_round
    case rel=>exact ⟨k+1,by omega,by go_num,by rw [HS.out]⟩
    simp [intOf];omega
 obtain rfl:k=bs.length:=by omega
 rw [List.take_length];go_wp2_with fail
 go_ret;exact ⟨rfl,rfl⟩
theorem Of_any (A:Option Addr) (c:Nat) (bs:List UInt8) (w:World) (h:RS w A bs) (hn:bs.length<=1099511627776):Calls Tryz.prog 31 #[.slice A bs.length c] w fun e w'=>e= .returned (.agg #[.int .u64 (fpOf bs).1,.int .i64 (fpOf bs).2])/\Below w.heap.size w w':=by
 have H:=hid (fun W (hW:RS W A bs)=>Sum_any A c bs W hW hn);have H1:=hid (h.on ((Below.refl _ w).alloc (zJ _) (.cells #[.int .u64 0,.int .i64 0] 31)));clear h;simp only [fpOf];generalize fpSum bs=sm at *; go_enter Tryz.func31,Tryz.ntmps31;go_wp2_with (go_at_call 92;refine (H.out _ H1.out).mono ?_;rintro e w' ⟨rfl,rfl⟩)
 refine bodyPost_ret (v:=.agg #[.int .u64 ((sm:Nat):Int),.int .i64 ((bs.length:Nat):Int)]) ?_ rfl ⟨rfl,?_⟩
 · simp [results,Tryz.results31,go_sem]
 exact (Below.refl _ _).alloc (zJ _) _
theorem bel1q (w:World) (o:Obj):Below w.heap.size w (w.alloc o):=(Below.refl _ _).alloc (zJ _) o
theorem sb_one (w:World) (x:UInt8) (v:Int) (hv:((x.toNat:Nat):Int)=v):SB (w.alloc (.cells #[.int .u8 v] 5)) (some ⟨w.heap.size,0,none⟩) [x]:=by
 refine ⟨(fun e=>by cases e),fun ad e j u hu=>?_⟩;injection e with e;subst e
 have hj:j=0:=by
  have:=(List.getElem?_eq_some_iff.1 hu).1;simp at this;exact this
 subst hj;simp [encU] at hu;subst hu;rw [lit_add,(IsB.new w 5 #[.int .u8 v]).cell, <- hv];rfl
theorem le8_take (v k:Nat) (hk:k<8):(le8 v).take (k+1)=(le8 v).take k++[UInt8.ofNat (v / 2^(8*k))]:=by
 rw [zG (by rw [le8_len];exact hk)];congr 2
 simp [le8]
def RX (w:World) (d:BD) (bs:List UInt8):Prop:=RB w d bs∨(bs.length=d.len/\d.len=d.cap/\0<d.len/\SB w d.A bs)
theorem RX.of {w:World} {d:BD} {bs:List UInt8} (h:RB w d bs):RX w d bs:=.inl h
theorem RX.on {w w':World} {d:BD} {bs:List UInt8} (h:RX w d bs) (hb:Below w.heap.size w w'):RX w' d bs:=by
 rcases h with h | ⟨h1,h2,h3,h4⟩
 · exact .inl (h.on hb)
 exact .inr ⟨h1,h2,h3,h4.on hb h4.lt⟩
theorem run_append_full (w:World) (ty:TypeId) (d:BD) (bs:List UInt8) (hl:bs.length=d.len) (hc:d.len=d.cap) (h0:0<d.len) (hs:SB w d.A bs) (A:Option Addr) (c:Nat) (ns:List UInt8) (hsn:SB w A ns) (hp:0<ns.length) (hb:bs.length+ns.length<=1099511627776):
 ∃ d' w',(Builtin.append_ #[34,34] ty #[vB d,.slice A ns.length c]).run Tryz.prog w= .ok (vB d') w'/\d'.len=d.len+ns.length/\AppB w d (bs++ns) d' w':=by
 obtain ⟨i0,hi,hz0,hz1,hz2⟩:=info_parts info5;cases hA:A with
 | none=>
  have:=hsn.1 hA;omega
 | some a=>
  cases hd:d.A with
  | none=>
   have:=hs.1 hd;omega
  | some ad=>
   have hv:vB d= .slice (some ad) d.len d.cap:=by simp [vB,hd]
   have hlo:(bs.map encU).length=d.len*i0.size:=by rw [hz1,zE,Nat.mul_one,hl]
   have hln:(ns.map encU).length=ns.length*i0.size:=by rw [hz1,zE,Nat.mul_one]
   have hr:=run_append_grow (P:=Tryz.prog) w 34 ty 5 i0 _ Tryz.underlying34 hi hz0 ad d.len d.cap (bs.map encU) hlo (fun j u hu=>hs.2 ad hd j u hu) a ns.length c (ns.map encU) hln (hsn.2 a hA) (by omega) (by omega) (growslice_fits (by omega) (by rw [hz2];omega));have hge:=grownCap_ge w (d.len+ns.length) d.cap 5;refine ⟨⟨some ⟨w.heap.size,0,none⟩,d.len+ns.length,grownCap w (d.len+ns.length) d.cap 5⟩,_,by rw [hv];exact hr,rfl,?_,.inr ⟨w.heap.size,rfl,zJ _,(Below.refl w.heap.size w).drew.alloc (by simp) _⟩⟩;refine new_bytes w.drew _ _ _ _ _ (by simp) (by simp;omega) hge ?_ (fun j u hu=>?_)
   · rw [Array.size_append,Array.size_append,List.size_toArray,List.size_toArray,size_zeroCells];simp [Value.cells];omega
   rw [List.map_append] at hu;have hj:=(List.getElem?_eq_some_iff.1 hu).1;rw [Array.getElem?_append_left (by simpa using hj),List.append_toArray,List.getElem?_toArray];exact hu
theorem wpList_append_rx {w:World} {ops:Array Oper} {rest:List Oper} {o:Oper} {a:Act} {Q:Exit->Act->World->Prop} (hgd:o.guard=none) (s x:Operand) (ho:o.op= .call { callee:=.builtin .append,args:= #[s,x],argTypes:= #[34,34] }) (d:BD) (bs:List UInt8) (hs:a.eval s=vB d) (h:RX w d bs)
 (A:Option Addr) (c:Nat) (ns:List UInt8) (hx:a.eval x= .slice A ns.length c) (hsrc:SB w A ns) (hp:0<ns.length) (hb:bs.length+ns.length<=1099511627776)
 (hK:∀ d' w',d'.len=d.len+ns.length->AppB w d (bs++ns) d' w'->wpList Tryz.prog ops Q rest (a.put o.dst (vB d')) w'):wpList Tryz.prog ops Q (o::rest) a w:=by
 rcases h with h | ⟨h1,h2,h3,h4⟩
 · exact wpList_append_bytes hgd s x ho d bs hs h A c ns hx hsrc hb hK
 refine wpList_plain hgd fun K hK'=>?_;obtain ⟨d',w',hr,h5,h6⟩:=run_append_full w o.type d bs h1 h2 h3 h4 A c ns hsrc hp hb;unfold Oper.wp execOp;simp only [ho,resolve,invoke,builtin,Sem.run_bind,Sem.run_pure,Result.andThen_ok,List.map_toArray,List.map_cons,List.map_nil,hs,hx,hr];exact hK' _ _ (hK d' w' h5 h6)
theorem number_any (d:BD) (bs:List UInt8) (v:Nat) (w0 w:World) (hr:RX w d bs) (hd:∀ g,blk d=some g->w0.heap.size<=g) (h0:Below w0.heap.size w0 w) (hv:v<18446744073709551616) (hn:bs.length<=1000000):
 Calls Tryz.prog 277 #[.slice d.A d.len d.cap,.int .u64 (v:Int)] w (NewB (bs++le8 v) w0):=by
 have HR:=hid hr;have HD:=hid hd;have H0:=hid h0;clear hr hd h0;go_enter Tryz.func277,Tryz.ntmps277;go_wp2_with fail
 go_loopw [0,6] (fun s i wr=>∃ (k:Nat) (d':BD),k<=8/\i= .int .i64 k/\s= .slice d'.A d'.len d'.cap/\RX wr d' (bs++(le8 v).take k)/\(0<k->RB wr d' (bs++(le8 v).take k))/\(∀ g,blk d'=some g->w0.heap.size<=g)/\Below w0.heap.size w0 wr) (fun _ i _=>8-(intOf i).toNat)
 case atStart=>exact ⟨0,d,by omega,rfl,rfl,by simpa using HR.out,(fun h=>absurd h (by omega)),HD.out,H0.out⟩
 obtain ⟨k,d',hk,rfl,rfl,hr,hrb,hd,hb⟩:=hrel;have RB1:=hid hrb;clear hrb;have R1:=hid hr;have D1:=hid hd;have B1:=hid hb;clear hr hd hb;by_cases hlt:k<8
 · go_wp2_with (at_builtin;refine halt_q ?_)
   have hx:(((UInt8.ofNat (v / 2^(8*k))).toNat:Nat):Int)=(v:Int) / 2^(8*k) % 256:=by
    rw [UInt8.toNat_ofNat',Int.natCast_emod,Int.natCast_ediv,Int.natCast_pow];rfl
   have hl8:((le8 v).take k).length<=8:=by rw [zC,le8_len];omega
   have S1:=sb_one wr _ _ hx;refine wpList_append_rx rfl _ _ rfl d' (bs++(le8 v).take k) rfl (R1.out.on (bel1q _ _)) (some ⟨wr.heap.size,0,none⟩) 1 [UInt8.ofNat (v / 2^(8*k))] rfl S1 (by simp) (by rw [zB];simp only [zD,zH];omega) ?_;intro d2 w2 hl2 happ;obtain ⟨r1,r2,r3⟩:=happ.new (w0:=w0) D1.out (B1.out.trans ((bel1q wr _).mono B1.out.size));rw [List.append_assoc, <- le8_take v k hlt] at r1;have R2:=hid r1;have D2:=hid r2;have B2:=hid r3;clear r1 r2 r3 happ hl2 hx hl8 S1;unfold vB;go_wp2_with fail
   go_roundw
   case rel=>exact ⟨k+1,d2,by omega,by go_num,rfl,.inl R2.out,fun _=>R2.out,D2.out,B2.out⟩
   simp [intOf];omega
 go_wp2_with fail
 go_ret;refine ⟨d',rfl,?_,D1.out,B1.out⟩;have h:=RB1.out (by omega);rwa [List.take_of_length_le (by rw [le8_len];omega)] at h
theorem uintSize_any (v:Nat) (w:World) (hv:v<18446744073709551616):Calls Tryz.prog 309 #[.int .u64 (v:Int)] w fun e w'=>(∃ n:Nat,e= .returned (.int .i64 n)/\n<=100)/\w=w':=by
 go_enter Tryz.func309,Tryz.ntmps309;go_wp2_with fail
 go_loop [0,3] (fun x n=>∃ (k u:Nat),k<=64/\n= .int .i64 ((k:Nat):Int)/\x= .int .u64 ((u:Nat):Int)/\u*2^k<=v) (fun x _=>(intOf x).toNat)
 case atStart=>exact ⟨1,v / 128,by omega,rfl,by go_num,by omega⟩
 obtain ⟨k,u,hk,rfl,rfl,hu⟩:=hrel;by_cases hp:0<u
 · have hk2:k<64:=by
    rcases Nat.lt_or_ge k 64 with h | h
    · exact h
    exfalso
    have:2^64<=2^k:=Nat.pow_le_pow_right (by omega) h;have h2:1*2^k<=u*2^k:=Nat.mul_le_mul_right _ hp;omega
   have hu2:Hid (u / 128*2^(k+1)<=v):=by
    rw [Hid,Nat.pow_succ];have h1:u / 128*(2^k*2)=u / 128*2*2^k:=by rw [Nat.mul_comm (2^k) 2, <- Nat.mul_assoc]
    rw [h1];exact Nat.le_trans (Nat.mul_le_mul_right _ (by omega)) hu
   clear hu;go_wp2_with fail
   go_round
   case rel=>exact ⟨k+1,u / 128,by omega,by go_num,by go_num,hu2.out⟩
   simp [intOf];omega
 clear hu;go_wp2_with fail
 go_ret;exact ⟨⟨k,rfl,by omega⟩,rfl⟩
theorem mk_bytes (w:World) (n c:Nat) (h:n<=c) (hc:c<=16777216):(Instr.makeSlice 34 (.int .i64 n) (.int .i64 c)).run Tryz.prog w= .ok (.slice (some ⟨w.heap.size,0,none⟩) n c) (w.alloc (.cells (Array.replicate c (encU 0)) 5)):=by
 obtain ⟨i0,hi,hz0,hz1,hz2⟩:=info_parts info5;have:=run_makeSlice (P:=Tryz.prog) w 34 5 i0 _ Tryz.underlying34 hi hz0 .i64 .i64 n c (by omega) (by omega) (by rw [hz1];simp;omega) (by rw [hz2];omega) (by omega);simp only [Int.toNat_natCast] at this;have e:madeCells (Value.int IntKind.u8 0).cells c=(Array.replicate c (encU 0)):=Array.ext' (by rw [show (Value.int IntKind.u8 0).cells= #[Value.int IntKind.u8 0] from rfl,toList_madeCells_one];simp [encU]);rw [this,hz1,Nat.mul_one,e]
theorem setCells_tail (b:Nat) {t:TypeId}:∀ (vs:List Value) (o:Nat) (w:World) (cur:Array Value),IsB w b t cur->∃ cur',IsB (w.setCells b o vs) b t cur'/\cur'.size=cur.size/\(∀ j,j<o->cur'[j]? =cur[j]?)/\(∀ j,j<vs.length->o+j<cur.size->cur'[o+j]? =vs[j]?)/\∀ j,o+vs.length<=j->cur'[j]? =cur[j]?
 | [],_,_,cur,h=>⟨cur,h,rfl,fun _ _=>rfl,(fun j hj=>absurd hj (by simp)),fun _ _=>rfl⟩
 | v::r,o,w,cur,h=>by
  obtain ⟨cur',c1,c2,c3,c4,c5⟩:=setCells_tail b r (o+1) (w.setCell ⟨b,o,none⟩ v) (cur.setIfInBounds o v) (h.set_ o v);refine ⟨cur',c1,by simpa using c2,fun j hj=>?_,fun j hj hs=>?_,fun j hj=>?_⟩
  · rw [c3 j (by omega),Array.getElem?_setIfInBounds_ne (by omega)]
  · cases j with
    | zero=>
     rw [Nat.add_zero,c3 o (by omega),Array.getElem?_setIfInBounds_self_of_lt (by omega)];rfl
    | succ j=>
     have:=c4 j (by simpa using hj) (by simp;omega);rw [show o+(j+1)=o+1+j by omega,this];rfl
  simp only [zD] at hj;rw [c5 j (by omega),Array.getElem?_setIfInBounds_ne (by omega)]
theorem run_copyB (w:World) (ty:TypeId) (g dLen dCap:Nat) (cur:Array Value) (hg:IsB w g 5 cur) (A:Option Addr) (c:Nat) (bs:List UInt8) (hs:SB w A bs) (hfit:min bs.length dLen<=cur.size):
 ∃ w',(Builtin.copy_ #[34,34] ty #[.slice (some ⟨g,0,none⟩) dLen dCap,.slice A bs.length c]).run Tryz.prog w= .ok (goInt ((min bs.length dLen:Nat):Int)) w'/\w.grownBy w' (some g)/\w'.heap.size=w.heap.size/\
  ∃ cur',IsB w' g 5 cur'/\cur'.size=cur.size/\(∀ j,j<min bs.length dLen->cur'[j]? =some (encU (bs.getD j 0)))/\∀ j,min bs.length dLen<=j->cur'[j]? =cur[j]? :=by
 have hsz:(Tryz.prog.info? 5).map (·.size)=some 1:=by
  obtain ⟨i0,hi,_,hz1,_⟩:=info_parts info5;rw [hi];simp [hz1]
 by_cases h0:min bs.length dLen=0
 · refine ⟨w,?_,g_refl _ _,rfl,cur,hg,rfl,fun j hj=>by omega,fun _ _=>rfl⟩;rw [h0];exact run_copy_none w 34 34 ty 5 _ A dLen dCap bs.length c Tryz.underlying34 hsz h0
 cases A with
 | none=>
  have:=hs.1 rfl;omega
 | some ad=>
  have hl:((bs.take dLen).map encU).length=Nat.min bs.length dLen:=by
   rw [zE,zC];exact Nat.min_comm _ _
  have hl2:((bs.take dLen).map encU).length=min bs.length dLen:=hl
  have hr:=run_copy_cells (P:=Tryz.prog) w 34 34 ty 5 g 0 dLen dCap ad bs.length c ((bs.take dLen).map encU) Tryz.underlying34 hsz hl
   (fun j v hv=>by
     refine hs.2 ad rfl j v ?_;obtain ⟨hj,hv'⟩:=List.getElem?_eq_some_iff.1 hv;have hj2:j<dLen:=by rw [hl2] at hj;omega
     rw [<- hv,List.map_take,zI hj2])
   (fun j hj=>by
     rw [zK,hg.cell,Array.getElem?_eq_getElem (by omega)];rfl) (fun j _=>hg.frozen _) (encU_one _)
  obtain ⟨cur',c1,c2,c3,c4,c5⟩:=setCells_tail g ((bs.take dLen).map encU) 0 w cur hg;obtain ⟨e1,e2,e3,e4⟩:=setCells_world g ((bs.take dLen).map encU) 0 w;rw [hl2] at hr;refine ⟨_,hr,⟨e1,e2,e3,by omega,fun i _ hne=>setCells_heap g _ _ w i (fun e=>hne (by rw [e]))⟩,e4,cur',c1,c2,fun j hj=>?_,fun j hj=>c5 j (by rw [hl2];omega)⟩;have:=c4 j (by rw [hl2];exact hj) (by omega);rw [zK] at this;rw [this,List.getElem?_map,zI (by omega),zA,zF (by omega)];rfl
theorem get_encU {bs:List UInt8} {j:Nat} {u:Value} (h:(bs.map encU)[j]? =some u):j<bs.length/\u=encU (bs.getD j 0):=by
 obtain ⟨hj,hu⟩:=List.getElem?_eq_some_iff.1 h;have hj':j<bs.length:=by simpa using hj
 refine ⟨hj',?_⟩;rw [<- hu,List.getElem_map,zA,zF hj'];rfl
theorem extended_any (A:Option Addr) (c:Nat) (bs:List UInt8) (n:Nat) (w:World) (h:SB w A bs) (hn:bs.length<=1000000) (hk:n<=1000):
 Calls Tryz.prog 308 #[.slice A bs.length c,.int .i64 (n:Int)] w (NewB bs w):=by
 have hmk:=mk_bytes w bs.length (bs.length+n) (by omega) (by omega);rw [Int.natCast_add] at hmk;have hB:IsB (w.alloc (.cells (Array.replicate (bs.length+n) (encU 0)) 5)) w.heap.size 5 (Array.replicate (bs.length+n) (encU 0)):=IsB.new _ _ _;obtain ⟨w1,hcp,hg,hz,cur',c1,c2,c3,c4⟩:=run_copyB _ 3 w.heap.size bs.length (bs.length+n) _ hB A c bs (h.on (bel1q _ _) h.lt) (by simp);rw [Nat.min_self] at hcp c3 c4;have HG:=hid hg;have C1:=hid c1;have C2:=hid c2;have C3:=hid c3;clear hg hz c1 c2 c3 c4 hB h;go_enter Tryz.func308,Tryz.ntmps308;go_wp2_with fail
 go_ret;refine ⟨⟨some ⟨w.heap.size,0,none⟩,bs.length,bs.length+n⟩,rfl,⟨rfl,by simp,(fun e=>by cases e),fun ad e=>?_⟩,(fun g hg=>by simp [blk] at hg;omega),?_⟩
 · injection e with e;subst e;refine ⟨_,cur',rfl,C1.out,by rw [C2.out];simp,fun j u hu=>?_⟩;obtain ⟨hj,rfl⟩:=get_encU hu;exact C3.out j hj
 exact (bel1q w _).grown HG.out (by simp) (by simp)
theorem or7 (x y:Nat) (hy:x<128):x ||| 128=x+128:=by
 have:=Nat.two_pow_add_eq_or_of_lt (i:=7) (b:=x) (by omega) 1;rw [show 2^7*1=128 by rfl] at this;rw [Nat.or_comm, <- this,Nat.add_comm]
theorem mask7 (a:Nat) (ha:a<18446744073709551616):bits .and .u64 (a:Int) 127=((a % 128:Nat):Int):=by
 have h:=bits_and_u64_nat a 127 ha (by omega);have e:a &&& 127=a % 128:=Nat.and_two_pow_sub_one_eq_mod a 7;rw [e] at h;exact h
theorem set7 (a:Nat) (ha:a<18446744073709551616):bits .or .u64 (bits .and .u64 (a:Int) 127) 128=((a % 128+128:Nat):Int):=by
 rw [mask7 a ha];have h:=bits_or_u64_nat (a % 128) 128 (by omega) (by omega);rw [or7 _ 0 (by omega)] at h;exact h
theorem appendUint_any (d:BD) (bs:List UInt8) (v:Nat) (w0 w:World) (hr:RB w d bs) (hd:∀ g,blk d=some g->w0.heap.size<=g) (h0:Below w0.heap.size w0 w) (hv:v<18446744073709551616) (hn:bs.length<=1000000):
 Calls Tryz.prog 307 #[.slice d.A d.len d.cap,.int .u64 (v:Int)] w (NewB (bs++putU v) w0):=by
 have HR:=hid hr;have HD:=hid hd;have H0:=hid h0;clear hr hd h0;go_enter Tryz.func307,Tryz.ntmps307;go_wp2_with fail
 go_loopw [0,1] (fun s x wr=>∃ (u:Nat) (d':BD) (cs:List UInt8),u<18446744073709551616/\x= .int .u64 ((u:Nat):Int)/\s= .slice d'.A d'.len d'.cap/\RB wr d' cs/\Hid (cs++putU u=bs++putU v)/\(∀ g,blk d'=some g->w0.heap.size<=g)/\Below w0.heap.size w0 wr) (fun _ x _=>(intOf x).toNat)
 case atStart=>exact ⟨v,d,bs,hv,rfl,rfl,HR.out,rfl,HD.out,H0.out⟩
 obtain ⟨u,d',cs,hu,rfl,rfl,hr,HE,hd,hb⟩:=hrel;have R1:=hid hr;have D1:=hid hd;have B1:=hid hb;clear hr hd hb;have hv10:(putU v).length<=10:=putU_len (k:=9) (by omega)
 have hcl:cs.length<=bs.length+10:=by
  have:=congrArg List.length HE.out;simp only [zB] at this;omega
 clear hv10;by_cases hlt:128<=u
 · have e1:=set7 u hu;have HP:Hid (putU u=UInt8.ofNat (u % 128+128)::putU (u / 128)):=by rw [Hid,putU,dif_neg (by omega)]
   go_wp2_with (at_builtin;refine halt_q ?_)
   have hx:(((UInt8.ofNat (u % 128+128)).toNat:Nat):Int)=(u:Int) % 128+128:=by
    rw [UInt8.toNat_ofNat'];omega
   have S1:=sb_one wr _ _ hx;refine wpList_append_bytes rfl _ _ rfl d' cs rfl (R1.out.on (bel1q _ _)) (some ⟨wr.heap.size,0,none⟩) 1 [UInt8.ofNat (u % 128+128)] rfl S1 (by simp only [zD,zH];omega) ?_;intro d2 w2 hl2 happ;obtain ⟨r1,r2,r3⟩:=happ.new (w0:=w0) D1.out (B1.out.trans ((bel1q wr _).mono B1.out.size));have R2:=hid r1;have D2:=hid r2;have B2:=hid r3;clear r1 r2 r3 happ hl2 hx S1 e1;unfold vB;go_wp2_with fail
   go_roundw
   case rel=>exact ⟨u / 128,d2,cs++[UInt8.ofNat (u % 128+128)],by omega,by go_num,rfl,R2.out,by rw [Hid,List.append_assoc,List.singleton_append, <- HP.out];exact HE.out,D2.out,B2.out⟩
   simp [intOf];omega
 have HP:Hid (putU u=[UInt8.ofNat u]):=by rw [Hid,putU,dif_pos (by omega)]
 go_wp2_with (at_builtin;refine halt_q ?_)
 have hx:(((UInt8.ofNat u).toNat:Nat):Int)=(u:Int):=by
  rw [UInt8.toNat_ofNat'];omega
 have S1:=sb_one wr _ _ hx;refine wpList_append_bytes rfl _ _ rfl d' cs rfl (R1.out.on (bel1q _ _)) (some ⟨wr.heap.size,0,none⟩) 1 [UInt8.ofNat u] rfl S1 (by simp only [zD,zH];omega) ?_;intro d2 w2 hl2 happ;obtain ⟨r1,r2,r3⟩:=happ.new (w0:=w0) D1.out (B1.out.trans ((bel1q wr _).mono B1.out.size));rw [<- HP.out,HE.out] at r1;have R2:=hid r1;have D2:=hid r2;have B2:=hid r3;clear r1 r2 r3 happ hl2 hx S1;unfold vB;go_wp2_with fail
 go_ret;exact ⟨d2,rfl,R2.out,D2.out,B2.out⟩
theorem PutUint_any (A:Option Addr) (c:Nat) (bs:List UInt8) (v:Nat) (w:World) (h:SB w A bs) (hn:bs.length<=900000) (hv:v<18446744073709551616):
 Calls Tryz.prog 300 #[.slice A bs.length c,.int .u64 (v:Int)] w (NewB (bs++putU v) w):=by
 have H:=hid h;clear h;go_enter Tryz.func300,Tryz.ntmps300;go_wp2_with fail
 refine (uintSize_any v _ hv).mono ?_;rintro e w1 ⟨⟨n,rfl,hn2⟩,rfl⟩;go_wp2_with fail
 refine (extended_any A c bs n w H.out (by omega) (by omega)).mono ?_;rintro e w1 ⟨⟨B,m,cc⟩,rfl,hr,hd,hb⟩;have R1:=hid hr;have D1:=hid hd;have B1:=hid hb;clear hr hd hb;unfold vB;go_wp2_with fail
 refine (appendUint_any ⟨B,m,cc⟩ bs v w w1 R1.out D1.out B1.out hv (by omega)).mono ?_;rintro e w2 ⟨d2,rfl,hr,hd,hb⟩;have R2:=hid hr;have D2:=hid hd;have B2:=hid hb;clear hr hd hb;unfold vB;go_wp2_with fail
 go_ret;exact ⟨d2,rfl,R2.out,D2.out,B2.out⟩
theorem zig (v:Nat) (hv:v<4611686018427387904):bits .xor .u64 ((v:Int)*2) ((v:Int) / 9223372036854775808)=((2*v:Nat):Int):=by
 have e:(v:Int)*2=((2*v:Nat):Int):=by omega
 have e0:(v:Int) / 9223372036854775808=((0:Nat):Int):=by omega
 rw [e,e0];have:=bits_xor_u64_nat (2*v) 0 (by omega) (by omega);rw [Nat.xor_zero] at this;exact this
theorem PutInt_any (A:Option Addr) (c:Nat) (bs:List UInt8) (v:Nat) (w:World) (h:SB w A bs) (hn:bs.length<=900000) (hv:v<4611686018427387904):
 Calls Tryz.prog 278 #[.slice A bs.length c,.int .i64 (v:Int)] w (NewB (bs++putU (2*v)) w):=by
 have H:=hid h;clear h;have E1:=hid (zig v hv);go_enter Tryz.func278,Tryz.ntmps278;go_wp2_with (go_at_call 300;refine halt_q ?_)
 rw [E1.out];refine (PutUint_any A c bs (2*v) w H.out hn (by omega)).mono ?_;rintro e w2 ⟨d2,rfl,hr,hd,hb⟩;have R2:=hid hr;have D2:=hid hd;have B2:=hid hb;clear hr hd hb;unfold vB;go_wp2_with fail
 go_ret;exact ⟨d2,rfl,R2.out,D2.out,B2.out⟩
theorem wrap_u64 (z:Int):IntKind.u64.wrap z=((u64 z:Nat):Int):=by
 rw [IntKind.wrap_u64];unfold u64;omega
theorem u64_lt (z:Int):u64 z<18446744073709551616:=by
 unfold u64;omega
theorem u64_nat (n:Nat) (h:n<18446744073709551616):u64 (n:Int)=n:=by
 unfold u64;omega
theorem mark_rx (w:World) (fz:Nat×Nat):RX (w.alloc (.cells #[.int .u8 83,.int .u8 89,.int .u8 67,.int .u8 83] 5 fz)) ⟨some ⟨w.heap.size,0,none⟩,4,4⟩ markB:=by
 refine .inr ⟨rfl,rfl,Nat.zero_lt_succ 3,(fun e=>by cases e),fun ad e j u hu=>?_⟩;injection e with e;subst e;obtain ⟨hj,hu'⟩:=List.getElem?_eq_some_iff.1 hu;have hj':j<4:=by simpa [markB] using hj
 rw [<- hu,lit_add,zK,cell_of_row _ w.heap.size j #[.int .u8 83,.int .u8 89,.int .u8 67,.int .u8 83] 5 fz (heap_alloc_new w _)];have hc:j=0∨j=1∨j=2∨j=3:=by omega
 rcases hc with rfl | rfl | rfl | rfl<;>rfl
theorem head_any (n:Nat) (z:Int) (file off:Nat) (w:World) (hn:n<18446744073709551616) (hf:file<4611686018427387904) (ho:off<4611686018427387904):
 Calls Tryz.prog 232 #[.agg #[.int .u64 (n:Int),.int .i64 z],.int .i64 (file:Int),.int .i64 (off:Int)] w (NewB (headB ((n:Int),z) file off) w):=by
 have hw:=wrap_u64 z;have hu:=u64_lt z;have c0:(w.alloc (.cells #[.int .u64 (n:Int),.int .i64 z] 31)).cell? ⟨w.heap.size,0,none⟩=some (.int .u64 (n:Int)):=(IsB.new w 31 _).cell 0;have c1:(w.alloc (.cells #[.int .u64 (n:Int),.int .i64 z] 31)).cell? ⟨w.heap.size,1,none⟩=some (.int .i64 z):=(IsB.new w 31 _).cell 1;have B0:=hid (bel1q w (.cells #[.int .u64 (n:Int),.int .i64 z] 31));have IB:=hid (IsB.new w 31 #[.int .u64 (n:Int),.int .i64 z]);have hsz:(w.alloc (.cells #[.int .u64 (n:Int),.int .i64 z] 31)).heap.size=w.heap.size+1:=by simp
 have kc:=fun (w:World) (C:Array Value) (n c:Nat)=>Lib.run_convert_bytes_const (P:=Tryz.prog) w 34 5 C n c Tryz.underlying34 Tryz.underlying5;go_enter Tryz.func232,Tryz.ntmps232;go_wp2_with fail
 generalize hv:u64 z=v at *; have HV:=hid hv;clear hv;generalize w.alloc (.cells #[.int .u64 (n:Int),.int .i64 z] 31)=W at *; have hlt:w.heap.size<W.heap.size:=by omega
 have hcv:(convert 34 34 (.slice (some ⟨w.heap.size+1,0,none⟩) 4 4)).run Tryz.prog (W.alloc (.cells #[.int .u8 83,.int .u8 89,.int .u8 67,.int .u8 83] 5)).drew= .ok (.slice (some ⟨w.heap.size+1,0,none⟩) 4 4) (W.alloc (.cells #[.int .u8 83,.int .u8 89,.int .u8 67,.int .u8 83] 5 (4,5))).drew:=by
  rw [<- hsz];exact kc W.drew #[.int .u8 83,.int .u8 89,.int .u8 67,.int .u8 83] 4 4
 clear kc
 have M1:Hid (RX (W.alloc (.cells #[.int .u8 83,.int .u8 89,.int .u8 67,.int .u8 83] 5 (4,5))).drew ⟨some ⟨w.heap.size+1,0,none⟩,4,4⟩ markB):=by
  rw [Hid, <- hsz];exact mark_rx W.drew (4,5)
 have B1:Hid (Below W.heap.size W (W.alloc (.cells #[.int .u8 83,.int .u8 89,.int .u8 67,.int .u8 83] 5 (4,5))).drew):=((Below.refl _ W).alloc (zJ _) _).drew
 go_region_held (fun w'=>w'.cell? ⟨w.heap.size,0,none⟩=some (.int .u64 (n:Int))/\w'.cell? ⟨w.heap.size,1,none⟩=some (.int .i64 z))
  (first | go_keep | exact K1.out | exact K2.out)
  (first
    | (go_at_call 277;(with_reducible refine (number_any ⟨some ⟨w.heap.size+1,0,none⟩,4,4⟩ markB v W _ M1.out (fun g hg=>by simp [blk] at hg;omega) B1.out hu (by simp [markB])).mono ?_);rintro e w1 ⟨⟨A1,m1,cc1⟩,rfl,hr,hd,hb⟩;unfold vB;have R1:=hid hr;have D1:=hid hd;have B2:=hid hb;have K1:Hid (w1.cell? ⟨w.heap.size,0,none⟩=some (.int .u64 (n:Int))/\w1.cell? ⟨w.heap.size,1,none⟩=some (.int .i64 z)):=⟨(IB.out.on hb).cell 0,(IB.out.on hb).cell 1⟩;clear hr hd hb)
    | (go_at_call 277;(with_reducible refine (number_any ⟨A1,m1,cc1⟩ (markB++le8 v) n W w1 (RX.of R1.out) D1.out B2.out hn (by simp [markB,le8_len])).mono ?_);rintro e w2 ⟨⟨A2,m2,cc2⟩,rfl,hr,hd,hb⟩;unfold vB;have R2:=hid hr;have D2:=hid hd;have B3:=hid hb;have K2:Hid (w2.cell? ⟨w.heap.size,0,none⟩=some (.int .u64 (n:Int))/\w2.cell? ⟨w.heap.size,1,none⟩=some (.int .i64 z)):=⟨(IB.out.on hb).cell 0,(IB.out.on hb).cell 1⟩;clear hr hd hb))
 have hA:headA ((n:Int),z)=markB++le8 v++le8 n:=by
  unfold headA;rw [HV.out,u64_nat n hn]
 have HA:=hid hA;have hl:(markB++le8 v++le8 n).length<=20:=by rw [<- hA,headA_len];omega
 clear hA hw hsz;obtain ⟨hb,HB⟩:∃ hb,Hid (markB++le8 v++le8 n=hb):=⟨_,rfl⟩;rw [HB.out] at R2 HA hl;have hm2:hb.length=m2:=R2.out.1;subst hm2;clear HB R1 D1 B2 K1 K2 hcv M1 c0 c1;go_wp2_with fail
 refine (PutInt_any A2 cc2 hb file w2 R2.out.src (by omega) hf).mono ?_;rintro e w3 ⟨⟨A3,m3,cc3⟩,rfl,hr,hd,hb3⟩
 have hl3:(hb++putU (2*file)).length<=40:=by
  have:=putU_len (v:=2*file) (k:=9) (by omega);rw [zB];omega
 obtain ⟨h3,H3⟩:∃ h3,Hid (hb++putU (2*file)=h3):=⟨_,rfl⟩;rw [H3.out] at hr hl3;have hm3:h3.length=m3:=hr.1;subst hm3;have R3:=hid hr;have B4:=hid hb3;clear hr hd hb3;unfold vB;go_wp2_with fail
 refine (PutInt_any A3 cc3 h3 off w3 R3.out.src (by omega) ho).mono ?_;rintro e w4 ⟨⟨A4,m4,cc4⟩,rfl,hr,hd,hb3⟩
 have hl4:(h3++putU (2*off)).length<=60:=by
  have:=putU_len (v:=2*off) (k:=9) (by omega);rw [zB];omega
 obtain ⟨h4,H4⟩:∃ h4,Hid (h3++putU (2*off)=h4):=⟨_,rfl⟩;rw [H4.out] at hr hl4;have hm4:h4.length=m4:=hr.1;subst hm4;have R4:=hid hr;have B5:=hid hb3;clear hr hd hb3;unfold vB;go_wp2_with fail
 refine (Sum_any A4 cc4 h4 w4 R4.out.rs (by omega)).mono ?_;rintro e w5 ⟨rfl,rfl⟩;have hfs:=fpSum_lt h4;unfold pP at hfs;obtain ⟨sm,HS⟩:∃ sm,Hid (fpSum h4=sm):=⟨_,rfl⟩;rw [HS.out] at hfs |-; have R5:Hid (RB w4 ⟨A2,hb.length,cc2⟩ hb):=(R2.out.on B4.out).on B5.out;have B6:Hid (Below W.heap.size W w4):=(B3.out.trans (B4.out.mono B3.out.size)).trans (B5.out.mono (Nat.le_trans B3.out.size B4.out.size));go_wp2_with fail
 refine (number_any ⟨A2,hb.length,cc2⟩ hb sm W w4 (RX.of R5.out) D2.out B6.out (by omega) (by omega)).mono ?_;rintro e w6 ⟨⟨A6,m6,cc6⟩,rfl,hr,hd,hb3⟩;have R6:=hid hr;have D6:=hid hd;have B7:=hid hb3;clear hr hd hb3;unfold vB;go_wp2_with fail
 go_ret;refine ⟨⟨A6,m6,cc6⟩,rfl,?_,fun g hg=>?_,B0.out.trans (B7.out.mono (by omega))⟩
 · unfold headB;rw [HA.out,H3.out,H4.out,HS.out];exact R6.out
 have:=D6.out g hg;omega
end
section
open Go.RowKit Go.MapKept Go.ChangeMaps
attribute [local go_sem] wext_cell
theorem zero138 (w:World):(zeroValue 138).run Tryz.prog w= .ok (.agg #[.slice none 0 0,.int .i64 0,.int .i64 0]) w:=by kernel_rfl
theorem look_ch {w:World} {cm:Nat} {C:Chs} (h:MapIs okID vID vPl w cm C) {i:ID} (hi:okID i):∃ A n c f o,∀ W,Below w.heap.size w W->(Instr.lookup 128 (.map (some cm)) (.agg #[.int .u64 i.1,.int .i64 i.2]) true).run Tryz.prog W= .ok (.tuple #[.agg #[.slice A n c,.int .i64 f,.int .i64 o],.bool (asc C i).isSome]) W:=by
 cases ha:asc C i with
 | none=>
  refine ⟨none,0,0,0,0,fun W hW=>?_⟩;have:=MapIs.look mkI Tryz.underlying128 (zero138 W) (h.on hW) hi true;rw [ha] at this;exact this
 | some v=>
  refine ⟨v.A,v.len,v.cap,v.f,v.o,fun W hW=>?_⟩;have:=MapIs.look mkI Tryz.underlying128 (zero138 W) (h.on hW) hi true;rw [ha] at this;exact this
section
variable {b:Nat} {w:World} {x:SR} {l:List Ob}
theorem Has_any (h:Sto b w x l) (i:ID) (hi:okID i):Calls Tryz.prog 46 #[vPtr x.ps,.agg #[.int .u64 i.1,.int .i64 i.2]] w (fun e w'=>e= .returned (.bool (asc x.C i).isSome)/\Below w.heap.size w w'):=by
 have k2:w.cell? ⟨x.ps,2,none⟩=some (.map (some x.cm)):=h.scell.cell 2;have hps:=h.scell.lt;obtain ⟨A,n,c,f,o,hlk⟩:=look_ch h.sch hi;have hl1:=hlk (w.alloc (.cells #[.int .u64 i.1,.int .i64 i.2] 31)).drew ((Below.refl _ w).alloc (zJ _) _).drew;have hl2:=hlk ((w.alloc (.cells #[.int .u64 i.1,.int .i64 i.2] 31)).alloc (.cells #[.slice none 0 0,.int .i64 0,.int .i64 0] 138)).drew (((Below.refl _ w).alloc (zJ _) _).alloc (by simp) _).drew;have hcx:(w.alloc (.cells #[.int .u64 i.1,.int .i64 i.2] 31)).cell? ⟨x.ps,2,none⟩=some (.map (some x.cm)):=((Below.refl _ w).alloc (zJ _) _).cell (p:=⟨x.ps,2,none⟩) hps |>.trans k2;clear hlk h;go_enter Tryz.func46,Tryz.ntmps46;go_wp2_with fail
 go_region
 all_goals (
  go_wp2_with fail
  go_ret;exact ⟨rfl,(((Below.refl _ w).alloc (zJ _) _).alloc (by simp) _).drew⟩)
end
end
end Go.Proofs.YteabgcollokgjaaGreatDoor
