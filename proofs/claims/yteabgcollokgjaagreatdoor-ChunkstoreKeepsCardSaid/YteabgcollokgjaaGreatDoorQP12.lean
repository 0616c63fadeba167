/- Q -/
import Derived.Test.YteabgcollokgjaaGreatDoorQP11
import Derived.Laws.IdiomCopy
import Derived.Laws.StructEq
import Derived.Deep.RegionHeld
set_option linter.unusedSimpArgs false
set_option linter.unusedVariables false
set_option maxRecDepth 100000
set_option maxHeartbeats 32000000
open Go.Lib (hid)
open Nat renaming le_refl → zA,zero_add → zB
namespace Go.Proofs.YteabgcollokgjaaGreatDoor
section
open Go.RowKit
theorem mk_bytes (w:World) (n c:Nat) (h:n<=c) (hc:c<=16777216):(Instr.makeSlice 34 (.int .i64 n) (.int .i64 c)).run Tryz.prog w= .ok (.slice (some ⟨w.heap.size,0,none⟩) n c) (w.alloc (.cells (Array.replicate c (encU 0)) 5)):=by
 obtain ⟨i0,hi,hz0,hz1,hz2⟩:=info_parts info5;have:=run_makeSlice (P:=Tryz.prog) w 34 5 i0 _ Tryz.underlying34 hi hz0 .i64 .i64 n c (by omega) (by omega) (by rw [hz1];simp;omega) (by rw [hz2];omega) (by omega);simp only [Int.toNat_natCast] at this;have e:madeCells (Value.int IntKind.u8 0).cells c=(Array.replicate c (encU 0)):=Array.ext' (by rw [show (Value.int IntKind.u8 0).cells= #[Value.int IntKind.u8 0] from rfl,toList_madeCells_one];simp [encU]);rw [this,hz1,Nat.mul_one,e]
theorem setCells_tail (b:Nat) {t:TypeId}:∀ (vs:List Value) (o:Nat) (w:World) (cur:Array Value),IsB w b t cur->∃ cur',IsB (w.setCells b o vs) b t cur'/\cur'.size=cur.size/\(∀ j,j<o->cur'[j]? =cur[j]?)/\(∀ j,j<vs.length->o+j<cur.size->cur'[o+j]? =vs[j]?)/\∀ j,o+vs.length<=j->cur'[j]? =cur[j]?
 | [],_,_,cur,h=>⟨cur,h,rfl,fun _ _=>rfl,(fun j hj=>absurd hj (by simp)),fun _ _=>rfl⟩
 | v::r,o,w,cur,h=>by
  obtain ⟨cur',c1,c2,c3,c4,c5⟩:=setCells_tail b r (o+1) (w.setCell ⟨b,o,none⟩ v) (cur.setIfInBounds o v) (h.set_ o v);refine ⟨cur',c1,by simpa using c2,fun j hj=>?_,fun j hj hs=>?_,fun j hj=>?_⟩
  · rw [c3 j (by omega),Array.getElem?_setIfInBounds_ne (by omega)]
  · cases j with
    | zero=>
     rw [Nat.add_zero,c3 o (by omega),Array.getElem?_setIfInBounds_self_of_lt (by omega)];rfl
    | succ j=>
     have:=c4 j (by simpa using hj) (by simp;omega);rw [show o+(j+1)=o+1+j by omega,this];rfl
  simp only [List.length_cons] at hj;rw [c5 j (by omega),Array.getElem?_setIfInBounds_ne (by omega)]
theorem run_copyB (w:World) (ty:TypeId) (g dLen dCap:Nat) (cur:Array Value) (hg:IsB w g 5 cur) (A:Option Addr) (c:Nat) (bs:List UInt8) (hs:SB w A bs) (hfit:min bs.length dLen<=cur.size):
 ∃ w',(Builtin.copy_ #[34,34] ty #[.slice (some ⟨g,0,none⟩) dLen dCap,.slice A bs.length c]).run Tryz.prog w= .ok (goInt ((min bs.length dLen:Nat):Int)) w'/\w.grownBy w' (some g)/\w'.heap.size=w.heap.size/\
  ∃ cur',IsB w' g 5 cur'/\cur'.size=cur.size/\(∀ j,j<min bs.length dLen->cur'[j]? =some (encU (bs.getD j 0)))/\∀ j,min bs.length dLen<=j->cur'[j]? =cur[j]? :=by
 have hsz:(Tryz.prog.info? 5).map (·.size)=some 1:=by
  obtain ⟨i0,hi,_,hz1,_⟩:=info_parts info5;rw [hi];simp [hz1]
 by_cases h0:min bs.length dLen=0
 · refine ⟨w,?_,g_refl _ _,rfl,cur,hg,rfl,fun j hj=>by omega,fun _ _=>rfl⟩;rw [h0];exact run_copy_none w 34 34 ty 5 _ A dLen dCap bs.length c Tryz.underlying34 hsz h0
 cases A with
 | none=>
  have:=hs.1 rfl;omega
 | some ad=>
  have hl:((bs.take dLen).map encU).length=Nat.min bs.length dLen:=by
   rw [List.length_map,List.length_take];exact Nat.min_comm _ _
  have hl2:((bs.take dLen).map encU).length=min bs.length dLen:=hl
  have hr:=run_copy_cells (P:=Tryz.prog) w 34 34 ty 5 g 0 dLen dCap ad bs.length c ((bs.take dLen).map encU) Tryz.underlying34 hsz hl
   (fun j v hv=>by
     refine hs.2 ad rfl j v ?_;obtain ⟨hj,hv'⟩:=List.getElem?_eq_some_iff.1 hv;have hj2:j<dLen:=by rw [hl2] at hj;omega
     rw [<- hv,List.map_take,List.getElem?_take_of_lt hj2])
   (fun j hj=>by
     rw [zB,hg.cell,Array.getElem?_eq_getElem (by omega)];rfl) (fun j _=>hg.frozen _) (encU_one _)
  obtain ⟨cur',c1,c2,c3,c4,c5⟩:=setCells_tail g ((bs.take dLen).map encU) 0 w cur hg;obtain ⟨e1,e2,e3,e4⟩:=setCells_world g ((bs.take dLen).map encU) 0 w;rw [hl2] at hr;refine ⟨_,hr,⟨e1,e2,e3,by omega,fun i _ hne=>setCells_heap g _ _ w i (fun e=>hne (by rw [e]))⟩,e4,cur',c1,c2,fun j hj=>?_,fun j hj=>c5 j (by rw [hl2];omega)⟩;have:=c4 j (by rw [hl2];exact hj) (by omega);rw [zB] at this;rw [this,List.getElem?_map,List.getElem?_take_of_lt (by omega),List.getD_eq_getElem?_getD,List.getElem?_eq_getElem (by omega)];rfl
theorem get_encU {bs:List UInt8} {j:Nat} {u:Value} (h:(bs.map encU)[j]? =some u):j<bs.length/\u=encU (bs.getD j 0):=by
 obtain ⟨hj,hu⟩:=List.getElem?_eq_some_iff.1 h;have hj':j<bs.length:=by simpa using hj
 refine ⟨hj',?_⟩;rw [<- hu,List.getElem_map,List.getD_eq_getElem?_getD,List.getElem?_eq_getElem hj'];rfl
theorem extended_any (A:Option Addr) (c:Nat) (bs:List UInt8) (n:Nat) (w:World) (h:SB w A bs) (hn:bs.length<=1000000) (hk:n<=1000):
 Calls Tryz.prog 308 #[.slice A bs.length c,.int .i64 (n:Int)] w (NewB bs w):=by
 have hmk:=mk_bytes w bs.length (bs.length+n) (by omega) (by omega);rw [Int.natCast_add] at hmk;have hB:IsB (w.alloc (.cells (Array.replicate (bs.length+n) (encU 0)) 5)) w.heap.size 5 (Array.replicate (bs.length+n) (encU 0)):=IsB.new _ _ _;obtain ⟨w1,hcp,hg,hz,cur',c1,c2,c3,c4⟩:=run_copyB _ 3 w.heap.size bs.length (bs.length+n) _ hB A c bs (h.on (bel1q _ _) h.lt) (by simp);rw [Nat.min_self] at hcp c3 c4;have HG:=hid hg;have C1:=hid c1;have C2:=hid c2;have C3:=hid c3;clear hg hz c1 c2 c3 c4 hB h;go_enter Tryz.func308,Tryz.ntmps308;go_wp2_with fail
 go_ret;refine ⟨⟨some ⟨w.heap.size,0,none⟩,bs.length,bs.length+n⟩,rfl,⟨rfl,by simp,(fun e=>by cases e),fun ad e=>?_⟩,(fun g hg=>by simp [blk] at hg;omega),?_⟩
 · injection e with e;subst e;refine ⟨_,cur',rfl,C1.out,by rw [C2.out];simp,fun j u hu=>?_⟩;obtain ⟨hj,rfl⟩:=get_encU hu;exact C3.out j hj
 exact (bel1q w _).grown HG.out (by simp) (by simp)
theorem or7 (x y:Nat) (hy:x<128):x ||| 128=x+128:=by
 have:=Nat.two_pow_add_eq_or_of_lt (i:=7) (b:=x) (by omega) 1;rw [show 2^7*1=128 by rfl] at this;rw [Nat.or_comm, <- this,Nat.add_comm]
theorem mask7 (a:Nat) (ha:a<18446744073709551616):bits .and .u64 (a:Int) 127=((a % 128:Nat):Int):=by
 have h:=bits_and_u64_nat a 127 ha (by omega);have e:a &&& 127=a % 128:=Nat.and_two_pow_sub_one_eq_mod a 7;rw [e] at h;exact h
theorem set7 (a:Nat) (ha:a<18446744073709551616):bits .or .u64 (bits .and .u64 (a:Int) 127) 128=((a % 128+128:Nat):Int):=by
 rw [mask7 a ha];have h:=bits_or_u64_nat (a % 128) 128 (by omega) (by omega);rw [or7 _ 0 (by omega)] at h;exact h
theorem appendUint_any (d:BD) (bs:List UInt8) (v:Nat) (w0 w:World) (hr:RB w d bs) (hd:∀ g,blk d=some g->w0.heap.size<=g) (h0:Below w0.heap.size w0 w) (hv:v<18446744073709551616) (hn:bs.length<=1000000):
 Calls Tryz.prog 307 #[.slice d.A d.len d.cap,.int .u64 (v:Int)] w (NewB (bs++putU v) w0):=by
 have HR:=hid hr;have HD:=hid hd;have H0:=hid h0;clear hr hd h0;go_enter Tryz.func307,Tryz.ntmps307;go_wp2_with fail
 go_loopw [0,1] (fun s x wr=>∃ (u:Nat) (d':BD) (cs:List UInt8),u<18446744073709551616/\x= .int .u64 ((u:Nat):Int)/\s= .slice d'.A d'.len d'.cap/\RB wr d' cs/\Hid (cs++putU u=bs++putU v)/\(∀ g,blk d'=some g->w0.heap.size<=g)/\Below w0.heap.size w0 wr) (fun _ x _=>(intOf x).toNat)
 case atStart=>exact ⟨v,d,bs,hv,rfl,rfl,HR.out,rfl,HD.out,H0.out⟩
 obtain ⟨u,d',cs,hu,rfl,rfl,hr,HE,hd,hb⟩:=hrel;have R1:=hid hr;have D1:=hid hd;have B1:=hid hb;clear hr hd hb;have hv10:(putU v).length<=10:=putU_len (k:=9) (by omega)
 have hcl:cs.length<=bs.length+10:=by
  have:=congrArg List.length HE.out;simp only [List.length_append] at this;omega
 clear hv10;by_cases hlt:128<=u
 · have e1:=set7 u hu;have HP:Hid (putU u=UInt8.ofNat (u % 128+128)::putU (u / 128)):=by rw [Hid,putU,dif_neg (by omega)]
   go_wp2_with (at_builtin;refine halt_q ?_)
   have hx:(((UInt8.ofNat (u % 128+128)).toNat:Nat):Int)=(u:Int) % 128+128:=by
    rw [UInt8.toNat_ofNat'];omega
   have S1:=sb_one wr _ _ hx;refine wpList_append_bytes rfl _ _ rfl d' cs rfl (R1.out.on (bel1q _ _)) (some ⟨wr.heap.size,0,none⟩) 1 [UInt8.ofNat (u % 128+128)] rfl S1 (by simp only [List.length_cons,List.length_nil];omega) ?_;intro d2 w2 hl2 happ;obtain ⟨r1,r2,r3⟩:=happ.new (w0:=w0) D1.out (B1.out.trans ((bel1q wr _).mono B1.out.size));have R2:=hid r1;have D2:=hid r2;have B2:=hid r3;clear r1 r2 r3 happ hl2 hx S1 e1;unfold vB;go_wp2_with fail
   go_roundw
   case rel=>exact ⟨u / 128,d2,cs++[UInt8.ofNat (u % 128+128)],by omega,by go_num,rfl,R2.out,by rw [Hid,List.append_assoc,List.singleton_append, <- HP.out];exact HE.out,D2.out,B2.out⟩
   simp [intOf];omega
 have HP:Hid (putU u=[UInt8.ofNat u]):=by rw [Hid,putU,dif_pos (by omega)]
 go_wp2_with (at_builtin;refine halt_q ?_)
 have hx:(((UInt8.ofNat u).toNat:Nat):Int)=(u:Int):=by
  rw [UInt8.toNat_ofNat'];omega
 have S1:=sb_one wr _ _ hx;refine wpList_append_bytes rfl _ _ rfl d' cs rfl (R1.out.on (bel1q _ _)) (some ⟨wr.heap.size,0,none⟩) 1 [UInt8.ofNat u] rfl S1 (by simp only [List.length_cons,List.length_nil];omega) ?_;intro d2 w2 hl2 happ;obtain ⟨r1,r2,r3⟩:=happ.new (w0:=w0) D1.out (B1.out.trans ((bel1q wr _).mono B1.out.size));rw [<- HP.out,HE.out] at r1;have R2:=hid r1;have D2:=hid r2;have B2:=hid r3;clear r1 r2 r3 happ hl2 hx S1;unfold vB;go_wp2_with fail
 go_ret;exact ⟨d2,rfl,R2.out,D2.out,B2.out⟩
theorem PutUint_any (A:Option Addr) (c:Nat) (bs:List UInt8) (v:Nat) (w:World) (h:SB w A bs) (hn:bs.length<=900000) (hv:v<18446744073709551616):
 Calls Tryz.prog 300 #[.slice A bs.length c,.int .u64 (v:Int)] w (NewB (bs++putU v) w):=by
 have H:=hid h;clear h;go_enter Tryz.func300,Tryz.ntmps300;go_wp2_with fail
 refine (uintSize_any v _ hv).mono ?_;rintro e w1 ⟨⟨n,rfl,hn2⟩,rfl⟩;go_wp2_with fail
 refine (extended_any A c bs n w H.out (by omega) (by omega)).mono ?_;rintro e w1 ⟨⟨B,m,cc⟩,rfl,hr,hd,hb⟩;have R1:=hid hr;have D1:=hid hd;have B1:=hid hb;clear hr hd hb;unfold vB;go_wp2_with fail
 refine (appendUint_any ⟨B,m,cc⟩ bs v w w1 R1.out D1.out B1.out hv (by omega)).mono ?_;rintro e w2 ⟨d2,rfl,hr,hd,hb⟩;have R2:=hid hr;have D2:=hid hd;have B2:=hid hb;clear hr hd hb;unfold vB;go_wp2_with fail
 go_ret;exact ⟨d2,rfl,R2.out,D2.out,B2.out⟩
theorem zig (v:Nat) (hv:v<4611686018427387904):bits .xor .u64 ((v:Int)*2) ((v:Int) / 9223372036854775808)=((2*v:Nat):Int):=by
 have e:(v:Int)*2=((2*v:Nat):Int):=by omega
 have e0:(v:Int) / 9223372036854775808=((0:Nat):Int):=by omega
 rw [e,e0];have:=bits_xor_u64_nat (2*v) 0 (by omega) (by omega);rw [Nat.xor_zero] at this;exact this
theorem PutInt_any (A:Option Addr) (c:Nat) (bs:List UInt8) (v:Nat) (w:World) (h:SB w A bs) (hn:bs.length<=900000) (hv:v<4611686018427387904):
 Calls Tryz.prog 278 #[.slice A bs.length c,.int .i64 (v:Int)] w (NewB (bs++putU (2*v)) w):=by
 have H:=hid h;clear h;have E1:=hid (zig v hv);go_enter Tryz.func278,Tryz.ntmps278;go_wp2_with (go_at_call 300;refine halt_q ?_)
 rw [E1.out];refine (PutUint_any A c bs (2*v) w H.out hn (by omega)).mono ?_;rintro e w2 ⟨d2,rfl,hr,hd,hb⟩;have R2:=hid hr;have D2:=hid hd;have B2:=hid hb;clear hr hd hb;unfold vB;go_wp2_with fail
 go_ret;exact ⟨d2,rfl,R2.out,D2.out,B2.out⟩
theorem wrap_u64 (z:Int):IntKind.u64.wrap z=((u64 z:Nat):Int):=by
 rw [IntKind.wrap_u64];unfold u64;omega
theorem u64_lt (z:Int):u64 z<18446744073709551616:=by
 unfold u64;omega
theorem u64_nat (n:Nat) (h:n<18446744073709551616):u64 (n:Int)=n:=by
 unfold u64;omega
theorem mark_rx (w:World) (fz:Nat×Nat):RX (w.alloc (.cells #[.int .u8 83,.int .u8 89,.int .u8 67,.int .u8 83] 5 fz)) ⟨some ⟨w.heap.size,0,none⟩,4,4⟩ markB:=by
 refine .inr ⟨rfl,rfl,Nat.zero_lt_succ 3,(fun e=>by cases e),fun ad e j u hu=>?_⟩;injection e with e;subst e;obtain ⟨hj,hu'⟩:=List.getElem?_eq_some_iff.1 hu;have hj':j<4:=by simpa [markB] using hj
 rw [<- hu,lit_add,zB,cell_of_row _ w.heap.size j #[.int .u8 83,.int .u8 89,.int .u8 67,.int .u8 83] 5 fz (heap_alloc_new w _)];have hc:j=0∨j=1∨j=2∨j=3:=by omega
 rcases hc with rfl | rfl | rfl | rfl<;>rfl
theorem head_any (n:Nat) (z:Int) (file off:Nat) (w:World) (hn:n<18446744073709551616) (hf:file<4611686018427387904) (ho:off<4611686018427387904):
 Calls Tryz.prog 232 #[.agg #[.int .u64 (n:Int),.int .i64 z],.int .i64 (file:Int),.int .i64 (off:Int)] w (NewB (headB ((n:Int),z) file off) w):=by
 have hw:=wrap_u64 z;have hu:=u64_lt z;have c0:(w.alloc (.cells #[.int .u64 (n:Int),.int .i64 z] 31)).cell? ⟨w.heap.size,0,none⟩=some (.int .u64 (n:Int)):=(IsB.new w 31 _).cell 0;have c1:(w.alloc (.cells #[.int .u64 (n:Int),.int .i64 z] 31)).cell? ⟨w.heap.size,1,none⟩=some (.int .i64 z):=(IsB.new w 31 _).cell 1;have B0:=hid (bel1q w (.cells #[.int .u64 (n:Int),.int .i64 z] 31));have IB:=hid (IsB.new w 31 #[.int .u64 (n:Int),.int .i64 z]);have hsz:(w.alloc (.cells #[.int .u64 (n:Int),.int .i64 z] 31)).heap.size=w.heap.size+1:=by simp
 have kc:=fun (w:World) (C:Array Value) (n c:Nat)=>Lib.run_convert_bytes_const (P:=Tryz.prog) w 34 5 C n c Tryz.underlying34 Tryz.underlying5;go_enter Tryz.func232,Tryz.ntmps232;go_wp2_with fail
 generalize hv:u64 z=v at *; have HV:=hid hv;clear hv;generalize w.alloc (.cells #[.int .u64 (n:Int),.int .i64 z] 31)=W at *; have hlt:w.heap.size<W.heap.size:=by omega
 have hcv:(convert 34 34 (.slice (some ⟨w.heap.size+1,0,none⟩) 4 4)).run Tryz.prog (W.alloc (.cells #[.int .u8 83,.int .u8 89,.int .u8 67,.int .u8 83] 5)).drew= .ok (.slice (some ⟨w.heap.size+1,0,none⟩) 4 4) (W.alloc (.cells #[.int .u8 83,.int .u8 89,.int .u8 67,.int .u8 83] 5 (4,5))).drew:=by
  rw [<- hsz];exact kc W.drew #[.int .u8 83,.int .u8 89,.int .u8 67,.int .u8 83] 4 4
 clear kc
 have M1:Hid (RX (W.alloc (.cells #[.int .u8 83,.int .u8 89,.int .u8 67,.int .u8 83] 5 (4,5))).drew ⟨some ⟨w.heap.size+1,0,none⟩,4,4⟩ markB):=by
  rw [Hid, <- hsz];exact mark_rx W.drew (4,5)
 have B1:Hid (Below W.heap.size W (W.alloc (.cells #[.int .u8 83,.int .u8 89,.int .u8 67,.int .u8 83] 5 (4,5))).drew):=((Below.refl _ W).alloc (zA _) _).drew
 go_region_held (fun w'=>w'.cell? ⟨w.heap.size,0,none⟩=some (.int .u64 (n:Int))/\w'.cell? ⟨w.heap.size,1,none⟩=some (.int .i64 z))
  (first | go_keep | exact K1.out | exact K2.out)
  (first
    | (go_at_call 277;(with_reducible refine (number_any ⟨some ⟨w.heap.size+1,0,none⟩,4,4⟩ markB v W _ M1.out (fun g hg=>by simp [blk] at hg;omega) B1.out hu (by simp [markB])).mono ?_);rintro e w1 ⟨⟨A1,m1,cc1⟩,rfl,hr,hd,hb⟩;unfold vB;have R1:=hid hr;have D1:=hid hd;have B2:=hid hb;have K1:Hid (w1.cell? ⟨w.heap.size,0,none⟩=some (.int .u64 (n:Int))/\w1.cell? ⟨w.heap.size,1,none⟩=some (.int .i64 z)):=⟨(IB.out.on hb).cell 0,(IB.out.on hb).cell 1⟩;clear hr hd hb)
    | (go_at_call 277;(with_reducible refine (number_any ⟨A1,m1,cc1⟩ (markB++le8 v) n W w1 (RX.of R1.out) D1.out B2.out hn (by simp [markB,le8_len])).mono ?_);rintro e w2 ⟨⟨A2,m2,cc2⟩,rfl,hr,hd,hb⟩;unfold vB;have R2:=hid hr;have D2:=hid hd;have B3:=hid hb;have K2:Hid (w2.cell? ⟨w.heap.size,0,none⟩=some (.int .u64 (n:Int))/\w2.cell? ⟨w.heap.size,1,none⟩=some (.int .i64 z)):=⟨(IB.out.on hb).cell 0,(IB.out.on hb).cell 1⟩;clear hr hd hb))
 have hA:headA ((n:Int),z)=markB++le8 v++le8 n:=by
  unfold headA;rw [HV.out,u64_nat n hn]
 have HA:=hid hA;have hl:(markB++le8 v++le8 n).length<=20:=by rw [<- hA,headA_len];omega
 clear hA hw hsz;obtain ⟨hb,HB⟩:∃ hb,Hid (markB++le8 v++le8 n=hb):=⟨_,rfl⟩;rw [HB.out] at R2 HA hl;have hm2:hb.length=m2:=R2.out.1;subst hm2;clear HB R1 D1 B2 K1 K2 hcv M1 c0 c1;go_wp2_with fail
 refine (PutInt_any A2 cc2 hb file w2 R2.out.src (by omega) hf).mono ?_;rintro e w3 ⟨⟨A3,m3,cc3⟩,rfl,hr,hd,hb3⟩
 have hl3:(hb++putU (2*file)).length<=40:=by
  have:=putU_len (v:=2*file) (k:=9) (by omega);rw [List.length_append];omega
 obtain ⟨h3,H3⟩:∃ h3,Hid (hb++putU (2*file)=h3):=⟨_,rfl⟩;rw [H3.out] at hr hl3;have hm3:h3.length=m3:=hr.1;subst hm3;have R3:=hid hr;have B4:=hid hb3;clear hr hd hb3;unfold vB;go_wp2_with fail
 refine (PutInt_any A3 cc3 h3 off w3 R3.out.src (by omega) ho).mono ?_;rintro e w4 ⟨⟨A4,m4,cc4⟩,rfl,hr,hd,hb3⟩
 have hl4:(h3++putU (2*off)).length<=60:=by
  have:=putU_len (v:=2*off) (k:=9) (by omega);rw [List.length_append];omega
 obtain ⟨h4,H4⟩:∃ h4,Hid (h3++putU (2*off)=h4):=⟨_,rfl⟩;rw [H4.out] at hr hl4;have hm4:h4.length=m4:=hr.1;subst hm4;have R4:=hid hr;have B5:=hid hb3;clear hr hd hb3;unfold vB;go_wp2_with fail
 refine (Sum_any A4 cc4 h4 w4 R4.out.rs (by omega)).mono ?_;rintro e w5 ⟨rfl,rfl⟩;have hfs:=fpSum_lt h4;unfold pP at hfs;obtain ⟨sm,HS⟩:∃ sm,Hid (fpSum h4=sm):=⟨_,rfl⟩;rw [HS.out] at hfs |-; have R5:Hid (RB w4 ⟨A2,hb.length,cc2⟩ hb):=(R2.out.on B4.out).on B5.out;have B6:Hid (Below W.heap.size W w4):=(B3.out.trans (B4.out.mono B3.out.size)).trans (B5.out.mono (Nat.le_trans B3.out.size B4.out.size));go_wp2_with fail
 refine (number_any ⟨A2,hb.length,cc2⟩ hb sm W w4 (RX.of R5.out) D2.out B6.out (by omega) (by omega)).mono ?_;rintro e w6 ⟨⟨A6,m6,cc6⟩,rfl,hr,hd,hb3⟩;have R6:=hid hr;have D6:=hid hd;have B7:=hid hb3;clear hr hd hb3;unfold vB;go_wp2_with fail
 go_ret;refine ⟨⟨A6,m6,cc6⟩,rfl,?_,fun g hg=>?_,B0.out.trans (B7.out.mono (by omega))⟩
 · unfold headB;rw [HA.out,H3.out,H4.out,HS.out];exact R6.out
 have:=D6.out g hg;omega
end
section
open Go.RowKit Go.MapKept Go.ChangeMaps
attribute [local go_sem] wext_cell
theorem zero138 (w:World):(zeroValue 138).run Tryz.prog w= .ok (.agg #[.slice none 0 0,.int .i64 0,.int .i64 0]) w:=by kernel_rfl
theorem look_ch {w:World} {cm:Nat} {C:Chs} (h:MapIs okID vID vPl w cm C) {i:ID} (hi:okID i):∃ A n c f o,∀ W,Below w.heap.size w W->(Instr.lookup 128 (.map (some cm)) (.agg #[.int .u64 i.1,.int .i64 i.2]) true).run Tryz.prog W= .ok (.tuple #[.agg #[.slice A n c,.int .i64 f,.int .i64 o],.bool (asc C i).isSome]) W:=by
 cases ha:asc C i with
 | none=>
  refine ⟨none,0,0,0,0,fun W hW=>?_⟩;have:=MapIs.look mkI Tryz.underlying128 (zero138 W) (h.on hW) hi true;rw [ha] at this;exact this
 | some v=>
  refine ⟨v.A,v.len,v.cap,v.f,v.o,fun W hW=>?_⟩;have:=MapIs.look mkI Tryz.underlying128 (zero138 W) (h.on hW) hi true;rw [ha] at this;exact this
section
variable {b:Nat} {w:World} {x:SR} {l:List Ob}
theorem Has_any (h:Sto b w x l) (i:ID) (hi:okID i):Calls Tryz.prog 46 #[vPtr x.ps,.agg #[.int .u64 i.1,.int .i64 i.2]] w (fun e w'=>e= .returned (.bool (asc x.C i).isSome)/\Below w.heap.size w w'):=by
 have k2:w.cell? ⟨x.ps,2,none⟩=some (.map (some x.cm)):=h.scell.cell 2;have hps:=h.scell.lt;obtain ⟨A,n,c,f,o,hlk⟩:=look_ch h.sch hi;have hl1:=hlk (w.alloc (.cells #[.int .u64 i.1,.int .i64 i.2] 31)).drew ((Below.refl _ w).alloc (zA _) _).drew;have hl2:=hlk ((w.alloc (.cells #[.int .u64 i.1,.int .i64 i.2] 31)).alloc (.cells #[.slice none 0 0,.int .i64 0,.int .i64 0] 138)).drew (((Below.refl _ w).alloc (zA _) _).alloc (by simp) _).drew;have hcx:(w.alloc (.cells #[.int .u64 i.1,.int .i64 i.2] 31)).cell? ⟨x.ps,2,none⟩=some (.map (some x.cm)):=((Below.refl _ w).alloc (zA _) _).cell (p:=⟨x.ps,2,none⟩) hps |>.trans k2;clear hlk h;go_enter Tryz.func46,Tryz.ntmps46;go_wp2_with fail
 go_region
 all_goals (
  go_wp2_with fail
  go_ret;exact ⟨rfl,(((Below.refl _ w).alloc (zA _) _).alloc (by simp) _).drew⟩)
end
end
section
open Go.RowKit Go.MapKept Go.ChangeMaps
attribute [local go_sem] wext_cell
theorem fields31:Tryz.prog.underlying 31=some (.struct (Tryz.prog.fieldsOf 31)):=by kernel_rfl
theorem stood31:Tryz.prog.stoodInHeld 31=false:=by kernel_rfl
theorem eqIn31 (a b:ID) (W:World):(Op.equalIn 10000 31 (.agg #[.int .u64 a.1,.int .i64 a.2]) (.agg #[.int .u64 b.1,.int .i64 b.2])).run Tryz.prog W= .ok (decide (a=b)) W:=by
 have h1:=run_equalIn_agg (P:=Tryz.prog) W 9999 31 #[.int .u64 a.1,.int .i64 a.2] #[.int .u64 b.1,.int .i64 b.2] fields31 stood31;rw [show Op.equalIn 10000 31 (.agg #[.int .u64 a.1,.int .i64 a.2]) (.agg #[.int .u64 b.1,.int .i64 b.2])=Op.equalIn (9999+1) 31 (.agg #[.int .u64 a.1,.int .i64 a.2]) (.agg #[.int .u64 b.1,.int .i64 b.2]) from rfl,h1];unfold Program.fieldsOf;rw [Tryz.underlying31];have e29:=fun (a b:Int)=>run_equalIn_int (P:=Tryz.prog) W 9998 29 .u64 .u64 a b Tryz.underlying29;have e3:=fun (a b:Int)=>run_equalIn_int (P:=Tryz.prog) W 9998 3 .i64 .i64 a b Tryz.underlying3;simp [Op.eqFields,go_sem];by_cases h1:a.1=b.1
 · by_cases h2:a.2=b.2
   · have:a=b:=Prod.ext h1 h2;simp [this]
   have:a≠b:=fun e=>h2 (by rw [e]);simp [h1,h2,this]
 have:a≠b:=fun e=>h1 (by rw [e]);simp [h1,this]
theorem eql31 (a b:ID) (W:World):(binOp .eql 31 (.agg #[.int .u64 a.1,.int .i64 a.2]) (.agg #[.int .u64 b.1,.int .i64 b.2])).run Tryz.prog W= .ok (.bool (decide (a=b))) W:=by
 rw [run_eql_struct,eqIn31];rfl
theorem add_str (a b:ByteArray) (W:World) (h:a.size+b.size<=9223372036854775807):(binOp .add 9 (.string a) (.string b)).run Tryz.prog W= .ok (.string (a++b)) W:=by
 simp [binOp,Op.stringOp];omega
theorem dec1:(⟨(Lib.decDigits 1).toArray⟩:ByteArray)=⟨#[49]⟩:=by kernel_rfl
theorem cl91_any (pl:Pl) (W:World):Calls Tryz.prog 91 #[.agg #[.slice pl.A pl.len pl.cap,.int .i64 pl.f,.int .i64 pl.o]] W (fun e w'=>e= .returned (.bool ((fun _=>true) pl))/\Below W.heap.size W w'):=by
 go_enter Tryz.func91,Tryz.ntmps91;go_wp2_with fail
 go_ret;exact ⟨rfl,(Below.refl _ _).alloc (zA _) _⟩
theorem cl143_any (pl:Pl) (W:World):Calls Tryz.prog 143 #[.agg #[.slice pl.A pl.len pl.cap,.int .i64 pl.f,.int .i64 pl.o]] W (fun e w'=>e= .returned (.bool pl.A.isSome)/\Below W.heap.size W w'):=by
 go_enter Tryz.func143,Tryz.ntmps143;go_wp2_with fail
 go_ret;exact ⟨rfl,(Below.refl _ _).alloc (zA _) _⟩
section
variable {b:Nat} {w:World} {x:SR} {l:List Ob}
theorem IDs_anyC (h:Sto b w x l) (hn:x.C.length<=49):Calls Tryz.prog 28 #[vPtr x.ps] w (IdsPostC (fun _=>true) x.C w):=by
 have hc:=ids_anyC 91 (fun _=>true) x.ps x.cm x.C w (h.scell.cell 2) h.sch (by rw [List.length_map];exact Nat.le_trans (List.length_filter_le _ _) hn) (by omega) (enters_of Tryz.func91 (by kernel_rfl) rfl) (fun pl W=>cl91_any pl W);have H:=hid hc;clear hc h;go_enter Tryz.func28,Tryz.ntmps28;go_wp2_with fail
 refine H.out.mono ?_;rintro e w1 ⟨A,c,ys,rfl,h1,h2,h3,h4,h5⟩;have HH:Hid (ys.Perm ((x.C.filter (fun c=>(fun _=>true) c.2)).map (·.1))/\SortedI ys/\RI w1 w.heap.size A ys/\Below w.heap.size w w1/\ys.length<=c):=⟨h1,h2,h3,h4,h5⟩;clear h1 h2 h3 h4 h5;go_wp2_with fail
 go_ret;exact ⟨A,c,ys,rfl,HH.out⟩
def fileN (nm:ByteArray):ByteArray:=nm++⟨#[46]⟩++⟨#[49]⟩
def freshN (nm:ByteArray):ByteArray:=nm++⟨#[46,110,101,119]⟩
theorem fileName_any (ps:Nat) (nm:ByteArray) (w:World) (hc:w.cell? ⟨ps,1,none⟩=some (.string nm)) (hs:nm.size<=1000):Calls Tryz.prog 101 #[vPtr ps,.int .i64 1] w (fun e w'=>e= .returned (.string (fileN nm))/\∃ q,w'=w.drewN q):=by
 have hit:Hid (∀ w,Calls Tryz.prog 155 #[.int .i64 1] w fun e w'=>e= .returned (.string ⟨#[49]⟩)/\w'=w):=fun w=>(Tryz.strconv_Itoa_small 1 (by omega) w).mono fun _ _ h=>⟨by rw [h.1,dec1],h.2⟩;have ha1:=fun W=>add_str nm ⟨#[46]⟩ W (by show nm.size+1<=_;omega);have hsz:(nm++(⟨#[46]⟩:ByteArray)).size<=1001:=by rw [ByteArray.size_append];show nm.size+1<=_;omega
 have ha2:=fun W=>add_str (nm++⟨#[46]⟩) ⟨#[49]⟩ W (by show _+1<=_;omega);go_enter Tryz.func101,Tryz.ntmps101;go_wp2_with fail
 go_quiet ((go_at_call 155;exact Calls.quiet_of_same (hit.out _)))
 go_wp2_with fail
 go_ret;exact ⟨rfl,_,rfl⟩
theorem fresh_any (ps:Nat) (nm:ByteArray) (w:World) (hc:w.cell? ⟨ps,1,none⟩=some (.string nm)) (hs:nm.size<=1000):Calls Tryz.prog 179 #[vPtr ps] w (fun e w'=>e= .returned (.string (freshN nm))/\w=w'):=by
 go_enter Tryz.func179,Tryz.ntmps179;go_wp2_with fail
 go_ret;exact ⟨rfl,rfl⟩
def CutPost (bs:List UInt8) (i:ID) (o:Nat) (w:World) (e:Ending) (w':World):Prop:=
 ∃ A c cs,e= .returned (.tuple #[.slice A cs.length c,.bool (cutOk bs i o)])/\(cutOk bs i o=true->cs=cutB bs i o)/\RS w' A cs/\cs.length<=bs.length/\Below w.heap.size w w'
theorem cut_any (A:Option Addr) (c:Nat) (bs:List UInt8) (i:ID) (o:Nat) (w:World) (h:RS w A bs) (hn:bs.length<=4194304) (hc:bs.length<=c) (ho:o<=4194304) (hi:1<=i.2) (hi2:i.2<=9223372036854775807):
 Calls Tryz.prog 102 #[.slice A bs.length c,.agg #[.int .u64 i.1,.int .i64 i.2],.int .i64 (o:Int)] w (CutPost bs i o w):=by
 obtain ⟨s,z⟩:=i;simp only at hi hi2;have H:=hid h;clear h;by_cases hz:(bs.length:Int)-((o:Int)+28)<z
 · have HC:Hid (cutOk bs (s,z) o=false):=by
    rw [Hid];unfold cutOk;rw [Bool.and_eq_false_iff];left
    simp only [decide_eq_false_iff_not];omega
   go_enter Tryz.func102,Tryz.ntmps102;go_wp2_with fail
   go_ret2;exact ⟨none,0,[],by rw [HC.out];rfl,(fun h=>by rw [HC.out] at h;cases h),⟨fun _=>rfl,(fun ad e=>by cases e)⟩,Nat.zero_le _,(Below.refl _ _).alloc (zA _) _⟩
 obtain ⟨zn,hzn⟩:∃ zn:Nat,z=(zn:Int):=⟨z.toNat,by omega⟩;obtain ⟨cs,HCS⟩:∃ cs,Hid ((bs.drop (o+28)).take zn=cs):=⟨_,rfl⟩
 have hcl:zn=cs.length:=by
  rw [<- HCS.out,List.length_take,List.length_drop];omega
 rw [hcl] at hzn
 have HCB:Hid (cutB bs (s,z) o=cs):=by
  rw [Hid, <- HCS.out];unfold cutB;simp only;rw [hzn, <- hcl];rfl
 have HOK:Hid (cutOk bs (s,z) o=decide (fpOf cs=(s,z))):=by
  rw [Hid];unfold cutOk;rw [HCB.out];have:decide ((s,z).2<=(bs.length:Int)-((o:Int)+28))=true:=by simp only [decide_eq_true_eq];omega
  rw [this,Bool.true_and]
 have hle:o+28+zn<=bs.length:=by omega
 cases A with
 | none=>exact absurd (H.out.1 rfl) (by omega)
 | some ad=>
  obtain ⟨g,og,rfl,_⟩:=H.out.2 ad rfl;have hrs:=H.out.sub (o+28) zn hle;rw [HCS.out] at hrs;have HRS:=hid hrs;clear hrs HCS;subst hzn;rw [hcl] at hle;clear hcl;have hlt:¬ (c:Int)=(o:Int)+28:=by omega
  have hcm:cs.length<=1099511627776:=by omega
  have hof:=fun (W:World) (hW:RS W (some ⟨g,og+(o+28),none⟩) cs)=>Of_any (some ⟨g,og+(o+28),none⟩) (c-(o+28)) cs W hW hcm;have HOF:=hid hof;clear hof;have HR1:Hid (RS (w.alloc (.cells #[.int .u64 s,.int .i64 (cs.length:Int)] 31)) (some ⟨g,og+(o+28),none⟩) cs):=HRS.out.on (bel1q _ _);have heq:=fun W=>eql31 (fpOf cs) (s,(cs.length:Int)) W;simp only at heq;have c0:(w.alloc (.cells #[.int .u64 s,.int .i64 (cs.length:Int)] 31)).cell? ⟨w.heap.size,0,none⟩=some (.int .u64 s):=(IsB.new w 31 _).cell 0;have c1:(w.alloc (.cells #[.int .u64 s,.int .i64 (cs.length:Int)] 31)).cell? ⟨w.heap.size,1,none⟩=some (.int .i64 (cs.length:Int)):=(IsB.new w 31 _).cell 1;have B0:=hid (bel1q w (.cells #[.int .u64 s,.int .i64 (cs.length:Int)] 31));have hsW:w.heap.size<(w.alloc (.cells #[.int .u64 s,.int .i64 (cs.length:Int)] 31)).heap.size:=by simp
  go_enter Tryz.func102,Tryz.ntmps102;go_wp2_with fail
  generalize w.alloc (.cells #[.int .u64 s,.int .i64 (cs.length:Int)] 31)=W at *; refine wp_region_ext (by kernel_rfl) (by kernel_rfl) ?_;repeat (go_big_quiet_step ((go_at_call 31;exact ext_call (HOF.out _ (HR1.out.on (wext_below _))))))
  refine wpQuiet_nil ?_;intro w1 hb1;have B1:Hid (Below w.heap.size w w1):=B0.out.trans (hb1.mono (by omega));have R1:Hid (RS w1 (some ⟨g,og+(o+28),none⟩) cs):=HR1.out.on hb1;clear hb1 heq c0 c1;go_wp2_with fail
  go_ret2;exact ⟨_,_,cs,by rw [HOK.out];rfl,fun _=>HCB.out.symm,R1.out,by omega,B1.out⟩
end
end
section
open Go.RowKit Go.MapKept Go.ChangeMaps
attribute [local go_sem] wext_cell
def readC (s:St) (nm:ByteArray) (i:ID):Pl->Option (List UInt8)
 | .pend _ bs=>some bs
 | .at o=>if readE s (fileN nm)=0/\cutOk (readB s (fileN nm)) i o=true then some (cutB (readB s (fileN nm)) i o) else none
def ReadCP (r:Option (List UInt8)) (w:World) (e:Ending) (w':World):Prop:=
 ∃ A c cs,e= .returned (.tuple #[.slice A cs.length c,.bool r.isSome])/\(∀ bs,r=some bs->cs=bs)/\RS w' A cs/\cs.length<=4194304/\Below w.heap.size w w'
theorem file_ok {nm:ByteArray} (h:nm.size<=1000):okS (fileN nm):=by
 unfold okS fileN maxLen;rw [ByteArray.size_append,ByteArray.size_append];show nm.size+1+1<=_;omega
theorem readB_len {s:St} (h:Ok s) (nm:ByteArray):(readB s nm).length<=4194304:=by
 unfold readB;split
 · cases hb:s.now nm with
   | none=>simp
   | some v=>exact h.now.1 nm v hb
 simp
theorem after_draws {W w5:World} {q:Nat} (h:w5=W.drew.drewN q):Below W.heap.size W w5:=by
 subst h;exact bdrewN (Below.refl W.heap.size W).drew q
section
variable {b:Nat} {w:World} {x:SR} {l:List Ob}
theorem read_any (h:Sto b w x l) (i:ID) (pl:Pl) (hm:(i,pl)∈x.C) (hi1:1<=i.2) (hi2:i.2<=9223372036854775807) (hnm:x.nm.size<=1000) (ho:∀ o,pl= .at o->o<=4194304) (hbs:∀ d bs,pl= .pend d bs->bs.length<=4194304):
 Calls Tryz.prog 85 #[vPtr x.ps,.agg #[.int .u64 i.1,.int .i64 i.2],.agg #[.slice pl.A pl.len pl.cap,.int .i64 pl.f,.int .i64 pl.o]] w (ReadCP (readC x.s x.nm i pl) w):=by
 cases pl with
 | pend d bs=>
  obtain ⟨hr,hp⟩:=h.spend hm;have HR:=hid hr;have HBS:=hid (hbs d bs rfl);obtain ⟨A,n,c⟩:=d;cases A with
  | none=>
   have h1:=hr.1;have h2:=hr.2.1;have h3:=hr.2.2.1 rfl;simp only at h1 h2 h3;omega
  | some ad=>
   have hln:bs.length=n:=hr.1;subst hln;clear h hr hm ho hbs;simp only [Pl.A,Pl.len,Pl.cap,Pl.f,Pl.o];go_enter Tryz.func85,Tryz.ntmps85;go_wp2_with fail
   go_ret2;refine ⟨some ad,c,bs,rfl,(fun bs' e=>by injection e),?_,HBS.out,?_⟩
   · exact (HR.out.rs.on (bel1q _ _)).on (bel1q _ _)
   exact ((bel1q _ _).alloc (by simp) _)
 | «at» o=>
  have k0:w.cell? ⟨x.ps,0,none⟩=some (vPtr x.p):=h.scell.cell 0;have k1:w.cell? ⟨x.ps,1,none⟩=some (.string x.nm):=h.scell.cell 1;have hps:=h.scell.lt;have HD:=hid h.sdv;have hle:=readB_len h.sdv.ok (fileN x.nm);have ho':=ho o rfl;clear h hm ho hbs;simp only [Pl.A,Pl.len,Pl.cap,Pl.f,Pl.o];have B0:Hid (Below w.heap.size w ((w.alloc (.cells #[.int .u64 i.1,.int .i64 i.2] 31)).alloc (.cells #[.slice none 0 0,.int .i64 1,.int .i64 (o:Int)] 138))):=(bel1q _ _).alloc (by simp) _;have IA:Hid (IsB ((w.alloc (.cells #[.int .u64 i.1,.int .i64 i.2] 31)).alloc (.cells #[.slice none 0 0,.int .i64 1,.int .i64 (o:Int)] 138)) w.heap.size 31 #[.int .u64 i.1,.int .i64 i.2]):=(IsB.new _ _ _).alloc _
  have IB:Hid (IsB ((w.alloc (.cells #[.int .u64 i.1,.int .i64 i.2] 31)).alloc (.cells #[.slice none 0 0,.int .i64 1,.int .i64 (o:Int)] 138)) (w.heap.size+1) 138 #[.slice none 0 0,.int .i64 1,.int .i64 (o:Int)]):=by
   have:=IsB.new (w.alloc (.cells #[.int .u64 i.1,.int .i64 i.2] 31)) 138 #[.slice none 0 0,.int .i64 1,.int .i64 (o:Int)];have e:(w.alloc (.cells #[.int .u64 i.1,.int .i64 i.2] 31)).heap.size=w.heap.size+1:=by simp
   rwa [e] at this
  go_enter Tryz.func85,Tryz.ntmps85;go_wp2_with fail
  generalize ((w.alloc (.cells #[.int .u64 i.1,.int .i64 i.2] 31)).alloc (.cells #[.slice none 0 0,.int .i64 1,.int .i64 (o:Int)] 138))=W at *; have HDW:Hid (DV W x.p x.r x.s):=HD.out.on B0.out;have hpsW:x.ps<W.heap.size:=Nat.lt_of_lt_of_le hps B0.out.size;have j0:W.cell? ⟨x.ps,0,none⟩=some (vPtr x.p):=(B0.out.cell (p:=⟨x.ps,0,none⟩) hps).trans k0;have j1:W.cell? ⟨x.ps,1,none⟩=some (.string x.nm):=(B0.out.cell (p:=⟨x.ps,1,none⟩) hps).trans k1;have j2:W.cell? ⟨w.heap.size+1,1,none⟩=some (.int .i64 1):=IB.out.cell 1;clear k0 k1;have j1d:W.drew.cell? ⟨x.ps,1,none⟩=some (.string x.nm):=j1;have HJ:=hid j1d;clear j1d j1;by_cases hE:readE x.s (fileN x.nm)=0
  · have HE:=hid hE;clear hE
    have hread:∀ W5,DV W5 x.p x.r x.s->Calls Tryz.prog 38 #[vPtr x.p,.string (fileN x.nm)] W5 (fun e w'=>∃ d,e= .returned (.tuple #[.slice d.A d.len d.cap,.int .i64 0])/\RB w' d (readB x.s (fileN x.nm))/\Below W5.heap.size W5 w'):=fun W5 hD5=>(Read_any x.p x.r x.s (fileN x.nm) W5 hD5 (file_ok hnm)).mono (by
     rintro e w1 ⟨d,rfl,hr,hd,hb⟩;rw [HE.out];exact ⟨d,rfl,hr,hb⟩)
    have HRD:=hid hread;clear hread;obtain ⟨bs,HBS⟩:∃ bs,Hid (readB x.s (fileN x.nm)=bs):=⟨_,rfl⟩;rw [HBS.out] at HRD hle
    have HRC:Hid (readC x.s x.nm i (.at o)=if cutOk bs i o=true then some (cutB bs i o) else none):=by
     rw [Hid];simp only [readC,HE.out,HBS.out,true_and]
    go_region_held (fun w'=>w'.cell? ⟨x.ps,0,none⟩=some (vPtr x.p)/\w'.cell? ⟨w.heap.size+1,1,none⟩=some (.int .i64 1))
     (first | go_keep | exact K5.out | exact K6.out)
     (first
       | (go_at_call 101;(with_reducible refine (fileName_any x.ps x.nm W.drew HJ.out hnm).mono ?_);rintro e w5 ⟨rfl,q5,hw5⟩;have B5:=hid (after_draws hw5);have D5:=hid (HDW.out.on B5.out);have K5:Hid (w5.cell? ⟨x.ps,0,none⟩=some (vPtr x.p)/\w5.cell? ⟨w.heap.size+1,1,none⟩=some (.int .i64 1)):=⟨(B5.out.cell (p:=⟨x.ps,0,none⟩) hpsW).trans j0,(IB.out.on B5.out).cell 1⟩;clear hw5)
       | (go_at_call 38;(with_reducible refine (HRD.out w5 D5.out).mono ?_);rintro e w1 ⟨⟨A,n,c⟩,rfl,hr,hb⟩;have HR:=hid hr;have HB:Hid (Below W.heap.size W w1):=B5.out.trans (hb.mono B5.out.size);have K6:Hid (w1.cell? ⟨x.ps,0,none⟩=some (vPtr x.p)/\w1.cell? ⟨w.heap.size+1,1,none⟩=some (.int .i64 1)):=⟨(HB.out.cell (p:=⟨x.ps,0,none⟩) hpsW).trans j0,(IB.out.on HB.out).cell 1⟩;clear hr hb))
    have IA1:=hid (IA.out.on HB.out);have IB1:=hid (IB.out.on HB.out);have q0:w1.cell? ⟨w.heap.size,0,none⟩=some (.int .u64 i.1):=IA1.out.cell 0;have q1:w1.cell? ⟨w.heap.size,1,none⟩=some (.int .i64 i.2):=IA1.out.cell 1;have q2:w1.cell? ⟨w.heap.size+1,2,none⟩=some (.int .i64 (o:Int)):=IB1.out.cell 2;go_wp2_with fail
    have hln:bs.length=n:=HR.out.1;have hcc:n<=c:=HR.out.2.1;subst hln;refine (cut_any A c bs i o w1 HR.out.rs hle hcc ho' hi1 hi2).mono ?_;rintro e w2 ⟨A2,c2,cs,rfl,h1,h2,hcl,h3⟩;have H1:=hid h1;have H2:=hid h2;have H3:=hid h3;clear h1 h2 h3 q0 q1 q2;go_wp2_with fail
    go_ret2;have hsz:=B0.out.size;have hsz1:=HB.out.size;refine ⟨A2,c2,cs,?_,fun bs' e=>?_,H2.out,?_,B0.out.trans ((HB.out.trans (H3.out.mono hsz1)).mono hsz)⟩
    · rw [HRC.out];cases hck:cutOk bs i o<;>rfl
    · rw [HRC.out] at e;cases hck:cutOk bs i o with
      | false=>rw [hck] at e;simp at e
      | true=>
       rw [hck] at e;simp at e;rw [H1.out hck,e]
    omega
  have HE:=hid hE;have hne:(readE x.s (fileN x.nm) !=0)=true:=by simpa using hE
  have HRC:Hid (readC x.s x.nm i (.at o)=none):=by
   rw [Hid];simp only [readC,hE,false_and,if_false]
  clear hE
  go_region_held (fun w'=>w'.cell? ⟨x.ps,0,none⟩=some (vPtr x.p)/\w'.cell? ⟨w.heap.size+1,1,none⟩=some (.int .i64 1))
   (first | go_keep | exact K5.out | exact K6.out)
   (first
     | (go_at_call 101;(with_reducible refine (fileName_any x.ps x.nm W.drew HJ.out hnm).mono ?_);rintro e w5 ⟨rfl,q5,hw5⟩;have B5:=hid (after_draws hw5);have D5:=hid (HDW.out.on B5.out);have K5:Hid (w5.cell? ⟨x.ps,0,none⟩=some (vPtr x.p)/\w5.cell? ⟨w.heap.size+1,1,none⟩=some (.int .i64 1)):=⟨(B5.out.cell (p:=⟨x.ps,0,none⟩) hpsW).trans j0,(IB.out.on B5.out).cell 1⟩;clear hw5)
     | (go_at_call 38;(with_reducible refine (Read_any x.p x.r x.s (fileN x.nm) w5 D5.out (file_ok hnm)).mono ?_);rintro e w1 ⟨⟨A,n,c⟩,rfl,hr,hd,hb⟩;unfold vB;have HB:Hid (Below W.heap.size W w1):=B5.out.trans (hb.mono B5.out.size);have K6:Hid (w1.cell? ⟨x.ps,0,none⟩=some (vPtr x.p)/\w1.cell? ⟨w.heap.size+1,1,none⟩=some (.int .i64 1)):=⟨(HB.out.cell (p:=⟨x.ps,0,none⟩) hpsW).trans j0,(IB.out.on HB.out).cell 1⟩;clear hr hd hb))
  go_wp2_with fail
  go_ret2;rw [HRC.out];exact ⟨none,0,[],rfl,(fun bs' e=>by cases e),⟨fun _=>rfl,(fun ad e=>by cases e)⟩,Nat.zero_le _,B0.out.trans (HB.out.mono B0.out.size)⟩
end
end
end Go.Proofs.YteabgcollokgjaaGreatDoor
