/- Contracts of the walk, part 22. -/
import Derived.IntWalk
import Derived.Laws.MakeOwn
import Derived.Laws.IdiomCopy
import Derived.Laws.IdiomStrings
import Derived.Lib.SlBytesConst
import Derived.Lib.BufferRead
import Derived.Test.YtmiknfneeipkeaaGreatS21
import Derived.Test.YtmiknfneeipkeaaGreatS15
import Derived.Test.YtmiknfneeipkeaaGreatS03
import Derived.Test.YtmiknfneeipkeaaGreatS04
open Go.Lib (hid)
namespace Go.Proofs.YtmiknfneeipkeaaGreat
open Go.RowKit Go.MapKept Go.ChangeMaps
def exR (i:Int):Rv:=⟨pA,i,10*i,actI i,1,false,false,false,i,1,⟨#[]⟩,0⟩
theorem ok_ex (i:Int) (h0:0<=i) (h1:i<=1000):okR (exR i):=⟨okID_of h0 (by simp only [Rv.id,exR];omega) (by simp only [Rv.id,exR];omega) (by simp only [Rv.id,exR];omega),okS_pA,WalkArith.wf_i64 ⟨by simp only [Rv.fi,exR];omega,by simp only [Rv.fi,exR];omega⟩⟩
def ex5:List Rv:=[exR 1,exR 2,exR 3,exR 4,exR 5]
def mem5:List RvO:=[⟨exR 1,ok_ex 1 (by omega) (by omega)⟩,⟨exR 2,ok_ex 2 (by omega) (by omega)⟩,⟨exR 3,ok_ex 3 (by omega) (by omega)⟩,⟨exR 4,ok_ex 4 (by omega) (by omega)⟩,⟨exR 5,ok_ex 5 (by omega) (by omega)⟩]
theorem revs5:revs 5=[1,2,3,4,5]:=by rfl
theorem ex5_enc:ex5.flatMap Rv.enc=(revs 5).flatMap encR:=by rw [revs5];rfl
theorem mem5_enc:mem5.flatMap RvO.enc=(revs 5).flatMap encR:=by rw [revs5];rfl
theorem sel5:selOf (selAll 2 30 (keptOf []) (fun _=>mem5) [(pA,1)]) ex5=[exR 1,exR 2]:=by rfl
section
variable {b:Nat} {w0 w:World} {l:List Ob} {A:Option Addr} {cm:Nat}
theorem rvOb_eq:rvOb A 5=vsOb 111 12 A 5 (ex5.flatMap Rv.enc):=by
 rw [ex5_enc];rfl
theorem select5 (h:SW b w0 l w) (hv:rvOb A 5∈l):Calls Tryz.prog 51 #[.agg #[.slice A 5 cm,.slice none 0 0],.agg #[.int .i64 2,.int .i64 30],.slice none 0 0] w (fun e w'=>∃ A' c',e= .returned (.tuple #[.slice A' 2 c',.int .i64 0])/\SW b w0 (rowOb 111 12 (.slice A' 2 c') 2 (encR 1++encR 2)::l) w'):=by
 have h2:SW b w0 (vsOb 36 2 none 0 (([]:List ID).flatMap encID)::l) w:=h.also (o':=vsOb 36 2 none 0 []) RowV.nil (fun _ hi=>hi) (fun i hi=>absurd hi.1 (by omega)) (fun i hi=>absurd hi.1 (by omega));refine (select_any (m:=5) (A:=A) (nk:=0) (K:=none) (dO:=rvOb A 5) (rs:=ex5) (fs:=[(pA,1)]) (mem:=fun _=>mem5) (ks:=[]) h2 (List.mem_cons_of_mem _ hv) (fun _ hi=>hi) (by rw [<- rvOb_eq];exact List.mem_cons_of_mem _ hv) rfl (by omega) (List.mem_cons_self ..) rfl (by omega) (by simp) ?_ ?_ (by simp) (by omega) (by omega) ?_ ?_).mono ?_
 · intro r hr;simp only [ex5,List.mem_cons,List.not_mem_nil,or_false] at hr;rcases hr with rfl | rfl | rfl | rfl | rfl<;>exact ok_ex _ (by omega) (by omega)
 · intro f _;simp [mem5]
 · intro b w0 W l hs hd;exact lines_any hs hd (by omega) (by omega)
 · intro f hf b w0 W l hs hd;obtain rfl:=List.mem_singleton.1 hf;rw [mem5_enc];exact line_any hs hd (by omega) (by omega)
 rintro e w' ⟨A',c',rfl,hs⟩;rw [sel5] at hs;refine ⟨A',c',by rw [sel5];rfl,?_⟩;have hp:=(SW.few (pre:=[_,_]) hs [0] (n:=2) rfl (by decide) (by decide));exact hp
end
end Go.Proofs.YtmiknfneeipkeaaGreat
namespace Go.Proofs.YtmiknfneeipkeaaGreat
open Go.RowKit Go.MapKept Go.ChangeMaps
attribute [local go_sem] wext_cell
set_option maxRecDepth 100000 in
theorem len64_0 (w:World):Calls Tryz.prog 165 #[.int .u64 0] w (fun e w'=>e= .returned (.int .i64 0)/\w=w'):=by
 go_enter Tryz.func165,Tryz.ntmps165;go_wp2_with fail
 go_ret;exact ⟨by kernel_rfl,rfl⟩
theorem len_0 (w:World):Calls Tryz.prog 127 #[.int .u64 0] w (fun e w'=>e= .returned (.int .i64 0)/\w=w'):=by
 go_enter Tryz.func127,Tryz.ntmps127;go_wp2_with (go_at_call 165;(with_reducible refine (len64_0 _).mono ?_);refine halt_ ?_)
 rintro e w3 ⟨rfl,rfl⟩;go_wp2_with fail
 go_ret;exact ⟨rfl,rfl⟩
theorem insort156 (w:World) (f:Value):Calls Tryz.prog 156 #[.slice none 0 0,.int .i64 0,.int .i64 0,f] w (fun e w'=>e= .returned (.tuple #[])/\w=w'):=by
 go_enter Tryz.func156,Tryz.ntmps156;go_wp2_with fail
 go_loopw [8] (fun s8 wr=>s8= .int .i64 1/\w=wr) (fun _ _=>0)
 case atStart=>exact ⟨rfl,rfl⟩
 obtain ⟨rfl,rfl⟩:=hrel;go_wp2_with fail
 refine bodyPost_end (v:=.tuple #[]) (results_none rfl _ _ _) rfl ?_;exact ⟨rfl,rfl⟩
theorem insort168 (w:World) (f:Value):Calls Tryz.prog 168 #[.slice none 0 0,.int .i64 0,.int .i64 0,f] w (fun e w'=>e= .returned (.tuple #[])/\w=w'):=by
 go_enter Tryz.func168,Tryz.ntmps168;go_wp2_with fail
 go_loopw [8] (fun s8 wr=>s8= .int .i64 1/\w=wr) (fun _ _=>0)
 case atStart=>exact ⟨rfl,rfl⟩
 obtain ⟨rfl,rfl⟩:=hrel;go_wp2_with fail
 refine bodyPost_end (v:=.tuple #[]) (results_none rfl _ _ _) rfl ?_;exact ⟨rfl,rfl⟩
theorem pdq126 (w:World) (f:Value) (d:Int):Calls Tryz.prog 126 #[.slice none 0 0,.int .i64 0,.int .i64 0,.int .i64 d,f] w (fun e w'=>e= .returned (.tuple #[])/\w=w'):=by
 go_enter Tryz.func126,Tryz.ntmps126;go_wp2_with fail
 go_loopw [1,2,3,10,11] (fun s1 s2 s3 s10 s11 wr=>s1= .int .i64 0/\s2= .int .i64 0/\s3= .int .i64 d/\s10= .bool true/\s11= .bool true/\w=wr) (fun _ _ _ _ _ _=>0)
 case atStart=>exact ⟨rfl,rfl,rfl,rfl,rfl,rfl⟩
 obtain ⟨rfl,rfl,rfl,rfl,rfl,rfl⟩:=hrel;go_wp2_with (go_at_call 156;(with_reducible refine (insort156 _ _).mono ?_);refine halt_ ?_)
 rintro e w3 ⟨rfl,rfl⟩;go_wp2_with fail
 refine bodyPost_ret (v:=.tuple #[]) (results_none rfl _ _ _) rfl ?_;exact ⟨rfl,rfl⟩
theorem pdq129 (w:World) (f:Value) (d:Int):Calls Tryz.prog 129 #[.slice none 0 0,.int .i64 0,.int .i64 0,.int .i64 d,f] w (fun e w'=>e= .returned (.tuple #[])/\w=w'):=by
 go_enter Tryz.func129,Tryz.ntmps129;go_wp2_with fail
 go_loopw [1,2,3,10,11] (fun s1 s2 s3 s10 s11 wr=>s1= .int .i64 0/\s2= .int .i64 0/\s3= .int .i64 d/\s10= .bool true/\s11= .bool true/\w=wr) (fun _ _ _ _ _ _=>0)
 case atStart=>exact ⟨rfl,rfl,rfl,rfl,rfl,rfl⟩
 obtain ⟨rfl,rfl,rfl,rfl,rfl,rfl⟩:=hrel;go_wp2_with (go_at_call 168;(with_reducible refine (insort168 _ _).mono ?_);refine halt_ ?_)
 rintro e w3 ⟨rfl,rfl⟩;go_wp2_with fail
 refine bodyPost_ret (v:=.tuple #[]) (results_none rfl _ _ _) rfl ?_;exact ⟨rfl,rfl⟩
theorem insort166 (w:World) (f:Value):Calls Tryz.prog 166 #[.slice none 0 0,.int .i64 0,.int .i64 0,f] w (fun e w'=>e= .returned (.tuple #[])/\w=w'):=by
 go_enter Tryz.func166,Tryz.ntmps166;go_wp2_with fail
 go_loopw [8] (fun s8 wr=>s8= .int .i64 1/\w=wr) (fun _ _=>0)
 case atStart=>exact ⟨rfl,rfl⟩
 obtain ⟨rfl,rfl⟩:=hrel;go_wp2_with fail
 refine bodyPost_end (v:=.tuple #[]) (results_none rfl _ _ _) rfl ?_;exact ⟨rfl,rfl⟩
theorem stable128 (w:World) (f:Value):Calls Tryz.prog 128 #[.slice none 0 0,.int .i64 0,f] w (fun e w'=>e= .returned (.tuple #[])/\w=w'):=by
 go_enter Tryz.func128,Tryz.ntmps128;go_wp2_with fail
 go_loopw [7,8] (fun s7 s8 wr=>s7= .int .i64 0/\s8= .int .i64 20/\w=wr) (fun _ _ _=>0)
 case atStart=>exact ⟨rfl,rfl,rfl⟩
 obtain ⟨rfl,rfl,rfl⟩:=hrel;go_wp2_with (go_at_call 166;(with_reducible refine (insort166 _ _).mono ?_);refine halt_ ?_)
 rintro e w3 ⟨rfl,rfl⟩;go_wp2_with fail
 go_loopw [6] (fun s6 wr=>s6= .int .i64 20/\w=wr) (fun _ _=>0)
 case atStart=>exact ⟨rfl,rfl⟩
 obtain ⟨rfl,rfl⟩:=hrel;go_wp2_with fail
 refine bodyPost_end (v:=.tuple #[]) (results_none rfl _ _ _) rfl ?_;exact ⟨rfl,rfl⟩
theorem sortF82 (w:World) (f:Value):Calls Tryz.prog 82 #[.slice none 0 0,f] w (fun e w'=>e= .returned (.tuple #[])/\w=w'):=by
 go_enter Tryz.func82,Tryz.ntmps82;go_wp2_with (go_at_call 127;(with_reducible refine (len_0 _).mono ?_);refine halt_ ?_)
 rintro e w3 ⟨rfl,rfl⟩;go_wp2_with (go_at_call 126;(with_reducible refine (pdq126 _ _ _).mono ?_);refine halt_ ?_)
 rintro e w3 ⟨rfl,rfl⟩;go_wp2_with fail
 refine bodyPost_end (v:=.tuple #[]) (results_none rfl _ _ _) rfl ?_;exact ⟨rfl,rfl⟩
theorem sortF87 (w:World) (f:Value):Calls Tryz.prog 87 #[.slice none 0 0,f] w (fun e w'=>e= .returned (.tuple #[])/\w=w'):=by
 go_enter Tryz.func87,Tryz.ntmps87;go_wp2_with (go_at_call 127;(with_reducible refine (len_0 _).mono ?_);refine halt_ ?_)
 rintro e w3 ⟨rfl,rfl⟩;go_wp2_with (go_at_call 129;(with_reducible refine (pdq129 _ _ _).mono ?_);refine halt_ ?_)
 rintro e w3 ⟨rfl,rfl⟩;go_wp2_with fail
 refine bodyPost_end (v:=.tuple #[]) (results_none rfl _ _ _) rfl ?_;exact ⟨rfl,rfl⟩
theorem sortS84 (w:World) (f:Value):Calls Tryz.prog 84 #[.slice none 0 0,f] w (fun e w'=>e= .returned (.tuple #[])/\w=w'):=by
 go_enter Tryz.func84,Tryz.ntmps84;go_wp2_with (go_at_call 128;(with_reducible refine (stable128 _ _).mono ?_);refine halt_ ?_)
 rintro e w3 ⟨rfl,rfl⟩;go_wp2_with fail
 refine bodyPost_end (v:=.tuple #[]) (results_none rfl _ _ _) rfl ?_;exact ⟨rfl,rfl⟩
theorem compact_none (w:World):Calls Tryz.prog 83 #[.slice none 0 0] w (fun e w'=>e= .returned (.slice none 0 0)/\w=w'):=by
 go_enter Tryz.func83,Tryz.ntmps83;go_wp2_with fail
 go_ret;exact ⟨rfl,rfl⟩
theorem chunksOf_none (w:World):Calls Tryz.prog 39 #[.slice none 0 0] w (fun e w'=>e= .returned (.tuple #[.slice none 0 0,.int .i64 0])/\w=w'):=by
 go_enter Tryz.func39,Tryz.ntmps39;go_wp2_with fail
 go_loopw [4,10] (fun s4 s10 wr=>s4= .slice none 0 0/\s10= .int .i64 0/\w=wr) (fun _ _ _=>0)
 case atStart=>exact ⟨rfl,rfl,rfl⟩
 obtain ⟨rfl,rfl,rfl⟩:=hrel;go_wp2_with (go_at_call 82;(with_reducible refine (sortF82 _ _).mono ?_);refine halt_ ?_)
 rintro e w3 ⟨rfl,rfl⟩;go_wp2_with (go_at_call 83;(with_reducible refine (compact_none _).mono ?_);refine halt_ ?_)
 rintro e w3 ⟨rfl,rfl⟩;go_wp2_with fail
 refine bodyPost_ret (results_tmp2 rfl _ _ _) rfl ?_;exact ⟨rfl,rfl⟩
theorem contentsOf_none (w:World):Calls Tryz.prog 40 #[.slice none 0 0] w (fun e w'=>e= .returned (.tuple #[.slice none 0 0,.bool true])/\w=w'):=by
 go_enter Tryz.func40,Tryz.ntmps40;go_wp2_with fail
 go_loopw [4,15] (fun s4 s15 wr=>s4= .slice none 0 0/\s15= .int .i64 0/\w=wr) (fun _ _ _=>0)
 case atStart=>exact ⟨rfl,rfl,rfl⟩
 obtain ⟨rfl,rfl,rfl⟩:=hrel;go_wp2_with (go_at_call 84;(with_reducible refine (sortS84 _ _).mono ?_);refine halt_ ?_)
 rintro e w3 ⟨rfl,rfl⟩;go_wp2_with fail
 go_loopw [9,35] (fun s9 s35 wr=>s9= .slice none 0 0/\s35= .int .i64 0/\w=wr) (fun _ _ _=>0)
 case atStart=>exact ⟨rfl,rfl,rfl⟩
 obtain ⟨rfl,rfl,rfl⟩:=hrel;go_wp2_with fail
 refine bodyPost_ret (results_tmp2 rfl _ _ _) rfl ?_;exact ⟨rfl,rfl⟩
theorem choose_none (w:World):Calls Tryz.prog 41 #[.slice none 0 0,.slice none 0 0] w (fun e w'=>e= .returned (.tuple #[.slice none 0 0,.bool true])/\w'=w.alloc (.map #[] 0)):=by
 have hmk:∀ (W:World),(Instr.makeMap 146 none).run Tryz.prog W= .ok (.map (some W.heap.size)) (W.alloc (.map #[] 0)):=fun W=>by simp [Instr.makeMap,run_underlying Tryz.underlying146]
 go_enter Tryz.func41,Tryz.ntmps41;go_wp2_with fail
 go_loopw [15] (fun s15 wr=>s15= .int .i64 0/\wr=w.alloc (.map #[] 0)) (fun _ _=>0)
 case atStart=>exact ⟨rfl,rfl⟩
 obtain ⟨rfl,rfl⟩:=hrel;go_wp2_with fail
 go_loopw [9,24] (fun s9 s24 wr=>s9= .slice none 0 0/\s24= .int .i64 0/\wr=w.alloc (.map #[] 0)) (fun _ _ _=>0)
 case atStart=>exact ⟨rfl,rfl,rfl⟩
 obtain ⟨rfl,rfl,rfl⟩:=hrel;go_wp2_with (go_at_call 87;(with_reducible refine (sortF87 _ _).mono ?_);refine halt_ ?_)
 rintro e w3 ⟨rfl,rfl⟩;go_wp2_with fail
 refine bodyPost_ret (results_tmp2 rfl _ _ _) rfl ?_;exact ⟨rfl,rfl⟩
end Go.Proofs.YtmiknfneeipkeaaGreat
namespace Go.Proofs.YtmiknfneeipkeaaGreat
open Go.RowKit
theorem sb_one (w:World) (x:UInt8) (v:Int) (hv:((x.toNat:Nat):Int)=v):SB (w.alloc (.cells #[.int .u8 v] 5)) (some ⟨w.heap.size,0,none⟩) [x]:=by
 refine ⟨(fun e=>by cases e),fun ad e j u hu=>?_⟩;injection e with e;subst e
 have hj:j=0:=by
  have:=(List.getElem?_eq_some_iff.1 hu).1;simp at this;exact this
 subst hj;simp [encU] at hu;subst hu;rw [lit_add,(IsB.new w 5 #[.int .u8 v]).cell, <- hv];rfl
def RX (w:World) (d:BD) (bs:List UInt8):Prop:=RB w d bs∨(bs.length=d.len/\d.len=d.cap/\0<d.len/\SB w d.A bs)
theorem RX.of {w:World} {d:BD} {bs:List UInt8} (h:RB w d bs):RX w d bs:=.inl h
theorem RX.on {w w':World} {d:BD} {bs:List UInt8} (h:RX w d bs) (hb:Below w.heap.size w w'):RX w' d bs:=by
 rcases h with h | ⟨h1,h2,h3,h4⟩
 · exact .inl (h.on hb)
 exact .inr ⟨h1,h2,h3,h4.on hb h4.lt⟩
theorem run_append_full (w:World) (ty:TypeId) (d:BD) (bs:List UInt8) (hl:bs.length=d.len) (hc:d.len=d.cap) (h0:0<d.len) (hs:SB w d.A bs) (A:Option Addr) (c:Nat) (ns:List UInt8) (hsn:SB w A ns) (hp:0<ns.length) (hb:bs.length+ns.length<=1099511627776):
 ∃ d' w',(Builtin.append_ #[40,40] ty #[vB d,.slice A ns.length c]).run Tryz.prog w= .ok (vB d') w'/\d'.len=d.len+ns.length/\AppB w d (bs++ns) d' w':=by
 obtain ⟨i0,hi,hz0,hz1,hz2⟩:=info_parts info5;cases hA:A with
 | none=>
  have:=hsn.1 hA;omega
 | some a=>
  cases hd:d.A with
  | none=>
   have:=hs.1 hd;omega
  | some ad=>
   have hv:vB d= .slice (some ad) d.len d.cap:=by simp [vB,hd]
   have hlo:(bs.map encU).length=d.len*i0.size:=by rw [hz1,List.length_map,Nat.mul_one,hl]
   have hln:(ns.map encU).length=ns.length*i0.size:=by rw [hz1,List.length_map,Nat.mul_one]
   have hr:=run_append_grow (P:=Tryz.prog) w 40 ty 5 i0 _ Tryz.underlying40 hi hz0 ad d.len d.cap (bs.map encU) hlo (fun j u hu=>hs.2 ad hd j u hu) a ns.length c (ns.map encU) hln (hsn.2 a hA) (by omega) (by omega) (growslice_fits (by omega) (by rw [hz2];omega));have hge:=grownCap_ge w (d.len+ns.length) d.cap 5;refine ⟨⟨some ⟨w.heap.size,0,none⟩,d.len+ns.length,grownCap w (d.len+ns.length) d.cap 5⟩,_,by rw [hv];exact hr,rfl,?_,.inr ⟨w.heap.size,rfl,Nat.le_refl _,(Below.refl w.heap.size w).drew.alloc (by simp) _⟩⟩;refine new_bytes w.drew _ _ _ _ _ (by simp) (by simp;omega) hge ?_ (fun j u hu=>?_)
   · rw [Array.size_append,Array.size_append,List.size_toArray,List.size_toArray,size_zeroCells];simp [Value.cells];omega
   rw [List.map_append] at hu;have hj:=(List.getElem?_eq_some_iff.1 hu).1;rw [Array.getElem?_append_left (by simpa using hj),List.append_toArray,List.getElem?_toArray];exact hu
theorem wpList_append_rx {w:World} {ops:Array Oper} {rest:List Oper} {o:Oper} {a:Act} {Q:Exit->Act->World->Prop} (hgd:o.guard=none) (s x:Operand) (ho:o.op= .call { callee:=.builtin .append,args:= #[s,x],argTypes:= #[40,40] }) (d:BD) (bs:List UInt8) (hs:a.eval s=vB d) (h:RX w d bs)
 (A:Option Addr) (c:Nat) (ns:List UInt8) (hx:a.eval x= .slice A ns.length c) (hsrc:SB w A ns) (hp:0<ns.length) (hb:bs.length+ns.length<=1099511627776)
 (hK:∀ d' w',d'.len=d.len+ns.length->AppB w d (bs++ns) d' w'->wpList Tryz.prog ops Q rest (a.put o.dst (vB d')) w'):wpList Tryz.prog ops Q (o::rest) a w:=by
 rcases h with h | ⟨h1,h2,h3,h4⟩
 · exact wpList_append_bytes hgd s x ho d bs hs h A c ns hx hsrc hb hK
 refine wpList_plain hgd fun K hK'=>?_;obtain ⟨d',w',hr,h5,h6⟩:=run_append_full w o.type d bs h1 h2 h3 h4 A c ns hsrc hp hb;unfold Oper.wp execOp;simp only [ho,resolve,invoke,builtin,Sem.run_bind,Sem.run_pure,Result.andThen_ok,List.map_toArray,List.map_cons,List.map_nil,hs,hx,hr];exact hK' _ _ (hK d' w' h5 h6)
set_option maxRecDepth 100000 in
set_option maxHeartbeats 1000000 in
theorem uintSize_any (v:Nat) (w:World) (hv:v<18446744073709551616):Calls Tryz.prog 93 #[.int .u64 (v:Int)] w fun e w'=>(∃ n:Nat,e= .returned (.int .i64 n)/\n<=100)/\w=w':=by
 go_enter Tryz.func93,Tryz.ntmps93;go_wp2_with fail
 go_loop [0,3] (fun x n=>∃ (k u:Nat),k<=64/\n= .int .i64 ((k:Nat):Int)/\x= .int .u64 ((u:Nat):Int)/\u*2^k<=v) (fun x _=>(intOf x).toNat)
 case atStart=>exact ⟨1,v / 128,by omega,rfl,by go_num,by omega⟩
 obtain ⟨k,u,hk,rfl,rfl,hu⟩:=hrel;by_cases hp:0<u
 · have hk2:k<64:=by
    rcases Nat.lt_or_ge k 64 with h | h
    · exact h
    exfalso
    have:2^64<=2^k:=Nat.pow_le_pow_right (by omega) h;have h2:1*2^k<=u*2^k:=Nat.mul_le_mul_right _ hp;omega
   have hu2:Hid (u / 128*2^(k+1)<=v):=by
    rw [Hid,Nat.pow_succ];have h1:u / 128*(2^k*2)=u / 128*2*2^k:=by rw [Nat.mul_comm (2^k) 2, <- Nat.mul_assoc]
    rw [h1];exact Nat.le_trans (Nat.mul_le_mul_right _ (by omega)) hu
   clear hu;go_wp2_with fail
   go_round
   case rel=>exact ⟨k+1,u / 128,by omega,by go_num,by go_num,hu2.out⟩
   simp [intOf];omega
 clear hu;go_wp2_with fail
 go_ret;exact ⟨⟨k,rfl,by omega⟩,rfl⟩
end Go.Proofs.YtmiknfneeipkeaaGreat
namespace Go.Proofs.YtmiknfneeipkeaaGreat
open Go.RowKit
theorem mk_bytes (w:World) (n c:Nat) (h:n<=c) (hc:c<=16777216):(Instr.makeSlice 40 (.int .i64 n) (.int .i64 c)).run Tryz.prog w= .ok (.slice (some ⟨w.heap.size,0,none⟩) n c) (w.alloc (.cells (Array.replicate c (encU 0)) 5)):=by
 obtain ⟨i0,hi,hz0,hz1,hz2⟩:=info_parts info5;have:=run_makeSlice (P:=Tryz.prog) w 40 5 i0 _ Tryz.underlying40 hi hz0 .i64 .i64 n c (by omega) (by omega) (by rw [hz1];simp;omega) (by rw [hz2];omega) (by omega);simp only [Int.toNat_natCast] at this;have e:madeCells (Value.int IntKind.u8 0).cells c=(Array.replicate c (encU 0)):=Array.ext' (by rw [show (Value.int IntKind.u8 0).cells= #[Value.int IntKind.u8 0] from rfl,toList_madeCells_one];simp [encU]);rw [this,hz1,Nat.mul_one,e]
theorem setCells_tail (b:Nat) {t:TypeId}:∀ (vs:List Value) (o:Nat) (w:World) (cur:Array Value),IsB w b t cur->∃ cur',IsB (w.setCells b o vs) b t cur'/\cur'.size=cur.size/\(∀ j,j<o->cur'[j]? =cur[j]?)/\(∀ j,j<vs.length->o+j<cur.size->cur'[o+j]? =vs[j]?)/\∀ j,o+vs.length<=j->cur'[j]? =cur[j]?
 | [],_,_,cur,h=>⟨cur,h,rfl,fun _ _=>rfl,(fun j hj=>absurd hj (by simp)),fun _ _=>rfl⟩
 | v::r,o,w,cur,h=>by
  obtain ⟨cur',c1,c2,c3,c4,c5⟩:=setCells_tail b r (o+1) (w.setCell ⟨b,o,none⟩ v) (cur.setIfInBounds o v) (h.set_ o v);refine ⟨cur',c1,by simpa using c2,fun j hj=>?_,fun j hj hs=>?_,fun j hj=>?_⟩
  · rw [c3 j (by omega),Array.getElem?_setIfInBounds_ne (by omega)]
  · cases j with
    | zero=>
     rw [Nat.add_zero,c3 o (by omega),Array.getElem?_setIfInBounds_self_of_lt (by omega)];rfl
    | succ j=>
     have:=c4 j (by simpa using hj) (by simp;omega);rw [show o+(j+1)=o+1+j by omega,this];rfl
  simp only [List.length_cons] at hj;rw [c5 j (by omega),Array.getElem?_setIfInBounds_ne (by omega)]
theorem run_copyB (w:World) (ty:TypeId) (g dLen dCap:Nat) (cur:Array Value) (hg:IsB w g 5 cur) (A:Option Addr) (c:Nat) (bs:List UInt8) (hs:SB w A bs) (hfit:min bs.length dLen<=cur.size):
 ∃ w',(Builtin.copy_ #[40,40] ty #[.slice (some ⟨g,0,none⟩) dLen dCap,.slice A bs.length c]).run Tryz.prog w= .ok (goInt ((min bs.length dLen:Nat):Int)) w'/\w.grownBy w' (some g)/\w'.heap.size=w.heap.size/\
  ∃ cur',IsB w' g 5 cur'/\cur'.size=cur.size/\(∀ j,j<min bs.length dLen->cur'[j]? =some (encU (bs.getD j 0)))/\∀ j,min bs.length dLen<=j->cur'[j]? =cur[j]? :=by
 have hsz:(Tryz.prog.info? 5).map (·.size)=some 1:=by
  obtain ⟨i0,hi,_,hz1,_⟩:=info_parts info5;rw [hi];simp [hz1]
 by_cases h0:min bs.length dLen=0
 · refine ⟨w,?_,g_refl _ _,rfl,cur,hg,rfl,fun j hj=>by omega,fun _ _=>rfl⟩;rw [h0];exact run_copy_none w 40 40 ty 5 _ A dLen dCap bs.length c Tryz.underlying40 hsz h0
 cases A with
 | none=>
  have:=hs.1 rfl;omega
 | some ad=>
  have hl:((bs.take dLen).map encU).length=Nat.min bs.length dLen:=by
   rw [List.length_map,List.length_take];exact Nat.min_comm _ _
  have hl2:((bs.take dLen).map encU).length=min bs.length dLen:=hl
  have hr:=run_copy_cells (P:=Tryz.prog) w 40 40 ty 5 g 0 dLen dCap ad bs.length c ((bs.take dLen).map encU) Tryz.underlying40 hsz hl
   (fun j v hv=>by
     refine hs.2 ad rfl j v ?_;obtain ⟨hj,hv'⟩:=List.getElem?_eq_some_iff.1 hv;have hj2:j<dLen:=by rw [hl2] at hj;omega
     rw [<- hv,List.map_take,List.getElem?_take_of_lt hj2])
   (fun j hj=>by
     rw [Nat.zero_add,hg.cell,Array.getElem?_eq_getElem (by omega)];rfl) (fun j _=>hg.frozen _) (encU_one _)
  obtain ⟨cur',c1,c2,c3,c4,c5⟩:=setCells_tail g ((bs.take dLen).map encU) 0 w cur hg;obtain ⟨e1,e2,e3,e4⟩:=setCells_world g ((bs.take dLen).map encU) 0 w;rw [hl2] at hr;refine ⟨_,hr,⟨e1,e2,e3,by omega,fun i _ hne=>setCells_heap g _ _ w i (fun e=>hne (by rw [e]))⟩,e4,cur',c1,c2,fun j hj=>?_,fun j hj=>c5 j (by rw [hl2];omega)⟩;have:=c4 j (by rw [hl2];exact hj) (by omega);rw [Nat.zero_add] at this;rw [this,List.getElem?_map,List.getElem?_take_of_lt (by omega),List.getD_eq_getElem?_getD,List.getElem?_eq_getElem (by omega)];rfl
theorem get_encU {bs:List UInt8} {j:Nat} {u:Value} (h:(bs.map encU)[j]? =some u):j<bs.length/\u=encU (bs.getD j 0):=by
 obtain ⟨hj,hu⟩:=List.getElem?_eq_some_iff.1 h;have hj':j<bs.length:=by simpa using hj
 refine ⟨hj',?_⟩;rw [<- hu,List.getElem_map,List.getD_eq_getElem?_getD,List.getElem?_eq_getElem hj'];rfl
set_option maxRecDepth 100000 in
set_option maxHeartbeats 1000000 in
theorem extended_any (A:Option Addr) (c:Nat) (bs:List UInt8) (n:Nat) (w:World) (h:SB w A bs) (hn:bs.length<=1000000) (hk:n<=1000):
 Calls Tryz.prog 92 #[.slice A bs.length c,.int .i64 (n:Int)] w (NewB bs w):=by
 have hmk:=mk_bytes w bs.length (bs.length+n) (by omega) (by omega);rw [Int.natCast_add] at hmk;have hB:IsB (w.alloc (.cells (Array.replicate (bs.length+n) (encU 0)) 5)) w.heap.size 5 (Array.replicate (bs.length+n) (encU 0)):=IsB.new _ _ _;obtain ⟨w1,hcp,hg,hz,cur',c1,c2,c3,c4⟩:=run_copyB _ 3 w.heap.size bs.length (bs.length+n) _ hB A c bs (h.on (bel1q _ _) h.lt) (by simp);rw [Nat.min_self] at hcp c3 c4;have HG:=hid hg;have C1:=hid c1;have C2:=hid c2;have C3:=hid c3;clear hg hz c1 c2 c3 c4 hB h;go_enter Tryz.func92,Tryz.ntmps92;go_wp2_with fail
 go_ret;refine ⟨⟨some ⟨w.heap.size,0,none⟩,bs.length,bs.length+n⟩,rfl,⟨rfl,by simp,(fun e=>by cases e),fun ad e=>?_⟩,(fun g hg=>by simp [blk] at hg;omega),?_⟩
 · injection e with e;subst e;refine ⟨_,cur',rfl,C1.out,by rw [C2.out];simp,fun j u hu=>?_⟩;obtain ⟨hj,rfl⟩:=get_encU hu;exact C3.out j hj
 exact (bel1q w _).grown HG.out (by simp) (by simp)
theorem or7 (x y:Nat) (hy:x<128):x ||| 128=x+128:=by
 have:=Nat.two_pow_add_eq_or_of_lt (i:=7) (b:=x) (by omega) 1;rw [show 2^7*1=128 by rfl] at this;rw [Nat.or_comm, <- this,Nat.add_comm]
theorem mask7 (a:Nat) (ha:a<18446744073709551616):bits .and .u64 (a:Int) 127=((a % 128:Nat):Int):=by
 have h:=bits_and_u64_nat a 127 ha (by omega);have e:a &&& 127=a % 128:=Nat.and_two_pow_sub_one_eq_mod a 7;rw [e] at h;exact h
theorem set7 (a:Nat) (ha:a<18446744073709551616):bits .or .u64 (bits .and .u64 (a:Int) 127) 128=((a % 128+128:Nat):Int):=by
 rw [mask7 a ha];have h:=bits_or_u64_nat (a % 128) 128 (by omega) (by omega);rw [or7 _ 0 (by omega)] at h;exact h
set_option maxRecDepth 100000 in
set_option maxHeartbeats 4000000 in
theorem appendUint_any (d:BD) (bs:List UInt8) (v:Nat) (w0 w:World) (hr:RB w d bs) (hd:∀ g,blk d=some g->w0.heap.size<=g) (h0:Below w0.heap.size w0 w) (hv:v<18446744073709551616) (hn:bs.length<=1000000):
 Calls Tryz.prog 91 #[.slice d.A d.len d.cap,.int .u64 (v:Int)] w (NewB (bs++putU v) w0):=by
 have HR:=hid hr;have HD:=hid hd;have H0:=hid h0;clear hr hd h0;go_enter Tryz.func91,Tryz.ntmps91;go_wp2_with fail
 go_loopw [0,1] (fun s x wr=>∃ (u:Nat) (d':BD) (cs:List UInt8),u<18446744073709551616/\x= .int .u64 ((u:Nat):Int)/\s= .slice d'.A d'.len d'.cap/\RB wr d' cs/\Hid (cs++putU u=bs++putU v)/\(∀ g,blk d'=some g->w0.heap.size<=g)/\Below w0.heap.size w0 wr) (fun _ x _=>(intOf x).toNat)
 case atStart=>exact ⟨v,d,bs,hv,rfl,rfl,HR.out,rfl,HD.out,H0.out⟩
 obtain ⟨u,d',cs,hu,rfl,rfl,hr,HE,hd,hb⟩:=hrel;have R1:=hid hr;have D1:=hid hd;have B1:=hid hb;clear hr hd hb;have hv10:(putU v).length<=10:=putU_len (k:=9) (by omega)
 have hcl:cs.length<=bs.length+10:=by
  have:=congrArg List.length HE.out;simp only [List.length_append] at this;omega
 clear hv10;by_cases hlt:128<=u
 · have e1:=set7 u hu;have HP:Hid (putU u=UInt8.ofNat (u % 128+128)::putU (u / 128)):=by rw [Hid,putU,dif_neg (by omega)]
   go_wp2_with (at_builtin;refine halt_q ?_)
   have hx:(((UInt8.ofNat (u % 128+128)).toNat:Nat):Int)=(u:Int) % 128+128:=by
    rw [UInt8.toNat_ofNat'];omega
   have S1:=sb_one wr _ _ hx;refine wpList_append_bytes rfl _ _ rfl d' cs rfl (R1.out.on (bel1q _ _)) (some ⟨wr.heap.size,0,none⟩) 1 [UInt8.ofNat (u % 128+128)] rfl S1 (by simp only [List.length_cons,List.length_nil];omega) ?_;intro d2 w2 hl2 happ;obtain ⟨r1,r2,r3⟩:=happ.new (w0:=w0) D1.out (B1.out.trans ((bel1q wr _).mono B1.out.size));have R2:=hid r1;have D2:=hid r2;have B2:=hid r3;clear r1 r2 r3 happ hl2 hx S1 e1;unfold vB;go_wp2_with fail
   go_roundw
   case rel=>exact ⟨u / 128,d2,cs++[UInt8.ofNat (u % 128+128)],by omega,by go_num,rfl,R2.out,by rw [Hid,List.append_assoc,List.singleton_append, <- HP.out];exact HE.out,D2.out,B2.out⟩
   simp [intOf];omega
 have HP:Hid (putU u=[UInt8.ofNat u]):=by rw [Hid,putU,dif_pos (by omega)]
 go_wp2_with (at_builtin;refine halt_q ?_)
 have hx:(((UInt8.ofNat u).toNat:Nat):Int)=(u:Int):=by
  rw [UInt8.toNat_ofNat'];omega
 have S1:=sb_one wr _ _ hx;refine wpList_append_bytes rfl _ _ rfl d' cs rfl (R1.out.on (bel1q _ _)) (some ⟨wr.heap.size,0,none⟩) 1 [UInt8.ofNat u] rfl S1 (by simp only [List.length_cons,List.length_nil];omega) ?_;intro d2 w2 hl2 happ;obtain ⟨r1,r2,r3⟩:=happ.new (w0:=w0) D1.out (B1.out.trans ((bel1q wr _).mono B1.out.size));rw [<- HP.out,HE.out] at r1;have R2:=hid r1;have D2:=hid r2;have B2:=hid r3;clear r1 r2 r3 happ hl2 hx S1;unfold vB;go_wp2_with fail
 go_ret;exact ⟨d2,rfl,R2.out,D2.out,B2.out⟩
theorem NewB.base {bs:List UInt8} {w0 w w':World} {e:Ending} (h:NewB bs w e w') (h0:Below w0.heap.size w0 w):NewB bs w0 e w':=by
 obtain ⟨d,he,hr,hd,hb⟩:=h;exact ⟨d,he,hr,fun g hg=>Nat.le_trans h0.size (hd g hg),h0.trans (hb.mono h0.size)⟩
set_option maxRecDepth 100000 in
set_option maxHeartbeats 1000000 in
theorem PutUint_any (A:Option Addr) (c:Nat) (bs:List UInt8) (v:Nat) (w:World) (h:SB w A bs) (hn:bs.length<=900000) (hv:v<18446744073709551616):
 Calls Tryz.prog 43 #[.slice A bs.length c,.int .u64 (v:Int)] w (NewB (bs++putU v) w):=by
 have H:=hid h;clear h;go_enter Tryz.func43,Tryz.ntmps43;go_wp2_with fail
 refine (uintSize_any v _ hv).mono ?_;rintro e w1 ⟨⟨n,rfl,hn2⟩,rfl⟩;go_wp2_with fail
 refine (extended_any A c bs n w H.out (by omega) (by omega)).mono ?_;rintro e w1 ⟨⟨B,m,cc⟩,rfl,hr,hd,hb⟩;have R1:=hid hr;have D1:=hid hd;have B1:=hid hb;clear hr hd hb;unfold vB;go_wp2_with fail
 refine (appendUint_any ⟨B,m,cc⟩ bs v w w1 R1.out D1.out B1.out hv (by omega)).mono ?_;rintro e w2 ⟨d2,rfl,hr,hd,hb⟩;have R2:=hid hr;have D2:=hid hd;have B2:=hid hb;clear hr hd hb;unfold vB;go_wp2_with fail
 go_ret;exact ⟨d2,rfl,R2.out,D2.out,B2.out⟩
end Go.Proofs.YtmiknfneeipkeaaGreat
namespace Go.Proofs.YtmiknfneeipkeaaGreat
open Go.RowKit Go.MapKept Go.ChangeMaps
structure Buf (w0 w:World) (d:BD) (bs:List UInt8):Prop where
 rb:RB w d bs
 nw:∀ g,blk d=some g->w0.heap.size<=g
 bl:Below w0.heap.size w0 w
section
variable {w0 w w':World} {d:BD} {bs:List UInt8}
theorem Buf.on (h:Buf w0 w d bs) (hb:Below w.heap.size w w'):Buf w0 w' d bs:=⟨h.rb.on hb,h.nw,h.bl.trans (hb.mono h.bl.size)⟩
theorem Buf.len (h:Buf w0 w d bs):d.len=bs.length:=h.rb.1.symm
theorem sb_nil (w:World):SB w none []:=⟨fun _=>rfl,fun ad e=>by cases e⟩
theorem full_rx (w:World) (cs:Array Value) (fz:Nat×Nat) (bs:List UInt8) (n:Nat) (hn:bs.length=n) (h0:0<n) (hc:bs.map encU=cs.toList):RX (w.alloc (.cells cs 5 fz)) ⟨some ⟨w.heap.size,0,none⟩,n,n⟩ bs:=by
 refine .inr ⟨hn,rfl,h0,(fun e=>by cases e),fun ad e j u hu=>?_⟩;injection e with e;subst e;rw [lit_add,Nat.zero_add];rw [hc,Array.getElem?_toList] at hu;rw [cell_of_row _ w.heap.size j cs 5 fz (heap_alloc_new w _)];exact hu
section
variable {ops:Array Oper} {rest:List Oper} {o:Oper} {a:Act} {Q:Exit->Act->World->Prop}
theorem wpList_buf (h:Buf w0 w d bs) (hgd:o.guard=none) (s x:Operand) (ho:o.op= .call { callee:=.builtin .append,args:= #[s,x],argTypes:= #[40,40] }) (hs:a.eval s=vB d)
 (A:Option Addr) (n c:Nat) (ns:List UInt8) (hx:a.eval x= .slice A n c) (hn:ns.length=n) (hsrc:SB w A ns) (hb:bs.length+n<=1099511627776)
 (hK:∀ d' w',Buf w0 w' d' (bs++ns)->wpList Tryz.prog ops Q rest (a.put o.dst (vB d')) w'):wpList Tryz.prog ops Q (o::rest) a w:=by
 subst hn;refine wpList_append_bytes hgd s x ho d bs hs h.rb A c ns hx hsrc hb (fun d' w' _ happ=>?_);obtain ⟨r1,r2,r3⟩:=happ.new h.nw h.bl;exact hK d' w' ⟨r1,r2,r3⟩
theorem wpList_buf0 (h:RX w d bs) (hnw:∀ g,blk d=some g->w0.heap.size<=g) (hbl:Below w0.heap.size w0 w) (hgd:o.guard=none) (s x:Operand) (ho:o.op= .call { callee:=.builtin .append,args:= #[s,x],argTypes:= #[40,40] }) (hs:a.eval s=vB d)
 (A:Option Addr) (n c:Nat) (ns:List UInt8) (hx:a.eval x= .slice A n c) (hn:ns.length=n) (h0:0<n) (hsrc:SB w A ns) (hb:bs.length+n<=1099511627776)
 (hK:∀ d' w',Buf w0 w' d' (bs++ns)->wpList Tryz.prog ops Q rest (a.put o.dst (vB d')) w'):wpList Tryz.prog ops Q (o::rest) a w:=by
 subst hn;refine wpList_append_rx hgd s x ho d bs hs h A c ns hx hsrc h0 hb (fun d' w' _ happ=>?_);obtain ⟨r1,r2,r3⟩:=happ.new hnw hbl;exact hK d' w' ⟨r1,r2,r3⟩
end
theorem conv_str {A:Option Addr} (h:SB w A bs) (n c:Nat) (hn:bs.length=n):(convert 40 9 (.slice A n c)).run Tryz.prog w= .ok (.string ⟨bs.toArray⟩) w:=by
 subst hn;cases A with
 | none=>
  have:=h.1 rfl;obtain rfl:bs=[]:=List.length_eq_zero_iff.1 this;exact Lib.run_convert_nil_bytes w 40 9 5 c Tryz.underlying40 Tryz.underlying5 Tryz.underlying9
 | some ad=>
  exact run_convert_bytes_back w 40 9 5 ad c bs Tryz.underlying40 Tryz.underlying5 Tryz.underlying9 (fun j hj=>h.2 ad rfl j _ (by rw [List.getElem?_map,List.getElem?_eq_getElem hj];rfl))
theorem SB.take {A:Option Addr} (h:SB w A bs) (n:Nat):SB w A (bs.take n):=by
 refine ⟨fun e=>by rw [List.length_take,h.1 e];omega,fun ad e j u hu=>?_⟩;rw [List.map_take,List.getElem?_take] at hu;split at hu
 · exact h.2 ad e j u hu
 cases hu
theorem putU_0:putU 0=[0]:=by
 rw [putU];rfl
theorem PutUint_nil (v:Nat) (w:World) (hv:v<18446744073709551616):Calls Tryz.prog 43 #[.slice none 0 0,.int .u64 (v:Int)] w (NewB (putU v) w):=PutUint_any none 0 [] v w (sb_nil _) (by simp) hv
end
end Go.Proofs.YtmiknfneeipkeaaGreat
namespace Go.Proofs.YtmiknfneeipkeaaGreat
open Go.RowKit Go.MapKept Go.ChangeMaps
attribute [local go_sem] wext_cell
def packH:List UInt8:=[83,89,80,75,0]++putU 0
theorem packH_len:packH.length=6:=by
 rw [packH,putU];rfl
set_option maxRecDepth 100000 in
set_option maxHeartbeats 4000000 in
theorem encode_none (w:World):Calls Tryz.prog 42 #[.slice none 0 0] w (fun e w'=>∃ d,e= .returned (.tuple #[vB d,.int .i64 0])/\Buf w w' d (packH++putU (fpSum packH))):=by
 have R0:Hid (RX (w.alloc (.cells #[.int .u8 83,.int .u8 89,.int .u8 80,.int .u8 75] 5 (4,5))) ⟨some ⟨w.heap.size,0,none⟩,4,4⟩ [83,89,80,75]):=full_rx w #[.int .u8 83,.int .u8 89,.int .u8 80,.int .u8 75] (4,5) _ 4 rfl (by decide) rfl;have B0:Hid (Below w.heap.size w (w.alloc (.cells #[.int .u8 83,.int .u8 89,.int .u8 80,.int .u8 75] 5 (4,5)))):=bel1q _ _;have hcv:=Lib.run_convert_bytes_const (P:=Tryz.prog) w 40 5 #[.int .u8 83,.int .u8 89,.int .u8 80,.int .u8 75] 4 4 Tryz.underlying40 Tryz.underlying5;go_enter Tryz.func42,Tryz.ntmps42;go_upto_region 2 with fail
 clear hcv;obtain ⟨w1,HW⟩:∃ W,Hid (w.alloc (.cells #[.int .u8 83,.int .u8 89,.int .u8 80,.int .u8 75] 5 (4,5))=W):=⟨_,rfl⟩;rw [HW.out] at R0 B0 |-; clear HW;go_wp2_with fail
 go_loopw [4,11] (fun s4 s11 wr=>s4= .slice (some ⟨w.heap.size,0,none⟩) 4 4/\s11= .int .i64 0/\wr=w1) (fun _ _ _=>0)
 case atStart=>exact ⟨rfl,rfl,rfl⟩
 obtain ⟨rfl,rfl,rfl⟩:=hrel;have S1:=hid (sb_one wr 0 0 (by decide));go_wp2_with (at_builtin;refine halt_q ?_)
 refine wpList_buf0 (w0:=w) (R0.out.on (bel1q _ _)) (fun g hg=>(by injection hg with hg;exact Nat.le_of_eq hg)) (B0.out.trans ((bel1q wr _).mono B0.out.size)) rfl _ _ rfl rfl (some ⟨wr.heap.size,0,none⟩) 1 1 [0] rfl rfl (by decide) S1.out (by simp) ?_;intro d2 w2 hb2;have U2:=hid hb2;clear hb2 S1 R0 B0;unfold vB;have HP:Hid (Calls Tryz.prog 43 #[.slice none 0 0,.int .u64 0] w2 (NewB (putU 0) w2)):=hid (PutUint_nil 0 w2 (by omega));go_wp2_with (go_at_call 43;(with_reducible refine HP.out.mono ?_);refine halt_ ?_)
 rintro e w3 ⟨d3,rfl,hr,hd,hb⟩;have R3:=hid hr;have U3:=hid (U2.out.on hb);have hl3:=hid hr.1;clear hr hd hb HP U2;unfold vB;go_wp2_with (at_builtin;(refine wpList_buf U3.out rfl _ _ rfl rfl d3.A d3.len d3.cap (putU 0) rfl hl3.out R3.out.src (by rw [<- hl3.out];simp [putU]) ?_);refine halt_ ?_)
 intro d4 w4 hb4;have hb4:Buf w w4 d4 packH:=hb4;have U4:=hid hb4
 have HS:Hid (Calls Tryz.prog 77 #[.slice d4.A d4.len d4.cap] w4 (fun e w'=>e= .returned (.int .u64 ((fpSum packH:Nat):Int))/\w4=w')):=by
  rw [hb4.len];exact Sum_any d4.A d4.cap packH w4 hb4.rb.rs (by rw [packH_len];omega)
 clear hb4 U3 R3 hl3;unfold vB;go_wp2_with (go_at_call 77;(with_reducible refine HS.out.mono ?_);refine halt_ ?_)
 rintro e w5 ⟨rfl,rfl⟩;have HP:=hid (PutUint_nil (fpSum packH) w4 (by have:=fpSum_lt packH;unfold pP at this;omega));go_wp2_with (go_at_call 43;(with_reducible refine HP.out.mono ?_);refine halt_ ?_)
 rintro e w5 ⟨d5,rfl,hr,hd,hb⟩;have R5:=hid hr;have U5:=hid (U4.out.on hb);have hl5:=hid hr.1;have hu5:=hid (show (putU (fpSum packH)).length<=10 from putU_len (k:=9) (by have:=fpSum_lt packH;unfold pP at this;omega));clear hr hd hb HP U4;unfold vB;go_wp2_with (at_builtin;(refine wpList_buf U5.out rfl _ _ rfl rfl d5.A d5.len d5.cap (putU (fpSum packH)) rfl hl5.out R5.out.src (by rw [packH_len, <- hl5.out];have:=hu5.out;omega) ?_);refine halt_ ?_)
 intro d6 w6 hb6;have U6:=hid hb6
 have hl6:d6.len<=16:=by
  rw [hb6.len,List.length_append,packH_len];have:=hu5.out;omega
 clear hb6 U5 R5 hl5;unfold vB;go_wp2_with fail
 refine bodyPost_ret (results_tmp2 rfl _ _ _) rfl ?_;exact ⟨d6,rfl,U6.out⟩
end Go.Proofs.YtmiknfneeipkeaaGreat
namespace Go.Proofs.YtmiknfneeipkeaaGreat
open Go.RowKit Go.MapKept Go.ChangeMaps
attribute [local go_sem] wext_cell
def volN:List UInt8:=[83,89,65,82]++putU 0++(packH++putU (fpSum packH))
set_option maxRecDepth 100000 in
set_option maxHeartbeats 4000000 in
theorem store_none (w:World):Calls Tryz.prog 11 #[.slice none 0 0,.slice none 0 0] w (fun e w'=>∃ d,e= .returned (.tuple #[vB d,.int .i64 0])/\Buf w w' d volN):=by
 go_enter Tryz.func11,Tryz.ntmps11;go_wp2_with (go_at_call 39;(with_reducible refine (chunksOf_none _).mono ?_);refine halt_ ?_)
 rintro e w1 ⟨rfl,rfl⟩;go_wp2_with (go_at_call 40;(with_reducible refine (contentsOf_none _).mono ?_);refine halt_ ?_)
 rintro e w1 ⟨rfl,rfl⟩;go_wp2_with (go_at_call 41;(with_reducible refine (choose_none _).mono ?_);refine halt_ ?_)
 rintro e w1 ⟨rfl,HW⟩
 have B1:Hid (Below w.heap.size w w1):=by
  rw [HW];exact bel1q _ _
 clear HW;go_wp2_with (go_at_call 42;(with_reducible refine (encode_none _).mono ?_);refine halt_ ?_)
 rintro e w2 ⟨d2,rfl,hu⟩;have U2:=hid hu;have B2:=hid (B1.out.trans (hu.bl.mono B1.out.size));clear hu;unfold vB;have R0:Hid (RX (w2.alloc (.cells #[.int .u8 83,.int .u8 89,.int .u8 65,.int .u8 82] 5 (4,5))) ⟨some ⟨w2.heap.size,0,none⟩,4,4⟩ [83,89,65,82]):=full_rx w2 #[.int .u8 83,.int .u8 89,.int .u8 65,.int .u8 82] (4,5) _ 4 rfl (by decide) rfl;have hcv:=Lib.run_convert_bytes_const (P:=Tryz.prog) w2 40 5 #[.int .u8 83,.int .u8 89,.int .u8 65,.int .u8 82] 4 4 Tryz.underlying40 Tryz.underlying5
 have HP:Hid (Calls Tryz.prog 43 #[.slice (some ⟨w2.heap.size,0,none⟩) 4 4,.int .u64 0] (w2.alloc (.cells #[.int .u8 83,.int .u8 89,.int .u8 65,.int .u8 82] 5 (4,5))) (NewB ([83,89,65,82]++putU 0) (w2.alloc (.cells #[.int .u8 83,.int .u8 89,.int .u8 65,.int .u8 82] 5 (4,5))))):=by
  refine hid (PutUint_any _ 4 [83,89,65,82] 0 _ ?_ (by decide) (by omega));rcases R0.out with h | h
  · exact h.src
  exact h.2.2.2
 go_wp2_with (go_at_call 43;(with_reducible refine HP.out.mono ?_);refine halt_ ?_)
 rintro e w3 ⟨d3,rfl,hr,hd,hb⟩
 have U3:Hid (Buf w w3 d3 ([83,89,65,82]++putU 0)):=hid ⟨hr,fun g hg=>by
  have h1:=hd g hg;have h2:=B2.out.size;simp at h1;omega,B2.out.trans (((bel1q w2 _).trans (hb.mono (by simp))).mono B2.out.size)⟩
 have R2:=hid ((U2.out.rb.on (bel1q w2 _)).on hb);have hl2:=hid U2.out.rb.1;clear hr hd hb HP hcv R0 U2 B2 B1;unfold vB;have hu5:=hid (show (putU (fpSum packH)).length<=10 from putU_len (k:=9) (by have:=fpSum_lt packH;unfold pP at this;omega))
 have hbd:Hid (([83,89,65,82]++putU 0).length+d2.len<=1099511627776):=by
  rw [Hid, <- hl2.out,List.length_append,List.length_append,packH_len];have h1:=hu5.out;have h2:(putU 0).length<=10:=putU_len (k:=9) (by omega);simp;omega
 go_wp2_with fail
 go_loopw [12,56] (fun s12 s56 wr=>s12= .slice d3.A d3.len d3.cap/\s56= .int .i64 0/\wr=w3) (fun _ _ _=>0)
 case atStart=>exact ⟨rfl,rfl,rfl⟩
 obtain ⟨rfl,rfl,rfl⟩:=hrel;go_wp2_with (at_builtin;(refine wpList_buf U3.out rfl _ _ rfl rfl d2.A d2.len d2.cap (packH++putU (fpSum packH)) rfl hl2.out R2.out.src hbd.out ?_);refine halt_ ?_)
 intro d4 w4 hb4;have U4:Hid (Buf w w4 d4 volN):=hid hb4;clear hb4;unfold vB;go_wp2_with fail
 refine bodyPost_ret (results_tmp2 rfl _ _ _) rfl ?_;exact ⟨d4,rfl,U4.out⟩
end Go.Proofs.YtmiknfneeipkeaaGreat
