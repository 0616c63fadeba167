/- Contracts of the walk, part 23. -/
import Derived.IntWalk
import Derived.Laws.MakeOwn
import Derived.Test.YtmiknfneeipkeaaGreatS22
import Derived.Test.YtmiknfneeipkeaaGreatS03
import Derived.Test.YtmiknfneeipkeaaGreatS04
import Derived.Test.YtmiknfneeipkeaaGreatS02
import Derived.Test.YtmiknfneeipkeaaGreatS01
import Derived.Test.YtmiknfneeipkeaaGreatS09
open Go.Lib (hid)
namespace Go.Proofs.YtmiknfneeipkeaaGreat
open Go.RowKit Go.MapKept Go.ChangeMaps
attribute [local go_sem] wext_cell
set_option maxRecDepth 100000 in
set_option maxHeartbeats 8000000 in
theorem known_any (w:World):Calls Tryz.prog 13 #[] w (fun e w'=>e= .returned (.bool true)/\Below w.heap.size w w'):=by
 have S0:=hid ((SW.refl (Sep.nil w (Nat.le_refl _))).newCell 96 #[.slice none 0 0,.slice none 0 0]);go_enter Tryz.func13,Tryz.ntmps13;go_upto_region 2 with fail
 obtain ⟨w1,HW⟩:∃ W,Hid (w.alloc (.cells #[.slice none 0 0,.slice none 0 0] 96)=W):=⟨_,rfl⟩;rw [HW.out] at S0 |-; clear HW;obtain ⟨g1,HG1⟩:∃ x,Hid (w.heap.size=x):=⟨_,rfl⟩;rw [HG1.out] at S0 |-; go_wp2_with fail
 go_loopw [2] (fun s2 wr=>∃ (m:Nat) (A:Option Addr) (cm:Nat),s2= .int .i64 ((m:Int)+1)/\m<=5/\(m=0->A=none/\cm=0)/\SW g1 w (rvOb A m::cellOb g1 96 #[.slice A m cm,.slice none 0 0]::[]) wr) (fun s2 _=>6-(intOf s2).toNat)
 case atStart=>exact ⟨0,none,0,rfl,by omega,fun _=>⟨rfl,rfl⟩,S0.out.also (RowV.nil) (fun _ hi=>hi) (fun i hi=>absurd hi.1 (by omega)) (fun i hi=>absurd hi.1 (by omega))⟩
 obtain ⟨m,A,cm,rfl,hm5,hA,hs⟩:=hrel;clear S0;have S1:=hid hs;clear hs;by_cases hlt:m<5
 · obtain ⟨s,hs⟩:∃ s,Hid ((m:Int)+1=s):=⟨_,rfl⟩;obtain ⟨bs,hbs⟩:∃ x,Hid ((m:Int)=x):=⟨_,rfl⟩;obtain ⟨n,hn⟩:∃ x,Hid (10*((m:Int)+1)=x):=⟨_,rfl⟩;rw [hs.out];have h1:1<=s/\s<=5:=by have:=hs.out;omega
   obtain ⟨h1,h2⟩:=h1;have h3:s-1=bs:=by have:=hs.out;have:=hbs.out;omega
   have h4:10*s=n:=by have:=hs.out;have:=hn.out;omega
   have c0:wr.cell? ⟨g1,0,none⟩=some (.slice A m cm):=(S1.out.cell 1 rfl).cell 0;have c1:wr.cell? ⟨g1,1,none⟩=some (.slice none 0 0):=(S1.out.cell 1 rfl).cell 1;have HA0:=hid hA;clear hA;have S2a:=hid (S1.out.newCell 100 (cEd 2 s bs));go_upto_region 6 with fail
   clear c0 c1;obtain ⟨w2,HW⟩:∃ W,Hid (wr.alloc (.cells #[.string pA,.int .i64 2,.int .i64 1,.bool false,.bool false,.bool false,.int .u64 s,.int .i64 1,.int .i64 bs,.string ⟨#[]⟩,.int .i64 0,.int .i64 0] 100)=W):=⟨_,rfl⟩;obtain ⟨g3,HG⟩:∃ x,Hid (wr.heap.size=x):=⟨_,rfl⟩;rw [HW.out,HG.out] at S2a |-; clear HW HG S1;have S2:=S2a;clear S2a;by_cases hm0:m=0
   · obtain rfl:s=1:=by have:=hs.out;omega
     obtain rfl:n=10:=by have:=hn.out;omega
     have HA:Hid (actI ((m:Int)+1)=1):=by rw [Hid,actI,if_pos (by omega)]
     clear hm0;have f1:=(S2.out.cell 0 rfl).frozen 1;have e1:w2.cell? ⟨g3,1,none⟩=some (.int .i64 2):=(S2.out.cell 0 rfl).cell 1;have S3a:=hid (S2.out.setAt 0 rfl 1 (.int .i64 1));go_upto_region 8 with fail
     clear f1 e1;obtain ⟨w3,HW⟩:∃ W,Hid (w2.setCell ⟨g3,1,none⟩ (.int .i64 1)=W):=⟨_,rfl⟩;rw [HW.out] at S3a |-; clear HW;have S3:Hid (SW g1 w (cellOb g3 100 (cEd 1 1 bs)::rvOb A m::cellOb g1 96 #[.slice A m cm,.slice none 0 0]::[]) w3):=S3a;clear S3a S2;have S4a:=hid (S3.out.newCell 100 (cEd 1 1 bs));have d0:w3.cell? ⟨g3,0,none⟩=some (.string pA):=(S3.out.cell 0 rfl).cell 0;have d1:w3.cell? ⟨g3,1,none⟩=some (.int .i64 1):=(S3.out.cell 0 rfl).cell 1;have d2:w3.cell? ⟨g3,2,none⟩=some (.int .i64 1):=(S3.out.cell 0 rfl).cell 2;have d3:w3.cell? ⟨g3,3,none⟩=some (.bool false):=(S3.out.cell 0 rfl).cell 3;have d4:w3.cell? ⟨g3,4,none⟩=some (.bool false):=(S3.out.cell 0 rfl).cell 4;have d5:w3.cell? ⟨g3,5,none⟩=some (.bool false):=(S3.out.cell 0 rfl).cell 5;have d6:w3.cell? ⟨g3,6,none⟩=some (.int .u64 1):=(S3.out.cell 0 rfl).cell 6;have d7:w3.cell? ⟨g3,7,none⟩=some (.int .i64 1):=(S3.out.cell 0 rfl).cell 7;have d8:w3.cell? ⟨g3,8,none⟩=some (.int .i64 bs):=(S3.out.cell 0 rfl).cell 8;have d9:w3.cell? ⟨g3,9,none⟩=some (.string ⟨#[]⟩):=(S3.out.cell 0 rfl).cell 9;have d10:w3.cell? ⟨g3,10,none⟩=some (.int .i64 0):=(S3.out.cell 0 rfl).cell 10;have d11:w3.cell? ⟨g3,11,none⟩=some (.int .i64 0):=(S3.out.cell 0 rfl).cell 11;have c0:w3.cell? ⟨g1,0,none⟩=some (.slice A m cm):=(S3.out.cell 2 rfl).cell 0
     have c1:w3.cell? ⟨g1,1,none⟩=some (.slice none 0 0):=(S3.out.cell 2 rfl).cell 1;have HAP:=hid (append_any (m:=m) S4a.out (by simp) HA0.out (by omega) (List.mem_cons_self ..) HA.out hs.out hbs.out hn.out.symm);go_wp2_with (go_at_call 50;(with_reducible refine HAP.out.mono ?_);refine halt_ ?_)
     rintro e w4 ⟨A',cm',rfl,s5⟩;have S5:Hid (SW g1 w [rvOb A' (m+1),cellOb g1 96 #[.slice A m cm,.slice none 0 0]] w4):=hid (SW.few (pre:=[_,_,_,_,_]) s5 [0,4] (n:=5) rfl (by decide) (by decide));clear s5 S4a S3 HAP c0 c1 d0 d1 d2 d3 d4 d5 d6 d7 d8 d9 d10 d11;have e0:w4.cell? ⟨g1,0,none⟩=some (.slice A m cm):=(S5.out.cell 1 rfl).cell 0;have e1:w4.cell? ⟨g1,1,none⟩=some (.slice none 0 0):=(S5.out.cell 1 rfl).cell 1;have f0:=(S5.out.cell 1 rfl).frozen 0;have f1:=(S5.out.cell 1 rfl).frozen 1;have S6:=hid ((S5.out.setAt 1 rfl 0 (.slice A' (m+1) cm')).setAt 1 rfl 1 (.slice none 0 0));go_wp2_with fail
     go_roundw
     case rel=>exact ⟨m+1,A',cm',congrArg (Value.int .i64) (by have:=hs.out;omega),by omega,fun h=>absurd h (by omega),S6.out⟩
     simp [intOf]<;>omega
   have HA:Hid (actI ((m:Int)+1)=2):=by rw [Hid,actI,if_neg (by omega)]
   have hs1:¬ s=1:=by have:=hs.out;omega
   clear hm0;go_upto_region 8 with fail
   obtain ⟨w3,HW⟩:∃ W,Hid (w2=W):=⟨_,rfl⟩;rw [HW.out] at S2 |-; clear HW;have S3:=S2;clear S2;have S4a:=hid (S3.out.newCell 100 (cEd 2 s bs));have d0:w3.cell? ⟨g3,0,none⟩=some (.string pA):=(S3.out.cell 0 rfl).cell 0;have d1:w3.cell? ⟨g3,1,none⟩=some (.int .i64 2):=(S3.out.cell 0 rfl).cell 1;have d2:w3.cell? ⟨g3,2,none⟩=some (.int .i64 1):=(S3.out.cell 0 rfl).cell 2;have d3:w3.cell? ⟨g3,3,none⟩=some (.bool false):=(S3.out.cell 0 rfl).cell 3;have d4:w3.cell? ⟨g3,4,none⟩=some (.bool false):=(S3.out.cell 0 rfl).cell 4;have d5:w3.cell? ⟨g3,5,none⟩=some (.bool false):=(S3.out.cell 0 rfl).cell 5;have d6:w3.cell? ⟨g3,6,none⟩=some (.int .u64 s):=(S3.out.cell 0 rfl).cell 6;have d7:w3.cell? ⟨g3,7,none⟩=some (.int .i64 1):=(S3.out.cell 0 rfl).cell 7;have d8:w3.cell? ⟨g3,8,none⟩=some (.int .i64 bs):=(S3.out.cell 0 rfl).cell 8;have d9:w3.cell? ⟨g3,9,none⟩=some (.string ⟨#[]⟩):=(S3.out.cell 0 rfl).cell 9;have d10:w3.cell? ⟨g3,10,none⟩=some (.int .i64 0):=(S3.out.cell 0 rfl).cell 10;have d11:w3.cell? ⟨g3,11,none⟩=some (.int .i64 0):=(S3.out.cell 0 rfl).cell 11;have c0:w3.cell? ⟨g1,0,none⟩=some (.slice A m cm):=(S3.out.cell 2 rfl).cell 0;have c1:w3.cell? ⟨g1,1,none⟩=some (.slice none 0 0):=(S3.out.cell 2 rfl).cell 1
   have HAP:=hid (append_any (m:=m) S4a.out (by simp) HA0.out (by omega) (List.mem_cons_self ..) HA.out hs.out hbs.out hn.out.symm);go_wp2_with (go_at_call 50;(with_reducible refine HAP.out.mono ?_);refine halt_ ?_)
   rintro e w4 ⟨A',cm',rfl,s5⟩;have S5:Hid (SW g1 w [rvOb A' (m+1),cellOb g1 96 #[.slice A m cm,.slice none 0 0]] w4):=hid (SW.few (pre:=[_,_,_,_,_]) s5 [0,4] (n:=5) rfl (by decide) (by decide));clear s5 S4a S3 HAP c0 c1 d0 d1 d2 d3 d4 d5 d6 d7 d8 d9 d10 d11;have e0:w4.cell? ⟨g1,0,none⟩=some (.slice A m cm):=(S5.out.cell 1 rfl).cell 0;have e1:w4.cell? ⟨g1,1,none⟩=some (.slice none 0 0):=(S5.out.cell 1 rfl).cell 1;have f0:=(S5.out.cell 1 rfl).frozen 0;have f1:=(S5.out.cell 1 rfl).frozen 1;have S6:=hid ((S5.out.setAt 1 rfl 0 (.slice A' (m+1) cm')).setAt 1 rfl 1 (.slice none 0 0));go_wp2_with fail
   go_roundw
   case rel=>exact ⟨m+1,A',cm',congrArg (Value.int .i64) (by have:=hs.out;omega),by omega,fun h=>absurd h (by omega),S6.out⟩
   simp [intOf]<;>omega
 obtain rfl:m=5:=by omega
 have c0:wr.cell? ⟨g1,0,none⟩=some (.slice A 5 cm):=(S1.out.cell 1 rfl).cell 0;have c1:wr.cell? ⟨g1,1,none⟩=some (.slice none 0 0):=(S1.out.cell 1 rfl).cell 1;have HSL:=hid (select5 (cm:=cm) S1.out (List.mem_cons_self ..));go_wp2_with (go_at_call 51;(with_reducible refine HSL.out.mono ?_);refine halt_ ?_)
 rintro e w2 ⟨RA,rc,rfl,s2⟩;have S2:=hid s2;clear s2 HSL c0 c1 S1;go_wp2_with (go_at_call 11;(with_reducible refine (store_none _).mono ?_);refine halt_ ?_)
 rintro e w3 ⟨d,rfl,hu⟩;have S3:=hid (S2.out.on hu.bl);have U3:=hid hu;clear S2 hu;have hR:w3.ownsRow 0 111 12 (.slice RA 2 rc) 2 (encR 1++encR 2):=S3.out.get 0 rfl;obtain ⟨gr,hRA,hgr,hc⟩:=(RowV.of hR).at (by omega);subst hRA;have r0:w3.cell? ⟨gr,1,none⟩=some (.int .i64 1):=hc 1 (by omega);have r1:w3.cell? ⟨gr,13,none⟩=some (.int .i64 2):=hc 13 (by omega);have hl:=U3.out.len
 obtain ⟨hv1,hv2⟩:9<volN.length/\volN.length<=30:=by
  have h0:(putU 0).length=1:=by rw [putU_0];rfl
  have hu5:(putU (fpSum packH)).length<=10:=putU_len (k:=9) (by have:=fpSum_lt packH;unfold pP at this;omega);have hu6:=putU_pos (fpSum packH);simp only [volN,List.length_append,packH_len,h0,List.length_cons,List.length_nil];omega
 have hv3:9<d.len:=by rw [hl];exact hv1
 have hv4:d.len<=30:=by rw [hl];exact hv2
 have hv5:d.len<=d.cap:=U3.out.rb.2.1;clear hl hc hR
 have hcv:(convert 40 9 (.slice d.A 9 d.cap)).run Tryz.prog w3= .ok (.string ⟨#[83,89,65,82,0,83,89,80,75]⟩) w3:=by
  have e9:volN.take 9=[83,89,65,82,0,83,89,80,75]:=by
   simp [volN,packH,putU_0]
  have:=conv_str (U3.out.rb.src.take 9) 9 d.cap (by rw [e9];rfl);rw [e9] at this;exact this
 have hb:=hid (show Below w.heap.size w w3 by rw [HG1.out];exact S3.out.2);clear U3 hv1 hv2;unfold vB;go_wp2_with fail
 go_ret;exact ⟨rfl,hb.out⟩
end Go.Proofs.YtmiknfneeipkeaaGreat
namespace Go.Proofs.YtmiknfneeipkeaaGreat
open Go.RowKit
def takeU (i v:Nat):List UInt8->Option (Nat×Nat)
 | []=>none
 | c::r=>if i=9/\c.toNat≠1 then none else if 128<=c.toNat then takeU (i+1) (v+c.toNat % 128*128^i) r else if c.toNat=0/\0<i then none else some (v+c.toNat % 128*128^i,i+1)
set_option maxRecDepth 100000 in
theorem and127:∀ c:Fin 256,bits .and .u8 ((c.val:Nat):Int) 127=((c.val % 128:Nat):Int):=by decide
theorem pow128 (i:Nat):128^i=2^(7*i):=by rw [Nat.pow_mul]
theorem or_add (v i x:Nat) (hv:v<128^i) (hi:i<=9) (hx:x<128) (h9:i=9->x<=1):x*128^i<18446744073709551616/\v+x*128^i<18446744073709551616/\bits .or .u64 (v:Int) ((x*128^i:Nat):Int)=((v+x*128^i:Nat):Int):=by
 have hb:v<9223372036854775808/\x*128^i<=9223372036854775808:=by
  by_cases h:i=9
  · subst h;have h1:=h9 rfl;have h2:(128:Nat)^9=9223372036854775808:=by decide
    rw [h2] at hv |-; exact ⟨hv,by omega⟩
  have h2:(128:Nat)^i<=128^8:=Nat.pow_le_pow_right (by omega) (by omega);have h3:(128:Nat)^8=72057594037927936:=by decide
  rw [h3] at h2;have h4:x*128^i<=127*72057594037927936:=Nat.mul_le_mul (by omega) h2;exact ⟨by omega,by omega⟩
 refine ⟨by omega,by omega,?_⟩;rw [bits_or_u64_nat _ _ (by omega) (by omega)];congr 1
 rw [Nat.or_comm,pow128, <- Nat.shiftLeft_eq, <- Nat.shiftLeft_add_eq_or_of_lt (by rw [<- pow128];exact hv),Nat.add_comm]
theorem uint_or (v i y:Nat) (hv:v<128^i) (hi:i<=9) (hy:y<256) (h9:i=9->y=1):bits .or .u64 (v:Int) (IntKind.u64.wrap (IntKind.u64.wrap (bits .and .u8 (y:Int) 127)*2^(7*i)))=((v+y % 128*128^i:Nat):Int)/\v+y % 128*128^i<18446744073709551616:=by
 obtain ⟨h1,h2,h3⟩:=or_add v i (y % 128) hv hi (Nat.mod_lt _ (by decide)) (fun e=>by have:=h9 e;omega);have e1:bits .and .u8 (y:Int) 127=((y % 128:Nat):Int):=and127 ⟨y,hy⟩;have e2:IntKind.u64.wrap ((y % 128:Nat):Int)=((y % 128:Nat):Int):=by rw [IntKind.wrap_u64];omega
 have e3:((y % 128:Nat):Int)*2^(7*i)=((y % 128*128^i:Nat):Int):=by rw [pow128];push_cast;rfl
 have e4:IntKind.u64.wrap ((y % 128*128^i:Nat):Int)=((y % 128*128^i:Nat):Int):=by rw [IntKind.wrap_u64];omega
 rw [e1,e2,e3,e4,h3];exact ⟨rfl,h2⟩
abbrev UintP (bs:List UInt8) (at_:Nat) (w:World) (e:Ending) (w':World):Prop:=
 w'=w/\((∃ v n,takeU 0 0 (bs.drop at_)=some (v,n)/\e= .returned (.tuple #[.int .u64 (v:Int),.int .i64 ((at_+n:Nat):Int),.int .i64 0]))∨
 (takeU 0 0 (bs.drop at_)=none/\∃ k:Int,k≠0/\e= .returned (.tuple #[.int .u64 0,.int .i64 0,.int .i64 k])))
def takeE (i:Nat):List UInt8->Int
 | []=>11
 | c::r=>if i=9/\c.toNat≠1 then 12 else if 128<=c.toNat then takeE (i+1) r else 12
theorem takeE_ne:∀ (bs:List UInt8) (i:Nat),takeE i bs≠0:=by
 intro bs;induction bs with
 | nil=>intro i;rw [takeE];decide
 | cons c r ih=>
  intro i;rw [takeE];split
  · decide
  split
  · exact ih _
  decide
abbrev UintQ (bs:List UInt8) (at_:Nat) (w:World) (e:Ending) (w':World):Prop:=
 w'=w/\((∃ v n,takeU 0 0 (bs.drop at_)=some (v,n)/\e= .returned (.tuple #[.int .u64 (v:Int),.int .i64 ((at_+n:Nat):Int),.int .i64 0]))∨
 (takeU 0 0 (bs.drop at_)=none/\e= .returned (.tuple #[.int .u64 0,.int .i64 0,.int .i64 (takeE 0 (bs.drop at_))])))
set_option maxRecDepth 100000 in
set_option maxHeartbeats 4000000 in
theorem codecUintQ_any (A:Option Addr) (c:Nat) (bs:List UInt8) (k:Nat) (w:World) (h:RS w A bs) (hA:A=none->c=0) (hc:bs.length<=c) (hc2:bs.length<=9223372036854775807) (hk:k<=bs.length):
 Calls Tryz.prog 193 #[.slice A bs.length c,.int .i64 (k:Int)] w (UintQ bs k w):=by
 have H:=hid h;clear h;go_enter Tryz.func193,Tryz.ntmps193;by_cases hp:k<bs.length
 · have hcn:¬ c=k:=by omega
   have hkc:k<=c:=by omega
   cases A with
   | none=>exact absurd (H.out.1 rfl) (by omega)
   | some ad=>
    obtain ⟨g,o,rfl,hcell⟩:=H.out.2 ad rfl (by omega);have HCL:=hid hcell;clear hcell;go_wp2_with fail
    go_loop [4,21] (fun s4 s21=>∃ (i v:Nat),i<=9/\k+i<=bs.length/\v<128^i/\s4= .int .u64 (v:Int)/\s21= .int .i64 (i:Int)/\Hid (takeU 0 0 (bs.drop k)=takeU i v (bs.drop (k+i)))/\Hid (takeE 0 (bs.drop k)=takeE i (bs.drop (k+i)))) (fun _ s21=>bs.length-(intOf s21).toNat)
    case atStart=>exact ⟨0,0,by omega,by omega,by simp,rfl,rfl,rfl,rfl⟩
    obtain ⟨i,v,hi,hki,hv,rfl,rfl,HT,HTE⟩:=hrel;by_cases hlt:k+i<bs.length
    · obtain ⟨x,HX⟩:∃ x,Hid (bs.getD (k+i) 0=x):=⟨_,rfl⟩;have hx:=x.toNat_lt
      have hcl:w.cell? ⟨g,o+k+i,none⟩=some (.int .u8 ((x.toNat:Nat):Int)):=by
       have:=HCL.out (k+i) hlt;rw [HX.out] at this;rw [show o+k+i=o+(k+i) by omega];exact this
      have HD:Hid (bs.drop (k+i)=x::bs.drop (k+(i+1))):=by
       rw [Hid,List.drop_eq_getElem_cons hlt, <- HX.out,List.getD_eq_getElem?_getD,List.getElem?_eq_getElem hlt];rfl
      obtain ⟨y,HY⟩:∃ y,Hid (x.toNat=y):=⟨_,rfl⟩;rw [HY.out] at hcl hx;by_cases hbad:i=9/\y≠1
      · have hb9:((i:Int)==9)=true:=by rw [beq_iff_eq];omega
        have hb1:((y:Int) !=1)=true:=by rw [bne_iff_ne];omega
        have HN:Hid (takeU 0 0 (bs.drop k)=none):=by
         rw [Hid,HT.out,HD.out,takeU,HY.out,if_pos hbad]
        have HE:Hid (takeE 0 (bs.drop k)=12):=by
         rw [Hid,HTE.out,HD.out,takeE,HY.out,if_pos hbad]
        clear hbad;go_wp2_with fail
        go_ret3
        exact ⟨rfl,.inr ⟨HN.out,by rw [HE.out];rfl⟩⟩
      obtain ⟨eo,hvb⟩:=uint_or v i y hv hi hx (fun e=>by
       rcases Nat.lt_or_ge y 1 with h | h
       · exact absurd ⟨e,by omega⟩ hbad
       rcases Nat.lt_or_ge 1 y with h1 | h1
       · exact absurd ⟨e,by omega⟩ hbad
       omega)
      obtain ⟨V,HV⟩:∃ x,Hid (v+y % 128*128^i=x):=⟨_,rfl⟩;rw [HV.out] at eo hvb;by_cases h9:i=9
      · have hb9:((i:Int)==9)=true:=by rw [beq_iff_eq];omega
        have hb1:((y:Int) !=1)=false:=by
         rw [bne_eq_false_iff_eq];rcases Nat.lt_or_ge y 1 with h | h
         · exact absurd ⟨h9,by omega⟩ hbad
         rcases Nat.lt_or_ge 1 y with h1 | h1
         · exact absurd ⟨h9,by omega⟩ hbad
         omega
        have hi9:9<=i:=by omega
        clear h9;by_cases h128:128<=y
        · exact absurd ⟨by omega,by omega⟩ hbad
        have hy1:0<y:=by
         rcases Nat.lt_or_ge 0 y with h | h
         · exact h
         exact absurd ⟨by omega,by omega⟩ hbad
        have HN:Hid (takeU 0 0 (bs.drop k)=some (V,i+1)):=by
         rw [Hid,HT.out,HD.out,takeU,HY.out,if_neg hbad,if_neg h128,if_neg (by omega),HV.out]
        have hy0:((y:Int)==0)=false:=by rw [beq_eq_false_iff_ne];omega
        clear hbad;go_wp2_with fail
        go_ret3
        exact ⟨rfl,.inl ⟨_,_,HN.out,by rw [show ((k+(i+1):Nat):Int)=(k:Int)+i+1 by omega];rfl⟩⟩
      have hb9:((i:Int)==9)=false:=by rw [beq_eq_false_iff_ne];omega
      by_cases h128:128<=y
      · have hd128:decide ((128:Int)<=(y:Int))=true:=decide_eq_true (by omega);have h128i:(128:Int)<=(y:Int):=by omega
        have HN:Hid (takeU 0 0 (bs.drop k)=takeU (i+1) V (bs.drop (k+(i+1)))):=by
         rw [Hid,HT.out,HD.out,takeU,HY.out,if_neg hbad,if_pos h128,HV.out]
        have HE:Hid (takeE 0 (bs.drop k)=takeE (i+1) (bs.drop (k+(i+1)))):=by
         rw [Hid,HTE.out,HD.out,takeE,HY.out,if_neg hbad,if_pos h128]
        have hv2:V<128^(i+1):=by
         rw [<- HV.out];have h1:y % 128*128^i<=127*128^i:=Nat.mul_le_mul_right _ (by omega);rw [Nat.pow_succ];omega
        have hi8:i<=8:=by
         rcases Nat.lt_or_ge i 9 with h | h
         · omega
         exact absurd ⟨by omega,by omega⟩ hbad
        go_wp2_with fail
        go_round
        case rel=>exact ⟨i+1,V,by omega,by omega,hv2,rfl,by go_num,HN.out,HE.out⟩
        simp [intOf];omega
      have hd128:decide ((128:Int)<=(y:Int))=false:=decide_eq_false (by omega);by_cases hz:y=0/\0<i
      · obtain ⟨hz1,hz2⟩:=hz;have hz:y=0/\0<i:=⟨hz1,hz2⟩;have hz3:(0:Int)<(i:Int):=by omega
        have hy0:((y:Int)==0)=true:=by rw [beq_iff_eq];omega
        have hi0:decide ((0:Int)<(i:Int))=true:=decide_eq_true (by omega);have hi0n:decide (0<i)=true:=decide_eq_true (by omega)
        have HN:Hid (takeU 0 0 (bs.drop k)=none):=by
         rw [Hid,HT.out,HD.out,takeU,HY.out,if_neg hbad,if_neg h128,if_pos hz]
        have HE:Hid (takeE 0 (bs.drop k)=12):=by
         rw [Hid,HTE.out,HD.out,takeE,HY.out,if_neg hbad,if_neg h128]
        clear hz hbad;subst hz1;simp only [Int.natCast_zero] at eo hcl;go_wp2_with fail
        go_ret3
        exact ⟨rfl,.inr ⟨HN.out,by rw [HE.out];rfl⟩⟩
      have HN:Hid (takeU 0 0 (bs.drop k)=some (V,i+1)):=by
       rw [Hid,HT.out,HD.out,takeU,HY.out,if_neg hbad,if_neg h128,if_neg hz,HV.out]
      by_cases hy:y=0
      · have hy0:((y:Int)==0)=true:=by rw [beq_iff_eq];omega
        have hi0:decide ((0:Int)<(i:Int))=false:=decide_eq_false (by omega);have hi0n:decide (0<i)=false:=decide_eq_false (by omega);have hi0m:¬ 0<i:=by omega
        clear hz hbad;subst hy;simp only [Int.natCast_zero] at eo hcl;go_wp2_with fail
        go_ret3
        exact ⟨rfl,.inl ⟨_,_,HN.out,by rw [show ((k+(i+1):Nat):Int)=(k:Int)+i+1 by omega];rfl⟩⟩
      have hy0:((y:Int)==0)=false:=by rw [beq_eq_false_iff_ne];omega
      go_wp2_with fail
      go_ret3
      exact ⟨rfl,.inl ⟨_,_,HN.out,by rw [show ((k+(i+1):Nat):Int)=(k:Int)+i+1 by omega];rfl⟩⟩
    have HN:Hid (takeU 0 0 (bs.drop k)=none):=by
     rw [Hid,HT.out,List.drop_eq_nil_of_le (by omega),takeU]
    have HE:Hid (takeE 0 (bs.drop k)=11):=by
     rw [Hid,HTE.out,List.drop_eq_nil_of_le (by omega),takeE]
    go_wp2_with fail
    go_ret3
    exact ⟨rfl,.inr ⟨HN.out,by rw [HE.out];rfl⟩⟩
 have HN:Hid (takeU 0 0 (bs.drop k)=none):=by
  rw [Hid,List.drop_eq_nil_of_le (by omega),takeU]
 have HE:Hid (takeE 0 (bs.drop k)=11):=by
  rw [Hid,List.drop_eq_nil_of_le (by omega),takeE]
 have hkc:k<=c:=by omega
 have hz:bs.length-k=0:=by omega
 cases A with
 | none=>
  have hc0:=hA rfl;obtain rfl:c=0:=hc0;obtain rfl:k=0:=by omega
  have hb0:bs.length=0:=by omega
  clear hz hkc hp;go_wp2_with fail
  go_loop [4,21] (fun s4 s21=>s21= .int .i64 0) (fun _ _=>0)
  case atStart=>rfl
  obtain rfl:=hrel;go_wp2_with fail
  go_ret3
  exact ⟨rfl,.inr ⟨HN.out,by rw [HE.out];rfl⟩⟩
 | some ad=>
  by_cases hck:c=k
  · have hct:(c=k)=True:=eq_true hck;clear hck;go_wp2_with fail
    go_loop [4,21] (fun s4 s21=>s21= .int .i64 0) (fun _ _=>0)
    case atStart=>rfl
    obtain rfl:=hrel;go_wp2_with fail
    go_ret3
    exact ⟨rfl,.inr ⟨HN.out,by rw [HE.out];rfl⟩⟩
  have hcn:¬ c=k:=hck;go_wp2_with fail
  go_loop [4,21] (fun s4 s21=>s21= .int .i64 0) (fun _ _=>0)
  case atStart=>rfl
  obtain rfl:=hrel;go_wp2_with fail
  go_ret3
  exact ⟨rfl,.inr ⟨HN.out,by rw [HE.out];rfl⟩⟩
theorem codecUint_any (A:Option Addr) (c:Nat) (bs:List UInt8) (k:Nat) (w:World) (h:RS w A bs) (hA:A=none->c=0) (hc:bs.length<=c) (hc2:bs.length<=9223372036854775807) (hk:k<=bs.length):
 Calls Tryz.prog 193 #[.slice A bs.length c,.int .i64 (k:Int)] w (UintP bs k w):=
 (codecUintQ_any A c bs k w h hA hc hc2 hk).mono fun _ _ h=>⟨h.1,h.2.elim .inl (fun h=> .inr ⟨h.1,_,takeE_ne _ _,h.2⟩)⟩
end Go.Proofs.YtmiknfneeipkeaaGreat
namespace Go.Proofs.YtmiknfneeipkeaaGreat
open Go.RowKit
theorem take_put (s:List UInt8):∀ (x i v:Nat),i<=9->x*128^i<18446744073709551616->(0<i->0<x)->takeU i v (putU x++s)=some (v+x*128^i,i+(putU x).length):=by
 intro x;induction x using Nat.strongRecOn with
 | ind x ih=>
  intro i v hi hx hp
  have h9:i=9->x<=1:=fun e=>by
   subst e;have h2:(128:Nat)^9=9223372036854775808:=by decide
   rw [h2] at hx;omega
  by_cases h:x<128
  · have e:putU x=[UInt8.ofNat x]:=by rw [putU,dif_pos h]
    have ev:(UInt8.ofNat x).toNat=x:=by rw [UInt8.toNat_ofNat'];omega
    rw [e,List.singleton_append,takeU,ev]
    rw [if_neg (by
     rintro ⟨h1,h2⟩;have:=h9 h1;have:=hp (by omega);omega),if_neg (by omega),if_neg (by
     rintro ⟨h1,h2⟩;have:=hp h2;omega),Nat.mod_eq_of_lt h]
    rfl
  have e:putU x=UInt8.ofNat (x % 128+128)::putU (x / 128):=by rw [putU,dif_neg h]
  have ev:(UInt8.ofNat (x % 128+128)).toNat=x % 128+128:=by rw [UInt8.toNat_ofNat'];omega
  have hs:x % 128*128^i+x / 128*128^(i+1)=x*128^i:=by
   rw [Nat.pow_succ, <- Nat.mul_assoc,Nat.mul_right_comm, <- Nat.add_mul];congr 1
   omega
  have hi8:i<=8:=by
   rcases Nat.lt_or_ge i 9 with h1 | h1
   · omega
   have:=h9 (by omega);omega
  rw [e,List.cons_append,takeU,ev,if_neg (by
   rintro ⟨h1,_⟩;omega),if_pos (by omega),show (x % 128+128) % 128=x % 128 by omega]
  rw [ih (x / 128) (by omega) (i+1) _ (by omega) (by omega) (fun _=>by omega)];rw [Nat.add_assoc,hs,List.length_cons,Nat.add_assoc,Nat.add_comm 1]
theorem take_put0 (x:Nat) (hx:x<18446744073709551616) (s:List UInt8):takeU 0 0 (putU x++s)=some (x,(putU x).length):=by
 have:=take_put s x 0 0 (by omega) (by simpa using hx) (fun h=>absurd h (Nat.lt_irrefl 0));simpa using this
end Go.Proofs.YtmiknfneeipkeaaGreat
namespace Go.Proofs.YtmiknfneeipkeaaGreat
open Go.RowKit
attribute [local go_sem] wext_cell
def ints (bs:List UInt8):List Int:=bs.map (fun b=>((b.toNat:Nat):Int))
theorem ints_len (bs:List UInt8):(ints bs).length=bs.length:=by simp [ints]
theorem bytes_ints (bs:List UInt8):Lib.bytesOf (ints bs)=bs:=by
 unfold Lib.bytesOf ints;rw [List.map_map];conv=>rhs;rw [<- List.map_id bs]
 apply List.map_congr_left
 intro b _;simp
theorem RS.bytesIn {w:World} {A:Option Addr} {bs:List UInt8} (h:RS w A bs):Lib.BytesIn w A bs.length (ints bs):=by
 intro hp;cases A with
 | none=>have:=h.1 rfl;omega
 | some ad=>
  obtain ⟨g,o,rfl,hc⟩:=h.2 ad rfl hp;refine ⟨g,o,rfl,fun i hi=>?_⟩;rw [hc i hi];unfold encU ints;rw [List.getD_eq_getElem?_getD,List.getD_eq_getElem?_getD,List.getElem?_map,List.getElem?_eq_getElem hi];rfl
theorem equal_rs {w:World} {A B:Option Addr} {a b:List UInt8} (ha:RS w A a) (hb:RS w B b) (c d:Nat):Calls Tryz.prog 115 #[.slice A a.length c,.slice B b.length d] w (fun e w'=>e= .returned (.bool (decide (a=b)))/\w=w'):=
 (Tryz.bytes_Equal_all A B a.length c b.length d (ints a) (ints b) w (ints_len a) (ints_len b) ha.bytesIn hb.bytesIn).mono (by
   rintro e w' ⟨rfl,rfl⟩;refine ⟨?_,rfl⟩;rw [bytes_ints,bytes_ints];congr 2
   by_cases h:a=b
   · simp [h]
   rw [decide_eq_false h];exact beq_eq_false_iff_ne.2 h)
def Vw (w:World) (A:Option Addr) (c:Nat) (bs:List UInt8):Prop:=RS w A bs/\(A=none->c=0)/\bs.length<=c/\bs.length<=9223372036854775807
theorem Vw.on {w w':World} {A:Option Addr} {c:Nat} {bs:List UInt8} (h:Vw w A c bs) (hb:Below w.heap.size w w'):Vw w' A c bs:=⟨h.1.on hb,h.2⟩
def cutA (A:Option Addr) (k c:Nat):Option Addr:=if c=k then A else A.map (fun a=>⟨a.block,a.off+k,a.spot⟩)
theorem RS.drop {w:World} {g o:Nat} {bs:List UInt8} (h:RS w (some ⟨g,o,none⟩) bs) (k:Nat):RS w (some ⟨g,o+k,none⟩) (bs.drop k):=by
 have h1:=h.sub k (bs.length-k);by_cases hk:k<=bs.length
 · have h2:=h1 (by omega);rwa [List.take_of_length_le (by rw [List.length_drop];exact Nat.le_refl _)] at h2
 rw [List.drop_eq_nil_of_le (by omega)];exact ⟨(fun e=>by cases e),fun ad _ hp=>absurd hp (Nat.lt_irrefl 0)⟩
theorem Vw.drop {w:World} {A:Option Addr} {c:Nat} {bs:List UInt8} (h:Vw w A c bs) (k:Nat) (hk:k<=bs.length):Vw w (cutA A k c) (c-k) (bs.drop k):=by
 obtain ⟨h1,h2,h3,h4⟩:=h;refine ⟨?_,?_,by rw [List.length_drop];omega,by rw [List.length_drop];omega⟩
 · unfold cutA;split
   · rename_i hc
     have:bs.drop k=[]:=List.drop_eq_nil_of_le (by omega);rw [this];refine ⟨fun _=>rfl,fun ad _ hp=>absurd hp (Nat.lt_irrefl 0)⟩
   cases A with
   | none=>
    have:=h1.1 rfl;have e:bs=[]:=List.length_eq_zero_iff.1 this;subst e;exact ⟨fun _=>by simp,fun ad e=>by cases e⟩
   | some ad=>
    by_cases hp:0<bs.length
    · obtain ⟨g,o,rfl,_⟩:=h1.2 ad rfl hp;exact h1.drop k
    have:bs.drop k=[]:=List.drop_eq_nil_of_le (by omega);rw [this];exact ⟨fun _=>rfl,fun ad _ hp=>absurd hp (Nat.lt_irrefl 0)⟩
 unfold cutA;split
 · intro _;omega
 cases A with
 | none=>intro _;have:=h2 rfl;omega
 | some ad=>intro e;cases e
abbrev RdUP (A:Option Addr) (c:Nat) (bs:List UInt8) (w:World) (e:Ending) (w':World):Prop:=
 Below w.heap.size w w'/\((∃ v n,takeU 0 0 bs=some (v,n)/\n<=bs.length/\e= .returned (.tuple #[.int .u64 (v:Int),.slice (cutA A n c) (bs.drop n).length (c-n),.bool true]))∨
 (takeU 0 0 bs=none/\e= .returned (.tuple #[.int .u64 0,.slice none 0 0,.bool false])))
theorem takeU_le:∀ (bs:List UInt8) (i v x n:Nat),takeU i v bs=some (x,n)->i+1<=n/\n<=i+bs.length:=by
 intro bs;induction bs with
 | nil=>intro i v x n h;simp [takeU] at h
 | cons c r ih=>
  intro i v x n h;rw [takeU] at h;split at h
  · cases h
  split at h
  · have:=ih _ _ _ _ h;rw [List.length_cons];omega
  split at h
  · cases h
  injection h with h;injection h with h1 h2;rw [List.length_cons];omega
set_option maxRecDepth 100000 in
set_option maxHeartbeats 4000000 in
theorem readUint_any (A:Option Addr) (c:Nat) (bs:List UInt8) (w:World) (h:Vw w A c bs):Calls Tryz.prog 147 #[.slice A bs.length c] w (RdUP A c bs w):=by
 have H:=hid h;obtain ⟨h1,h2,h3,h4⟩:=h;have HU:Hid (Calls Tryz.prog 193 #[.slice A bs.length c,.int .i64 0] w (UintP bs 0 w)):=codecUint_any A c bs 0 w h1 h2 h3 h4 (Nat.zero_le _);clear h1 h2;go_enter Tryz.func147,Tryz.ntmps147;go_wp2_with (go_at_call 193;(with_reducible refine HU.out.mono ?_);refine halt_ ?_)
 rintro e w1 ⟨rfl,⟨v,n,ht,rfl⟩ | ⟨ht,k,hk,rfl⟩⟩
 · rw [List.drop_zero] at ht;have HT:=hid ht;have hn:=takeU_le _ _ _ _ _ ht;have hn1:1<=n:=by omega
   have hn2:n<=bs.length:=by omega
   have hnc:n<=c:=by omega
   have hz:((0+n:Nat):Int)=(n:Int):=by omega
   have HD:=hid (H.out.drop n hn2)
   obtain ⟨ad,hA⟩:∃ ad,A=some ad:=by
    cases A with
    | none=>have:=H.out.1.1 rfl;omega
    | some ad=>exact ⟨ad,rfl⟩
   subst hA;obtain ⟨g,o,rfl,_⟩:=H.out.1.2 ad rfl (by omega);rw [hz];clear ht hn hz HU;by_cases hcn:c=n
   · have hct:(c=n)=True:=eq_true hcn;have HC:Hid (cutA (some ⟨g,o,none⟩) n c=some ⟨g,o,none⟩):=if_pos hcn;clear hcn;go_wp2_with fail
     go_quiet (fail)
     go_wp2_with fail
     go_ret3
     exact ⟨bdrewN (Below.refl _ _) _,.inl ⟨v,n,HT.out,hn2,by rw [HC.out,List.length_drop];rfl⟩⟩
   have HC:Hid (cutA (some ⟨g,o,none⟩) n c=some ⟨g,o+n,none⟩):=if_neg hcn;go_wp2_with fail
   go_quiet (fail)
   go_wp2_with fail
   go_ret3
   exact ⟨bdrewN (Below.refl _ _) _,.inl ⟨v,n,HT.out,hn2,by rw [HC.out,List.length_drop];rfl⟩⟩
 have hkn:(k !=0)=true:=by rw [bne_iff_ne];exact hk
 rw [List.drop_zero] at ht;have HT:=hid ht;clear ht hk;go_wp2_with fail
 go_ret3
 exact ⟨Below.refl _ _,.inr ⟨HT.out,rfl⟩⟩
theorem Vw.take {w:World} {A:Option Addr} {c:Nat} {bs:List UInt8} (h:Vw w A c bs) (k:Nat) (hk:k<=bs.length):Vw w A c (bs.take k):=by
 obtain ⟨h1,h2,h3,h4⟩:=h;refine ⟨⟨fun e=>by have:=h1.1 e;rw [List.length_take];omega,fun ad e hp=>?_⟩,h2,by rw [List.length_take];omega,by rw [List.length_take];omega⟩;rw [List.length_take] at hp;obtain ⟨g,o,rfl,hc⟩:=h1.2 ad e (by omega);refine ⟨g,o,rfl,fun j hj=>?_⟩;rw [List.length_take] at hj;rw [hc j (by omega),List.getD_eq_getElem?_getD,List.getD_eq_getElem?_getD,List.getElem?_take_of_lt (by omega)]
end Go.Proofs.YtmiknfneeipkeaaGreat
namespace Go.Proofs.YtmiknfneeipkeaaGreat
open Go.RowKit Go.MapKept Go.ChangeMaps Go.Shelf Go.Sort
def foldI (v n:Int):Int:=if n<=1 then 0 else if v.tmod n<0 then v.tmod n+n else v.tmod n
theorem foldI_in (v n:Int):0<=foldI v n/\(1<n->foldI v n<n):=by
 unfold foldI;split
 · omega
 have t1:=tmod_lt' v n (by omega);have t2:=tmod_gt' v n (by omega);split<;>omega
set_option maxHeartbeats 400000 in
theorem Fold_x (v n:Int) (w:World) (hn:n<=4294967296):Calls Tryz.prog 29 #[.int .i64 v,.int .i64 n] w (fun e w'=>e= .returned (.int .i64 (foldI v n))/\w=w'):=by
 by_cases h1:n<=1
 · have e:foldI v n=0:=if_pos h1;rw [e];go_enter Tryz.func29,Tryz.ntmps29;go_wp2
   go_ret;exact ⟨rfl,rfl⟩
 have t1:=tmod_lt' v n (by omega);have t2:=tmod_gt' v n (by omega);have e:foldI v n=if v.tmod n<0 then v.tmod n+n else v.tmod n:=if_neg h1
 rw [e];obtain ⟨t,ht⟩:∃ t,v.tmod n=t:=⟨_,rfl⟩;rw [ht] at t1 t2 |-; have hn0:(n==0)=false:=by rw [beq_eq_false_iff_ne];omega
 have hnm:(n== -1)=false:=by rw [beq_eq_false_iff_ne];omega
 by_cases h2:t<0
 · rw [if_pos h2];go_enter Tryz.func29,Tryz.ntmps29;go_wp2
   go_ret;exact ⟨rfl,rfl⟩
 rw [if_neg h2];go_enter Tryz.func29,Tryz.ntmps29;go_wp2
 go_ret;exact ⟨rfl,rfl⟩
def tapeV (L:List Int) (n:Nat):Int:=if n<L.length then L.getD n 0 else ((n:Int)*7).tmod 11
def tnext (L:List Int) (n:Nat) (k:Int):Int:=foldI (tapeV L n) k
theorem tnext_in (L:List Int) (n:Nat) (k:Int):0<=tnext L n k/\(1<k->tnext L n k<k):=foldI_in _ _
def RdL (w:World) (g:Nat) (A:Option Addr) (L:List Int):Prop:=0<L.length->∃ b o,A=some ⟨b,o,none⟩/\b<w.heap.size/\b≠g/\∀ j,j<L.length->w.cell? ⟨b,o+j,none⟩=some (.int .i64 (L.getD j 0))
def tpOb (g:Nat) (A:Option Addr) (c:Nat) (L:List Int) (n:Nat):Ob where
 own:=fun i=>i=g
 rd:=fun i=>0<L.length/\∃ o,A=some ⟨i,o,none⟩
 holds:=fun w=>IsB w g 26 #[.slice A L.length c,.int .i64 n]/\RdL w g A L/\L.length<=9223372036854775807
 stable:=fun w w' h hs hk=>by
  refine ⟨(hk g (.inl rfl)).trans h.1,fun hp=>?_,h.2.2⟩;obtain ⟨b,o,e,hlt,hne,hc⟩:=h.2.1 hp;have h2:=hk b (.inr ⟨hp,o,e⟩);refine ⟨b,o,e,Nat.lt_of_lt_of_le hlt hs.2.2.2,hne,fun j hj=>?_⟩;rw [<- hc j hj];simp [World.cell?, h2]
section
variable {b:Nat} {w0 w:World} {l:List Ob} {g:Nat} {A:Option Addr} {c:Nat} {L:List Int} {n:Nat}
theorem SW.tick (h:SW b w0 l w) (k:Nat) (hk:l[k]? =some (tpOb g A c L n)):SW b w0 (l.set k (tpOb g A c L (n+1))) (w.setCell ⟨g,1,none⟩ (.int .i64 ((n:Int)+1))):=by
 have hh:=h.get k hk;have hgr:w.grownBy (w.setCell ⟨g,1,none⟩ (.int .i64 ((n:Int)+1))) (some g):=g_set (p:=⟨g,1,none⟩) (g_refl _ _) (.inl rfl) _;have hlt:=hh.1.lt;have hsz:(w.setCell ⟨g,1,none⟩ (.int .i64 ((n:Int)+1))).heap.size=w.heap.size:=by simp [World.setCell]
 have hnew:(tpOb g A c L (n+1)).holds (w.setCell ⟨g,1,none⟩ (.int .i64 ((n:Int)+1))):=by
  refine ⟨by simpa using hh.1.set_ 1 (.int .i64 ((n:Int)+1)),fun hp=>?_,hh.2.2⟩;obtain ⟨b',o,e,hl,hne,hc⟩:=hh.2.1 hp;exact ⟨b',o,e,by rw [hsz];exact hl,hne,fun j hj=>(g_cell hgr hl hne).trans (hc j hj)⟩
 have:=h.1.stepAt k hk (o':=tpOb g A c L (n+1)) (Fr.grown hgr rfl (fun i hi=> .inl hi)) (fun i hi=> .inr (.inl hi)) hnew (fun i hi=>by
  rw [hsz];rcases hi with hi | ⟨hp,o,e⟩
  · have hi:i=g:=hi;rw [hi];exact hlt
  obtain ⟨b',o',e',hl,_⟩:=hh.2.1 hp;rw [e] at e';injection e' with e';injection e' with e' _;rw [e'];exact hl)
 exact ⟨this.1,h.2.trans this.2⟩
set_option maxRecDepth 100000 in
set_option maxHeartbeats 1000000 in
theorem Next_x (h:SW b w0 l w) (k:Nat) (hk:l[k]? =some (tpOb g A c L n)) (m:Int) (hm:m<=4294967296) (hn:n<=1000000):
 Calls Tryz.prog 9 #[vPtr g,.int .i64 m] w (fun e w'=>e= .returned (.int .i64 (tnext L n m))/\SW b w0 (l.set k (tpOb g A c L (n+1))) w'):=by
 have hh:=h.get k hk;have hc0:w.cell? ⟨g,0,none⟩=some (.slice A L.length c):=hh.1.cell 0;have hc1:w.cell? ⟨g,1,none⟩=some (.int .i64 n):=hh.1.cell 1;have hf1:w.frozen? ⟨g,1,none⟩=false:=hh.1.frozen 1;have H1:=hid (fun q:Nat=>(h.on (bdrewN (Below.refl _ _) q)).tick k hk);have h3:=hh.2.2;by_cases hlt:n<L.length
 · obtain ⟨b',o,rfl,hb,_,hc⟩:=hh.2.1 (by omega);have hcl:w.cell? ⟨b',o+n,none⟩=some (.int .i64 (L.getD n 0)):=hc n hlt;have et:tapeV L n=L.getD n 0:=if_pos hlt;unfold tnext;rw [et];clear hc hh h et;obtain ⟨v,Hv⟩:∃ v,Hid (L.getD n 0=v):=⟨_,rfl⟩;rw [Hv.out] at hcl |-; have hltb:decide (n<L.length)=true:=by simp;omega
   go_enter Tryz.func9,Tryz.ntmps9;go_wp2_with fail
   go_quiet (fail)
   go_wp2_with fail
   go_quiet (fail)
   go_wp2_with fail
   refine (Fold_x v m _ hm).mono ?_;rintro e w1 ⟨rfl,rfl⟩;go_wp2_with fail
   go_ret;exact ⟨rfl,H1.out _⟩
 have et:tapeV L n=((n:Int)*7).tmod 11:=if_neg hlt;unfold tnext;rw [et];clear hh h et;have hltb:decide (n<L.length)=false:=by simp;omega
 go_enter Tryz.func9,Tryz.ntmps9;go_wp2_with fail
 go_quiet (fail)
 go_wp2_with fail
 refine (Fold_x _ m _ hm).mono ?_;rintro e w1 ⟨rfl,rfl⟩;go_wp2_with fail
 go_ret;exact ⟨rfl,H1.out _⟩
end
end Go.Proofs.YtmiknfneeipkeaaGreat
namespace Go.Proofs.YtmiknfneeipkeaaGreat
open Go.RowKit Go.MapKept Go.ChangeMaps Go.Shelf Go.Sort
attribute [local go_sem] wext_cell
def tbytes (L:List Int) (n:Nat) (k:Int):Nat->List UInt8
 | 0=>[]
 | c+1=>tbytes L n k c++[UInt8.ofNat (tnext L (n+c) k).toNat]
theorem tbytes_len (L:List Int) (n:Nat) (k:Int):∀ c,(tbytes L n k c).length=c
 | 0=>rfl
 | c+1=>by rw [tbytes,List.length_append,tbytes_len L n k c];rfl
theorem sb_const (w:World) (g:Nat) (hg:g=w.heap.size) (bs:List UInt8) (fr:Nat×Nat):SB (w.alloc (.cells (bs.map encU).toArray 5 fr)) (some ⟨g,0,none⟩) bs:=by
 subst hg;refine ⟨(fun e=>by cases e),fun ad e j u hu=>?_⟩;injection e with e;subst e;rw [lit_add,Nat.zero_add];have:(w.alloc (.cells (bs.map encU).toArray 5 fr)).heap[w.heap.size]? =some (.cells (bs.map encU).toArray 5 fr):=heap_alloc_new w _;rw [cell_of_row _ _ j _ _ _ this,List.getElem?_toArray];exact hu
theorem mk_slice (w:World) (n:Nat) (hn:n<=100000):∃ cs:Array Value,n<=cs.size/\(Instr.makeSlice 40 (.int .i64 0) (.int .i64 n)).run Tryz.prog w= .ok (.slice (some ⟨w.heap.size,0,none⟩) 0 n) (w.alloc (.cells cs 5)):=by
 obtain ⟨i0,hi,hz0,hz1,hz2⟩:=info_parts info5;have:=run_makeSlice (P:=Tryz.prog) w 40 5 i0 _ Tryz.underlying40 hi hz0 .i64 .i64 0 n (by omega) (by omega) (by rw [hz1];omega) (by rw [hz2];omega) (by omega);simp only [Int.toNat_zero,Int.toNat_natCast] at this;exact ⟨_,by rw [size_madeCells,hz1];omega,this⟩
section
variable {b:Nat} {w0 w w':World} {l:List Ob} {g:Nat} {A:Option Addr} {c:Nat} {L:List Int} {n:Nat}
theorem SW.newBuT {d:BD} {bs:List UInt8} (h:SW b w0 l w) (hb:Below w.heap.size w w') (hr:RB w' d bs) (hn:∀ g,blk d=some g->w.heap.size<=g):SW b w0 (bufOb d bs::l) w':=by
 have:=h.1.add (o':=bufOb d bs) hb hr (fun i hi=>⟨hn i hi,hr.lt hi⟩) (fun i hi=>hi.elim) (fun i hi=>hi.elim);exact ⟨this.1,h.2.trans this.2⟩
theorem SW.appB {d d':BD} {bs bs':List UInt8} (h:SW b w0 l w) (k:Nat) (hk:l[k]? =some (bufOb d bs)) (ha:AppB w d bs' d' w'):SW b w0 (l.set k (bufOb d' bs')) w':=⟨(h.1.app k hk ha).1,h.2.trans (h.1.app k hk ha).2⟩
set_option maxRecDepth 100000 in
set_option maxHeartbeats 4000000 in
theorem Bytes_x (h:SW b w0 l w) (kk:Nat) (hk:l[kk]? =some (tpOb g A c L n)) (m:Nat) (k:Int) (hm:m<=10000) (hk1:1<k) (hk2:k<=256) (hn:n+m<=1000000):
 Calls Tryz.prog 35 #[vPtr g,.int .i64 m,.int .i64 k] w (fun e w'=>∃ d,e= .returned (.slice d.A d.len d.cap)/\SW b w0 (bufOb d (tbytes L n k m)::l.set kk (tpOb g A c L (n+m))) w'):=by
 obtain ⟨cs,hcs,hmk⟩:=mk_slice w m (by omega);have hmx:max (m:Int) 0=m:=by omega
 have hkl:kk<l.length:=(List.getElem?_eq_some_iff.1 hk).1;have S0:Hid (SW b w0 (bufOb ⟨some ⟨w.heap.size,0,none⟩,0,m⟩ []::l) (w.alloc (.cells cs 5))):=h.newBuT ((Below.refl _ _).alloc (Nat.le_refl _) _) (new_bytes w cs _ _ _ _ rfl rfl (Nat.zero_le _) hcs (by simp)) (fun g hg=>by simp [blk] at hg;omega);have HK:=hid hk;clear h hk;go_enter Tryz.func35,Tryz.ntmps35;go_wp2_with fail
 go_loopw [7,8] (fun v i wr=>∃ (j:Nat) (d:BD),j<=m/\i= .int .i64 j/\v= .slice d.A d.len d.cap/\SW b w0 (bufOb d (tbytes L n k j)::l.set kk (tpOb g A c L (n+j))) wr) (fun _ i _=>m-(intOf i).toNat)
 case atStart=>
  refine ⟨0,⟨some ⟨w.heap.size,0,none⟩,0,m⟩,by omega,rfl,rfl,?_⟩;have e:l.set kk (tpOb g A c L (n+0))=l:=set_self l kk _ HK.out;rw [e];exact S0.out
 obtain ⟨j,d,hj,rfl,rfl,hs⟩:=hrel;have S1:=hid hs;clear hs hmk S0;have HN:=hid (Next_x S1.out (kk+1) (by rw [List.getElem?_cons_succ,List.getElem?_set_self hkl]) k (by omega) (by omega));simp only [List.set_cons_succ,List.set_set] at HN;by_cases hlt:j<m
 · go_wp2_with (first
    | (go_at_call 9;(with_reducible refine HN.out.mono ?_);refine halt_ ?_)
    | (at_builtin;refine halt_ ?_))
   rintro e w1 ⟨rfl,s2⟩;have S2:=hid s2;clear s2 HN;obtain ⟨hy0,hy1⟩:=tnext_in L (n+j) k;have hy1:=hy1 hk1;have HT:Hid (tbytes L n k (j+1)=tbytes L n k j++[UInt8.ofNat (tnext L (n+j) k).toNat]):=rfl;have HL:=hid (tbytes_len L n k j);generalize tbytes L n k j=bs at S1 S2 HL HT;generalize tnext L (n+j) k=y at hy0 hy1 HT |-; have hyw:IntKind.u8.wrap y=y:=IntWalk.u8_in y (by omega);obtain ⟨yb,hyb⟩:∃ yb:UInt8,((yb.toNat:Nat):Int)=y:=⟨UInt8.ofNat y.toNat,by rw [UInt8.toNat_ofNat'];omega⟩;subst hyb;have e1:UInt8.ofNat (((yb.toNat:Nat):Int)).toNat=yb:=by simp
   rw [e1] at HT;clear S1 e1;go_wp2_with (at_builtin;refine halt_ ?_)
   have hrb:RB w1 d bs:=S2.out.get 0 (o:=bufOb d bs) rfl;have SB1:Hid (SB (w1.alloc (.cells #[.int .u8 ((yb.toNat:Nat):Int)] 5)) (some ⟨w1.heap.size,0,none⟩) [yb]):=sb_const w1 _ rfl [yb] (0,0);refine wpList_append_bytes rfl _ _ rfl d bs rfl (hrb.on (bel1 _ _)) (some ⟨w1.heap.size,0,none⟩) 1 [yb] rfl SB1.out (by rw [HL.out];simp only [List.length_cons,List.length_nil];omega) ?_;intro d2 w2 hl2 happ
   have S3:Hid (SW b w0 (bufOb d2 (tbytes L n k (j+1))::l.set kk (tpOb g A c L (n+(j+1)))) w2):=by
    rw [Hid,HT.out];have:=(S2.out.alloc (.cells #[.int .u8 ((yb.toNat:Nat):Int)] 5)).appB 0 rfl happ;exact this
   clear happ hl2 hyw hy0 hy1 hrb SB1 S2;go_wp2_with fail
   go_roundw
   case rel=>exact ⟨j+1,d2,by omega,by go_num,rfl,S3.out⟩
   simp [intOf];omega
 obtain rfl:j=m:=by omega
 go_wp2_with fail
 go_ret;exact ⟨d,rfl,S1.out⟩
end
end Go.Proofs.YtmiknfneeipkeaaGreat
