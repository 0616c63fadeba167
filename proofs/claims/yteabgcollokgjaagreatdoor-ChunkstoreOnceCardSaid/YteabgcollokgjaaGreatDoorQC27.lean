/- Q -/
import Derived.Test.YteabgcollokgjaaGreatDoorQC26
set_option linter.unusedSimpArgs false
set_option linter.unusedVariables false
set_option maxRecDepth 100000
set_option maxHeartbeats 32000000
open Go.Lib (hid)
open List renaming getD_eq_getElem?_getD → zA,length_take → zB,map_cons → zC,length_cons → zD,getElem?_eq_getElem → zE,length_singleton → zF,getElem?_take_of_lt → zG,length_drop → zH
namespace Go.Proofs.YteabgcollokgjaaGreatDoor
section
open Go.RowKit Go.MapKept Go.ChangeMaps
attribute [local go_sem] wext_cell
section
variable {b:Nat} {w0 w:World} {l:List Ob} {gr:Nat}
theorem SW.rollAt {x c s:Int} (h:SW b w0 (cellOb gr 361 (rollC x c s)::l) w):w.cell? ⟨gr,0,none⟩=some (.int .u8 x)/\w.cell? ⟨gr,64,none⟩=some (.int .i64 1)/\w.cell? ⟨gr,65,none⟩=some (.int .i64 c)/\w.cell? ⟨gr,66,none⟩=some (.int .i64 0)/\w.cell? ⟨gr,67,none⟩=some (.int .u64 s)/\w.cell? ⟨gr,68,none⟩=some (.int .u64 1)/\gr<w.heap.size/\∀ j,w.frozen? ⟨gr,j,none⟩=false:=
 have k:=h.cell 0 rfl;⟨k.cell 0,k.cell 64,k.cell 65,k.cell 66,k.cell 67,k.cell 68,k.lt,fun j=>k.frozen j⟩
theorem rollPush0 (h:SW b w0 (cellOb gr 361 (rollC 0 0 0)::l) w) (y:Nat) (hy:y<=255):Calls Tryz.prog 262 #[vPtr gr,.int .u8 (y:Int)] w (fun e w'=>e= .returned (.int .u64 ((y:Int)+1))/\SW b w0 (cellOb gr 361 (rollC y 1 ((y:Int)+1))::l) w'):=by
 have S:=hid h;obtain ⟨c0,c64,c65,c66,c67,c68,hlt,hf⟩:=h.rollAt;clear h;have hwy:IntKind.u64.wrap (y:Int)=(y:Int):=by rw [IntKind.wrap_u64];omega
 have hwy1:IntKind.u64.wrap ((y:Int)+1)=(y:Int)+1:=by rw [IntKind.wrap_u64];omega
 have HM:Hid (∀ w,Calls Tryz.prog 292 #[.int .u64 0,.int .u64 747382712868975713] w fun e w'=>e= .returned (.int .u64 0)/\w=w'):=fun w=>(romul_any 0 747382712868975713 w (by omega) (by omega)).mono fun _ _ h=>⟨by rw [h.1];rfl,h.2⟩;have HA:Hid (∀ w,Calls Tryz.prog 293 #[.int .u64 0,.int .u64 ((y:Int)+1)] w fun e w'=>e= .returned (.int .u64 ((y:Int)+1))/\w=w'):=fun w=>(roadd_any 0 (y+1) w (by omega) (by omega)).mono fun _ _ h=>⟨by rw [h.1,Nat.zero_add,Nat.mod_eq_of_lt (by unfold pP;omega)];rfl,h.2⟩;go_enter Tryz.func262,Tryz.ntmps262;go_upto_region 1 with fail
 go_region
 go_upto_region 5 with fail
 have S1:Hid (SW b w0 (cellOb gr 361 (rollC 0 1 0)::l) _):=(S.out.setAt 0 rfl 65 (.int .i64 1)).drew;generalize (World.setCell _ _ _).drew=W1 at S1 |-; clear c0 c64 c65 c66 c67 c68 hlt hf S;obtain ⟨c0,c64,c65,c66,c67,c68,hlt,hf⟩:=S1.out.rollAt;go_region
 have S2:Hid (SW b w0 (cellOb gr 361 (rollC y 1 0)::l) _):=(S1.out.setAt 0 rfl 0 (.int .u8 y)).drew;go_upto_region 6 with fail
 generalize (World.setCell _ _ _).drew=W2 at S2 |-; clear c0 c64 c65 c66 c67 c68 hlt hf S1;obtain ⟨c0,c64,c65,c66,c67,c68,hlt,hf⟩:=S2.out.rollAt;go_region
 have S3:Hid (SW b w0 (cellOb gr 361 (rollC y 1 0)::l) _):=(S2.out.setAt 0 rfl 66 (.int .i64 0)).drew;go_upto_region 7 with fail
 generalize (World.setCell _ _ _).drew=W3 at S3 |-; clear c0 c64 c65 c66 c67 c68 hlt hf S2;obtain ⟨c0,c64,c65,c66,c67,c68,hlt,hf⟩:=S3.out.rollAt;go_wp2_with (first | (go_at_call 292;(with_reducible refine (HM.out _).mono ?_);rintro e w1 ⟨rfl,rfl⟩) | (go_at_call 293;(with_reducible refine (HA.out _).mono ?_);rintro e w1 ⟨rfl,rfl⟩))
 go_ret;exact ⟨rfl,S3.out.setAt 0 rfl 67 (.int .u64 ((y:Int)+1))⟩
theorem rollPush1 (x:Nat) (hx:x<=255) (z:Int) (hz:z=(x:Int)+1) (h:SW b w0 (cellOb gr 361 (rollC x 1 z)::l) w) (y:Nat) (hy:y<=255):Calls Tryz.prog 262 #[vPtr gr,.int .u8 (y:Int)] w (fun e w'=>e= .returned (.int .u64 ((y:Int)+1))/\SW b w0 (cellOb gr 361 (rollC y 1 ((y:Int)+1))::l) w'):=by
 have S:=hid h;obtain ⟨c0,c64,c65,c66,c67,c68,hlt,hf⟩:=h.rollAt;clear h;have hwx:IntKind.u64.wrap (x:Int)=(x:Int):=by rw [IntKind.wrap_u64];omega
 have hwx1:IntKind.u64.wrap ((x:Int)+1)=z:=by rw [IntKind.wrap_u64];omega
 have hz1:1<=z:=by omega
 have hz2:z<=256:=by omega
 obtain ⟨q,HQ⟩:∃ q:Int,Hid (2305843009213693951-z=q):=⟨_,rfl⟩;have hws:IntKind.u64.wrap (2305843009213693951-z)=q:=by rw [IntKind.wrap_u64];have:=HQ.out;omega
 have htm:q.tmod 2305843009213693951=q:=by have:=HQ.out;rw [Int.tmod_eq_emod_of_nonneg (by omega)];omega
 have hwy:IntKind.u64.wrap (y:Int)=(y:Int):=by rw [IntKind.wrap_u64];omega
 have hwy1:IntKind.u64.wrap ((y:Int)+1)=(y:Int)+1:=by rw [IntKind.wrap_u64];omega
 have HO:Hid (∀ w,Calls Tryz.prog 292 #[.int .u64 z,.int .u64 1] w fun e w'=>e= .returned (.int .u64 z)/\w'=w):=fun w=>by
  have h:=romul_any (x+1) 1 w (by omega) (by omega);rw [Nat.mul_one,Nat.mod_eq_of_lt (by unfold pP;omega)] at h;rw [hz];exact h.mono fun _ _ h=>⟨h.1,h.2.symm⟩
 have HS:Hid (∀ w,Calls Tryz.prog 293 #[.int .u64 z,.int .u64 q] w fun e w'=>e= .returned (.int .u64 0)/\w=w'):=fun w=>by
  have h:=roadd_any (x+1) (2305843009213693951-(x+1)) w (by omega) (by omega);have e:((2305843009213693951-(x+1):Nat):Int)=q:=by have:=HQ.out;omega
  have e3:((x+1:Nat):Int)=z:=by omega
  have e2:(x+1+(2305843009213693951-(x+1))) % pP=0:=by
   rw [show x+1+(2305843009213693951-(x+1))=pP by unfold pP;omega,Nat.mod_self]
  rw [e,e2,e3] at h;exact h
 have HM:Hid (∀ w,Calls Tryz.prog 292 #[.int .u64 0,.int .u64 747382712868975713] w fun e w'=>e= .returned (.int .u64 0)/\w=w'):=fun w=>(romul_any 0 747382712868975713 w (by omega) (by omega)).mono fun _ _ h=>⟨by rw [h.1];rfl,h.2⟩;have HA:Hid (∀ w,Calls Tryz.prog 293 #[.int .u64 0,.int .u64 ((y:Int)+1)] w fun e w'=>e= .returned (.int .u64 ((y:Int)+1))/\w=w'):=fun w=>(roadd_any 0 (y+1) w (by omega) (by omega)).mono fun _ _ h=>⟨by rw [h.1,Nat.zero_add,Nat.mod_eq_of_lt (by unfold pP;omega)];rfl,h.2⟩;clear hz;go_enter Tryz.func262,Tryz.ntmps262;go_upto_region 1 with fail
 go_region
 go_upto_region 2 with fail
 have S0:=hid S.out.drew;generalize w.drew=W0 at S0 |-; clear c0 c64 c65 c66 c67 c68 hlt hf S;obtain ⟨c0,c64,c65,c66,c67,c68,hlt,hf⟩:=S0.out.rollAt;go_quiet ((go_at_call 292;exact Calls.quiet_of_same (HO.out _)))
 have S1:=hid (S0.out.on (bdrewN (Below.refl _ _) nq));generalize W0.drewN nq=W1 at S1 |-; clear c0 c64 c65 c66 c67 c68 hlt hf S0;obtain ⟨c0,c64,c65,c66,c67,c68,hlt,hf⟩:=S1.out.rollAt;go_upto_region 4 with (go_at_call 293;(with_reducible refine (HS.out _).mono ?_);rintro e w1 ⟨rfl,rfl⟩)
 have S2:Hid (SW b w0 (cellOb gr 361 (rollC x 1 0)::l) _):=S1.out.setAt 0 rfl 67 (.int .u64 0);go_upto_region 5 with fail
 generalize World.setCell _ _ _=W2 at S2 |-; clear c0 c64 c65 c66 c67 c68 hlt hf S1;obtain ⟨c0,c64,c65,c66,c67,c68,hlt,hf⟩:=S2.out.rollAt;go_region
 have S3:Hid (SW b w0 (cellOb gr 361 (rollC y 1 0)::l) _):=(S2.out.setAt 0 rfl 0 (.int .u8 y)).drew;go_upto_region 6 with fail
 generalize (World.setCell _ _ _).drew=W3 at S3 |-; clear c0 c64 c65 c66 c67 c68 hlt hf S2;obtain ⟨c0,c64,c65,c66,c67,c68,hlt,hf⟩:=S3.out.rollAt;go_region
 have S4:Hid (SW b w0 (cellOb gr 361 (rollC y 1 0)::l) _):=(S3.out.setAt 0 rfl 66 (.int .i64 0)).drew;go_upto_region 7 with fail
 generalize (World.setCell _ _ _).drew=W4 at S4 |-; clear c0 c64 c65 c66 c67 c68 hlt hf S3;obtain ⟨c0,c64,c65,c66,c67,c68,hlt,hf⟩:=S4.out.rollAt;go_wp2_with (first | (go_at_call 292;(with_reducible refine (HM.out _).mono ?_);rintro e w1 ⟨rfl,rfl⟩) | (go_at_call 293;(with_reducible refine (HA.out _).mono ?_);rintro e w1 ⟨rfl,rfl⟩))
 go_ret;exact ⟨rfl,S4.out.setAt 0 rfl 67 (.int .u64 ((y:Int)+1))⟩
def RollI (x c s:Int):Prop:=(x=0/\c=0/\s=0)∨(∃ k:Nat,k<=255/\x=k/\c=1/\s=(k:Int)+1)
theorem rollPush {x c s:Int} (hr:RollI x c s) (h:SW b w0 (cellOb gr 361 (rollC x c s)::l) w) (y:Nat) (hy:y<=255):Calls Tryz.prog 262 #[vPtr gr,.int .u8 (y:Int)] w (fun e w'=>e= .returned (.int .u64 ((y:Int)+1))/\SW b w0 (cellOb gr 361 (rollC y 1 ((y:Int)+1))::l) w'):=by
 rcases hr with ⟨rfl,rfl,rfl⟩ | ⟨k,hk,rfl,rfl,rfl⟩
 · exact rollPush0 h y hy
 exact rollPush1 k hk _ rfl h y hy
end
end
section
open Go.RowKit Go.MapKept Go.ChangeMaps
attribute [local go_sem] wext_cell
structure CutP where
 mn:Int
 mx:Int
 ma:Int
structure CutP.Ok (c:CutP):Prop where
 m1:1<=c.mn
 m2:c.mn<=c.mx
 m3:c.mx<=8192
abbrev CutP.val (c:CutP):Value:=.agg #[.int .i64 c.mn,.int .i64 c.mx,.int .i64 1,.int .u64 c.ma]
def CutP.ends (c:CutP) (n:Nat) (y:Nat):Bool:= !(decide ((n:Int)<c.mn)||(decide ((n:Int)<c.mx)&&(bits .and .u64 c.ma ((y:Int)+1) !=0)))
abbrev scC (c:CutP) (gr:Nat) (n:Int):Array Value:= #[.int .i64 c.mn,.int .i64 c.mx,.int .i64 1,.int .u64 c.ma,vPtr gr,.int .i64 n]
section
variable {b:Nat} {w0 w:World} {l:List Ob} {gr gs:Nat}
theorem scan_new (h:SW b w0 l w) (c:CutP) (hc:c.Ok):Calls Tryz.prog 213 #[c.val] w (fun e w'=>∃ gs gr,e= .returned (.tuple #[vPtr gs,.int .i64 0])/\SW b w0 (cellOb gs 292 (scC c gr 0)::cellOb gr 361 (rollC 0 0 0)::l) w'):=by
 have S0:=hid (h.newCell 85 #[.int .i64 c.mn,.int .i64 c.mx,.int .i64 1,.int .u64 c.ma]);have HCK:=hid (fun W=>cutCheck_any c.mn c.mx c.ma W hc.m1 hc.m2 hc.m3);clear h hc;go_enter Tryz.func213,Tryz.ntmps213;go_upto_region 1 with fail
 generalize w.alloc _=W1 at S0 |-; generalize w.heap.size=g1 at S0 |-; have k0:=(S0.out.cell 0 rfl).cell 0;have k1:=(S0.out.cell 0 rfl).cell 1;have k2:=(S0.out.cell 0 rfl).cell 2;have k3:=(S0.out.cell 0 rfl).cell 3;go_wp2_with (go_at_call 260;(with_reducible refine (HCK.out _).mono ?_);refine halt_ ?_)
 rintro e w2 ⟨rfl,hb2⟩;have S2:=hid (S0.out.on hb2);have HRN:=hid (rollNew_any S2.out);clear hb2 HCK S0 k0 k1 k2 k3;have k0:=(S2.out.cell 0 rfl).cell 0;have k1:=(S2.out.cell 0 rfl).cell 1;have k2:=(S2.out.cell 0 rfl).cell 2;have k3:=(S2.out.cell 0 rfl).cell 3;go_wp2_with (go_at_call 261;(with_reducible refine HRN.out.mono ?_);refine halt_ ?_)
 rintro e w3 ⟨gr,rfl,s3⟩;have S3:=hid s3;clear s3 HRN S2 k0 k1 k2 k3;have k0:=(S3.out.cell 1 rfl).cell 0;have k1:=(S3.out.cell 1 rfl).cell 1;have k2:=(S3.out.cell 1 rfl).cell 2;have k3:=(S3.out.cell 1 rfl).cell 3;go_wp2_with fail
 go_ret2;refine ⟨w3.heap.size,gr,rfl,?_⟩;have:=S3.out.newCell 292 (scC c gr 0);exact this.sub (List.Sublist.cons_cons _ (List.Sublist.cons_cons _ (List.sublist_cons_self _ _)))
theorem scan_push {x cn s:Int} (hr:RollI x cn s) (c:CutP) (n:Nat) (hn:n<=1000000) (h:SW b w0 (cellOb gs 292 (scC c gr n)::cellOb gr 361 (rollC x cn s)::l) w) (y:Nat) (hy:y<=255):
 Calls Tryz.prog 214 #[vPtr gs,.int .u8 (y:Int)] w (fun e w'=>e= .returned (.bool (c.ends (n+1) y))/\SW b w0 (cellOb gs 292 (scC c gr (if c.ends (n+1) y then 0 else (n:Int)+1))::cellOb gr 361 (rollC y 1 ((y:Int)+1))::l) w'):=by
 have S0:=hid h;have HPU:=hid (rollPush hr (SW.front (pre:=[_,_]) h [1,0] (n:=2) rfl (by decide)) y hy);have k4:=(h.cell 0 rfl).cell 4;obtain ⟨t,HT⟩:∃ t:Bool,Hid ((bits .and .u64 c.ma ((y:Int)+1) !=0)=t):=⟨_,rfl⟩;have ht:=HT.out;obtain ⟨v,HV⟩:∃ v:Bool,Hid (v= !(decide ((n:Int)+1<c.mn)||(decide ((n:Int)+1<c.mx)&&t))):=⟨_,rfl⟩
 have hev:c.ends (n+1) y=v:=by
  rw [HV.out, <- ht];rfl
 rw [hev];clear h hr HT hev;go_enter Tryz.func214,Tryz.ntmps214;go_upto_region 1 with fail
 go_wp2_with (go_at_call 262;(with_reducible refine HPU.out.mono ?_);refine halt_ ?_)
 rintro e w1 ⟨rfl,s1⟩;have S1:=hid (SW.front (pre:=[_,_]) s1 [1,0] (n:=2) rfl (by decide));clear s1 HPU S0 k4;have k5:=(S1.out.cell 0 rfl).cell 5;have f5:=(S1.out.cell 0 rfl).frozen 5;go_upto_region 3 with fail
 have S2:Hid (SW b w0 (cellOb gs 292 (scC c gr ((n:Int)+1))::cellOb gr 361 (rollC y 1 ((y:Int)+1))::l) _):=S1.out.setAt 0 rfl 5 (.int .i64 ((n:Int)+1));generalize World.setCell _ _ _=W2 at S2 |-; clear k5 f5 S1;have k0:=(S2.out.cell 0 rfl).cell 0;have k1:=(S2.out.cell 0 rfl).cell 1;have k3:=(S2.out.cell 0 rfl).cell 3;have k5:=(S2.out.cell 0 rfl).cell 5;have f5:=(S2.out.cell 0 rfl).frozen 5;cases d1:decide ((n:Int)+1<c.mn) with
 | true=>
  obtain rfl:v=false:=by rw [HV.out,d1];rfl
  clear HV;go_region
  go_wp2_with fail
  go_ret;exact ⟨rfl,S2.out.drew⟩
 | false=>
  cases d2:decide ((n:Int)+1<c.mx) with
  | false=>
   obtain rfl:v=true:=by rw [HV.out,d1,d2];rfl
   clear HV;go_region
   go_wp2_with fail
   go_ret;exact ⟨rfl,S2.out.drew.setAt 0 rfl 5 (.int .i64 0)⟩
  | true=>
   cases t with
   | true=>
    obtain rfl:v=false:=by rw [HV.out,d1,d2];rfl
    clear HV;go_region
    go_wp2_with fail
    go_ret;exact ⟨rfl,S2.out.drew⟩
   | false=>
    obtain rfl:v=true:=by rw [HV.out,d1,d2];rfl
    clear HV;go_region
    go_wp2_with fail
    go_ret;exact ⟨rfl,S2.out.drew.setAt 0 rfl 5 (.int .i64 0)⟩
end
end
section
open Go.RowKit Go.MapKept Go.ChangeMaps Go.Shelf Go.Sort
attribute [local go_sem] wext_cell
def stepE (c:CutP) (s:Nat×Nat×List Nat) (y:UInt8):Nat×Nat×List Nat:=if c.ends (s.2.1+1) y.toNat then (s.1+1,0,s.2.2++[s.1+1]) else (s.1+1,s.2.1+1,s.2.2)
def endsF (c:CutP) (bs:List UInt8):Nat×Nat×List Nat:=bs.foldl (stepE c) (0,0,[])
def cutEnds (c:CutP) (bs:List UInt8):List Nat:=if 0<(endsF c bs).2.1 then (endsF c bs).2.2++[bs.length] else (endsF c bs).2.2
theorem endsF_snoc (c:CutP) (bs:List UInt8) (y:UInt8):endsF c (bs++[y])=stepE c (endsF c bs) y:=by
 unfold endsF;rw [List.foldl_append];rfl
theorem stepE_pos (c:CutP) (s:Nat×Nat×List Nat) (y:UInt8):(stepE c s y).1=s.1+1/\(stepE c s y).2.1<=s.2.1+1/\(stepE c s y).2.2.length<=s.2.2.length+1:=by
 unfold stepE;split<;>simp
theorem endsF_pos (c:CutP) (bs:List UInt8):(endsF c bs).1=bs.length/\(endsF c bs).2.1<=bs.length/\(endsF c bs).2.2.length<=bs.length:=by
 have:∀ (bs:List UInt8) (s:Nat×Nat×List Nat),(bs.foldl (stepE c) s).1=s.1+bs.length/\(bs.foldl (stepE c) s).2.1<=s.2.1+bs.length/\(bs.foldl (stepE c) s).2.2.length<=s.2.2.length+bs.length:=by
  intro bs;induction bs with
  | nil=>intro s;simp
  | cons y bs ih=>
   intro s;have h1:=ih (stepE c s y);have h2:=stepE_pos c s y;rw [List.foldl_cons,zD];omega
 have h:=this bs (0,0,[]);simpa [endsF] using h
abbrev vZn (n:Nat):Value:=.int .i64 (n:Int)
theorem own_at {w:World} {e:TypeId} {n:Nat} {v:Value} {xs:List Value} (h:w.ownsRow 0 e 1 v n xs) {k:Nat} (hk:k<xs.length):∃ g c,v= .slice (some ⟨g,0,none⟩) n c/\g<w.heap.size/\w.cell? ⟨g,k,none⟩=xs[k]? :=by
 have hl:=h.1;rcases h.2 with ⟨hv,hx⟩ | ⟨g,cap,cur,hv,_,hh,hc1,hcs,hcs2,htk⟩
 · exfalso
   rw [hx] at hl;omega
 refine ⟨g,cap,hv,(h.lt g (by rw [hv];rfl)).2,?_⟩;have hi:IsB w g e cur:=hh;rw [hi.cell, <- htk,zG (by omega),Array.getElem?_toList]
theorem own_slI {w:World} {e:TypeId} {size n:Nat} {v:Value} {xs:List Value} (h:w.ownsRow 0 e size v n xs):∃ A c,v= .slice A n c:=by
 rcases h.2 with ⟨hv,h2⟩ | ⟨g,cap,cur,hv,_⟩
 · exact ⟨none,0,by rw [hv,h2]⟩
 exact ⟨some ⟨g,0,none⟩,cap,hv⟩
section
variable {b:Nat} {w0 w:World} {l:List Ob}
theorem ends_any (h:SW b w0 l w) (c:CutP) (hc:c.Ok) {A:Option Addr} {bs:List UInt8} (hA:rsOb A bs∈l) (cap:Nat) (hn:bs.length<=100000):
 Calls Tryz.prog 161 #[c.val,.slice A bs.length cap] w (fun e w'=>∃ v,e= .returned (.tuple #[v,.int .i64 0])/\SW b w0 (rowOb 3 1 v (cutEnds c bs).length ((cutEnds c bs).map vZn)::l) w'):=by
 have HMEM:=hid hA;have S0:=hid (h.newCell 85 #[.int .i64 c.mn,.int .i64 c.mx,.int .i64 1,.int .u64 c.ma]);have HSN:=hid (fun (W:World) (hW:SW b w0 l W)=>scan_new hW c hc);obtain ⟨n,Hn⟩:∃ n,Hid (bs.length=n):=⟨_,rfl⟩;rw [Hn.out] at hn |-; clear h hc hA;go_enter Tryz.func161,Tryz.ntmps161;go_upto_region 1 with fail
 generalize w.alloc _=W1 at S0 |-; generalize w.heap.size=g1 at S0 |-; have k0:=(S0.out.cell 0 rfl).cell 0;have k1:=(S0.out.cell 0 rfl).cell 1;have k2:=(S0.out.cell 0 rfl).cell 2;have k3:=(S0.out.cell 0 rfl).cell 3;have S1:=hid S0.out.tail;clear S0;go_wp2_with (go_at_call 213;(with_reducible refine (HSN.out _ S1.out).mono ?_);refine halt_ ?_)
 rintro e w2 ⟨gs,gr,rfl,s2⟩;have S2:=hid s2;clear s2 HSN S1 k0 k1 k2 k3;go_wp2_with fail
 have S3:Hid (SW b w0 (rowOb 3 1 (.slice none 0 0) 0 []::cellOb gs 292 (scC c gr 0)::cellOb gr 361 (rollC 0 0 0)::l) w2):=S2.out.newRow 3 1;clear S2;go_loopw [8,24] (fun s8 s24 wr=>∃ (k:Nat) (x cn s:Int),k<=n/\s24=vZn k/\RollI x cn s/\SW b w0 (rowOb 3 1 s8 (endsF c (bs.take k)).2.2.length ((endsF c (bs.take k)).2.2.map vZn)::cellOb gs 292 (scC c gr ((endsF c (bs.take k)).2.1:Int))::cellOb gr 361 (rollC x cn s)::l) wr) (fun _ s24 _=>n-(intOf s24).toNat)
 case atStart=>exact ⟨0,0,0,0,Nat.zero_le _,rfl,.inl ⟨rfl,rfl,rfl⟩,S3.out⟩
 obtain ⟨k,x,cn,s,hk,rfl,hr,hs⟩:=hrel;have S4:=hid hs;obtain ⟨EA,ec,hv⟩:=own_slI (hs.get 0 rfl);subst hv;have hpos:=endsF_pos c (bs.take k);rw [zB] at hpos;clear hs S3;by_cases hlt:k<n
 · have hltb:k<bs.length:=by rw [Hn.out];exact hlt
   obtain ⟨y,hy⟩:∃ y:UInt8,bs.getD k 0=y:=⟨_,rfl⟩
   have hts:bs.take (k+1)=bs.take k++[y]:=by
    rw [List.take_succ_eq_append_getElem hltb, <- hy,zA,zE hltb];rfl
   have HST:=hid (endsF_snoc c (bs.take k) y);rw [<- hts] at HST;obtain ⟨E,HE⟩:∃ E,Hid (endsF c (bs.take k)=E):=⟨_,rfl⟩;rw [HE.out] at HST S4 hpos;rw [HE.out];have hyl:=y.toNat_lt;have hrs:RS wr A bs:=S4.out.1.holds (rsOb A bs) (by simp [HMEM.out])
   obtain ⟨g,o,rfl,hcell⟩:∃ g o,A=some ⟨g,o,none⟩/\wr.cell? ⟨g,o+k,none⟩=some (.int .u8 ((y.toNat:Nat):Int)):=by
    cases hA:A with
    | none=>have:=hrs.1 hA;omega
    | some ad=>
     obtain ⟨g,o,e,hc⟩:=hrs.2 ad hA;refine ⟨g,o,by rw [e],?_⟩;rw [<- hy];exact hc k hltb
   have S5:Hid (SW b w0 (cellOb gs 292 (scC c gr (E.2.1:Int))::cellOb gr 361 (rollC x cn s)::rowOb 3 1 (.slice EA E.2.2.length ec) E.2.2.length (E.2.2.map vZn)::l) wr):=SW.front (pre:=[_,_,_]) S4.out [1,2,0] (n:=3) rfl (by decide);have HPU:=hid (scan_push hr c E.2.1 (by omega) S5.out y.toNat (by omega));obtain ⟨nl,HNL⟩:∃ nl:Int,Hid ((if c.ends (E.2.1+1) y.toNat then 0 else (E.2.1:Int)+1)=nl):=⟨_,rfl⟩;obtain ⟨d,HD⟩:∃ d:Bool,Hid (c.ends (E.2.1+1) y.toNat=d):=⟨_,rfl⟩;rw [HNL.out,HD.out] at HPU;clear S4 S5 hrs hr;go_wp2_with (go_at_call 214;(with_reducible refine HPU.out.mono ?_);refine halt_ ?_)
   rintro e w3 ⟨rfl,s3⟩;have S6:=hid (SW.front (pre:=[_,_,_]) s3 [2,0,1] (n:=3) rfl (by decide));clear s3 HPU hcell;have hst:=HST.out;unfold stepE at hst;have hE1:E.1=k:=by omega
   have hnl:=HNL.out;rw [HD.out] at hst hnl;cases d with
   | false=>
    rw [if_neg (by decide)] at hst hnl;have HS2:=hid hst;rw [<- hnl] at S6;clear hst HST hnl HNL HD;go_wp2_with fail
    go_roundw
    case rel=>
     refine ⟨k+1,_,_,_,by omega,by go_num,.inr ⟨y.toNat,by omega,rfl,rfl,rfl⟩,?_⟩;rw [HS2.out];exact S6.out
    simp [intOf];omega
   | true=>
    rw [if_pos rfl] at hst hnl;have HS2:=hid hst;rw [<- hnl] at S6;clear hst HST hnl HNL HD;obtain ⟨i1,gi,gz0,gz1,gz2⟩:=info_parts info3;go_wp2_with (at_builtin;(refine wpList_rowS (t:=47) (e:=3) (size:=1) (bytes:=8) (i:=i1) (S6.out.alloc _) 0 rfl (by rfl) (.tmp 32) (.tmp 35) (by rfl) Tryz.underlying47 gi gz0 gz1 gz2 rfl (by omega) (by rfl) ⟨w3.heap.size,0,none⟩ 1 [.int .i64 ((k:Int)+1)] (by rfl) rfl (one_at (cell_new w3 3 _)) (by intro u hu;simp at hu;rw [hu];rfl) (by unfold maxLen;omega) (by omega) ?_);refine halt_ ?_)
    intro v5 w5 s5;obtain ⟨g5,c5,rfl⟩:=own_some (s5.get 0 rfl) (by omega);have S7:=hid s5;clear s5 S6;go_wp2_with fail
    go_roundw
    case rel=>
     refine ⟨k+1,_,_,_,by omega,by go_num,.inr ⟨y.toNat,by omega,rfl,rfl,rfl⟩,?_⟩;rw [HS2.out];simp only [List.map_append,List.length_append,zF,zC,List.map_nil];rw [hE1];exact S7.out
    simp [intOf];omega
 obtain rfl:k=n:=by omega
 have hft:bs.take k=bs:=by rw [List.take_of_length_le (by rw [Hn.out];omega)]
 rw [hft] at S4 hpos |-; obtain ⟨E,HE⟩:∃ E,Hid (endsF c bs=E):=⟨_,rfl⟩;have HCE:Hid (cutEnds c bs=if 0<E.2.1 then E.2.2++[bs.length] else E.2.2):=by rw [Hid, <- HE.out];rfl
 rw [HE.out] at S4 hpos |-; have k5:=(S4.out.cell 1 rfl).cell 5;have hlt5:=(S4.out.cell 1 rfl).lt;by_cases hz:0<E.2.1
 · have hzi:(0:Int)<(E.2.1:Int):=by omega
   have hce:=HCE.out;rw [if_pos hz] at hce;have HC2:=hid hce;clear hce HCE;obtain ⟨i1,gi,gz0,gz1,gz2⟩:=info_parts info3;go_wp2_with (at_builtin;(refine wpList_rowS (t:=47) (e:=3) (size:=1) (bytes:=8) (i:=i1) (S4.out.alloc _) 0 rfl (by rfl) (.tmp 43) (.tmp 46) (by rfl) Tryz.underlying47 gi gz0 gz1 gz2 rfl (by omega) (by rfl) ⟨wr.heap.size,0,none⟩ 1 [.int .i64 (k:Int)] (by rfl) rfl (one_at (cell_new wr 3 _)) (by intro u hu;simp at hu;rw [hu];rfl) (by unfold maxLen;omega) (by omega) ?_);refine halt_ ?_)
   intro v5 w5 s5;have S7:=hid s5;clear s5 S4 k5;go_wp2_with fail
   go_ret2;refine ⟨v5,rfl,?_⟩;rw [HC2.out];simp only [List.map_append,List.length_append,zF,zC,List.map_nil];rw [Hn.out];exact SW.few (pre:=[_,_,_]) S7.out [0] (n:=3) rfl (by decide) (by decide)
 have hzi:¬ ((0:Int)<(E.2.1:Int)):=by omega
 have hce:=HCE.out;rw [if_neg hz] at hce;have HC2:=hid hce;clear hce HCE;go_wp2_with fail
 go_ret2;refine ⟨_,rfl,?_⟩;rw [HC2.out];exact SW.few (pre:=[_,_,_]) S4.out [0] (n:=3) rfl (by decide) (by decide)
end
end
section
open Go.RowKit Go.MapKept Go.ChangeMaps Go.Shelf Go.Sort
attribute [local go_sem] wext_cell
structure BS where
 d:BD
 bs:List UInt8
def bs0:BS:=⟨⟨none,0,0⟩,[]⟩
def encB (e:BS):List Value:=[.slice e.d.A e.d.len e.d.cap]
theorem encB_len (e:BS):(encB e).length=1:=rfl
def blOb (A:Option Addr) (T:List BS):Ob where
 own:=fun _=>False
 rd:=fun i=>(0<T.length/\A=some ⟨i,0,none⟩)∨∃ e∈T,blk e.d=some i
 holds:=fun w=>RowV w 34 1 A T.length (T.flatMap encB)/\∀ e∈T,RB w e.d e.bs
 stable:=fun w w' h hs hk=>by
  refine ⟨h.1.same (fun i hn e=>hk i (.inr (.inl ⟨hn,e⟩))),fun e he=>?_⟩;have hc:Ch w w' (fun i=>¬ blk e.d=some i) []:=⟨hs.1,hs.2.1,hs.2.2.1,hs.2.2.2,fun i _ hn _=>hk i (.inr (.inr ⟨e,he,Classical.not_not.1 hn⟩)),by simp⟩;exact (h.2 e he).ch hc (fun g hg hn=>hn hg) (by simp)
theorem blOb_at {w:World} {A:Option Addr} {T:List BS} (h:(blOb A T).holds w) {j:Nat} (hj:j<T.length) {e:BS} (he:T.getD j bs0=e):∃ g,A=some ⟨g,0,none⟩/\g<w.heap.size/\w.cell? ⟨g,j,none⟩=some (.slice e.d.A e.d.len e.d.cap)/\RB w e.d e.bs:=by
 obtain ⟨g,e1,hlt,hc⟩:=h.1.at (by omega);refine ⟨g,e1,hlt,?_,h.2 e ?_⟩
 · have:=flat_at encB_len bs0 T j 0 hj (by omega);rw [he] at this;rw [hc j (by omega)];simpa [encB] using this
 rw [<- he,zA,zE hj];exact List.getElem_mem hj
def DistB (T:List BS):Prop:=∀ j k,j<T.length->k<j->fpOf (T.getD j bs0).bs=fpOf (T.getD k bs0).bs->(T.getD j bs0).bs=(T.getD k bs0).bs
abbrev DistP (T:List BS) (w:World) (e:Ending) (w':World):Prop:=∃ v:Bool,e= .returned (.bool v)/\(v=true->DistB T)/\Below w.heap.size w w'
theorem info34:(Tryz.prog.info? 34).map (fun i=>(i.zero,i.size,i.bytes))=some (some (.slice none 0 0),1,24):=by kernel_rfl
end
section
open Go.RowKit Go.MapKept Go.ChangeMaps Go.Shelf Go.Sort
attribute [local go_sem] wext_cell
def Chain:Nat->List Nat->Nat->Prop
 | a,[],z=>a=z
 | a,e::es,z=>a<e/\Chain e es z
theorem Chain.snoc:∀ {es:List Nat} {a z e:Nat},Chain a es z->z<e->Chain a (es++[e]) e
 | [],a,z,e,h,hz=>by
  have h:a=z:=h;exact ⟨by omega,rfl⟩
 | _::_,_,_,_,h,hz=>⟨h.1,Chain.snoc h.2 hz⟩
theorem Chain.le:∀ {es:List Nat} {a z:Nat},Chain a es z->a<=z
 | [],a,z,h=>Nat.le_of_eq h
 | e::es,a,z,h=>Nat.le_trans (Nat.le_of_lt h.1) h.2.le
theorem Chain.at:∀ {es:List Nat} {a z:Nat},Chain a es z->∀ {k:Nat},k<es.length->(a::es).getD k 0<es.getD k 0/\es.getD k 0<=z
 | [],_,_,_,k,hk=>by simp at hk
 | e::es,a,z,h,0,_=>⟨h.1,h.2.le⟩
 | e::es,a,z,h,k+1,hk=>Chain.at h.2 (by simpa using hk)
theorem endsF_chain (c:CutP) (bs:List UInt8):Chain 0 (endsF c bs).2.2 (bs.length-(endsF c bs).2.1):=by
 have:∀ (bs:List UInt8) (s:Nat×Nat×List Nat),s.2.1<=s.1->Chain 0 s.2.2 (s.1-s.2.1)->Chain 0 (bs.foldl (stepE c) s).2.2 ((bs.foldl (stepE c) s).1-(bs.foldl (stepE c) s).2.1):=by
  intro bs;induction bs with
  | nil=>intro s _ h;exact h
  | cons y bs ih=>
   intro s hs h;rw [List.foldl_cons];refine ih _ ?_ ?_
   · have h2:=stepE_pos c s y;omega
   unfold stepE;split
   · exact h.snoc (by omega)
   show Chain 0 s.2.2 (s.1+1-(s.2.1+1));rw [Nat.add_sub_add_right];exact h
 have h:=this bs (0,0,[]) (Nat.le_refl _) rfl;have h1:=(endsF_pos c bs).1;unfold endsF at h1 |-; rw [h1] at h;exact h
theorem cutEnds_chain (c:CutP) (bs:List UInt8):Chain 0 (cutEnds c bs) bs.length:=by
 have h:=endsF_chain c bs;have h1:=endsF_pos c bs;unfold cutEnds;split
 · exact h.snoc (by omega)
 have e:(endsF c bs).2.1=0:=by omega
 rw [e] at h;exact h
def pieceE (bs:List UInt8) (es:List Nat) (k:Nat):List UInt8:=(bs.drop ((0::es).getD k 0)).take (es.getD k 0-(0::es).getD k 0)
def cutsF (c:CutP) (bs:List UInt8):List (List UInt8):=(List.range (cutEnds c bs).length).map (pieceE bs (cutEnds c bs))
def bsOb (E:List BS):Ob where
 own:=fun _=>False
 rd:=fun i=>∃ e∈E,blk e.d=some i
 holds:=fun w=>∀ e∈E,RB w e.d e.bs
 stable:=fun w w' h hs hk e he=>by
  have hc:Ch w w' (fun i=>¬ blk e.d=some i) []:=⟨hs.1,hs.2.1,hs.2.2.1,hs.2.2.2,fun i _ hn _=>hk i (.inr ⟨e,he,Classical.not_not.1 hn⟩),by simp⟩;exact (h e he).ch hc (fun g hg hn=>hn hg) (by simp)
def vQ (e:BS):Value:=.slice e.d.A e.d.len e.d.cap
def arrE (E:List BS) (m:Nat):Array Value:=⟨E.map vQ++List.replicate (m-E.length) (.slice none 0 0)⟩
theorem arrE_set (E:List BS) (m:Nat) (e:BS) (h:E.length<m):(arrE E m).setIfInBounds E.length (vQ e)=arrE (E++[e]) m:=by
 unfold arrE;obtain ⟨j,hj⟩:∃ j,m-E.length=j+1:=⟨m-E.length-1,by omega⟩;have hj2:m-(E++[e]).length=j:=by simp;omega
 rw [hj,hj2];apply Array.ext'
 rw [Array.toList_setIfInBounds];simp only [List.replicate_succ];rw [List.set_append_right _ _ (by simp),List.length_map,Nat.sub_self];simp
theorem mk_pcs (w:World) (n:Nat) (hn:n<=100000):(Instr.makeSlice 86 (.int .i64 n) (.int .i64 n)).run Tryz.prog w= .ok (.slice (some ⟨w.heap.size,0,none⟩) n n) (w.alloc (.cells (arrE [] n) 34)):=by
 obtain ⟨i0,hi,hz0,hz1,hz2⟩:=info_parts info34;have:=run_makeSlice (P:=Tryz.prog) w 86 34 i0 _ Tryz.underlying86 hi hz0 .i64 .i64 n n (by omega) (by omega) (by rw [hz1];simp;omega) (by rw [hz2];omega) (by omega);simp only [Int.toNat_natCast] at this;have e:madeCells (Value.slice none 0 0).cells n=arrE [] n:=Array.ext' (by rw [show (Value.slice none 0 0).cells= #[Value.slice none 0 0] from rfl,toList_madeCells_one];simp [arrE]);rw [this,hz1,Nat.mul_one,e]
theorem slice34_at (W:World) (g o n c lo hi:Nat) (h1:lo<hi) (h2:hi<=n) (h3:n<=c):(Instr.slice 34 (.slice (some ⟨g,o,none⟩) n c) (some (vZn lo)) (some (vZn hi)) none).run Tryz.prog W= .ok (.slice (some ⟨g,o+lo,none⟩) (hi-lo) (c-lo)) W:=by
 have he:=elem_of 34 5 Tryz.underlying34;have ht':Tryz.prog.underlying 34=some (.slice (Tryz.prog.elem 34)):=by rw [he];exact Tryz.underlying34
 rw [Go.run_slice_lh (w:=W) 34 (some ⟨g,o,none⟩) n c ht' .i64 .i64 (lo:Int) (hi:Int) (by omega) (by omega) (by omega),he,Tryz.sizeOf5];simp only [Result.andThen,sliced,Int.toNat_natCast,Nat.mul_one];rw [if_neg (by omega)];simp [Addr.add]
theorem RS.part {w:World} {g o:Nat} {bs:List UInt8} (h:RS w (some ⟨g,o,none⟩) bs) {lo hi:Nat} (h1:lo<=hi) (h2:hi<=bs.length):RS w (some ⟨g,o+lo,none⟩) ((bs.drop lo).take (hi-lo)):=by
 refine ⟨(fun e=>by cases e),fun ad e=>⟨g,o+lo,by injection e with e;exact e.symm,fun j hj=>?_⟩⟩;obtain ⟨g',o',e',hc⟩:=h.2 _ rfl;injection e' with e1 e2 e3;subst e1;subst e2;rw [zB,zH] at hj;rw [show o+lo+j=o+(lo+j) by omega,hc (lo+j) (by omega)];congr 1
 rw [zA,zA,zG (by omega),List.getElem?_drop]
end
section
open Go.RowKit Go.MapKept Go.ChangeMaps Go.Shelf Go.Sort
def lenS' (M:List (List UInt8)):Nat:=(M.map (·.length)).sum
def ddQ:List (List UInt8)->List (List UInt8)
 | []=>[]
 | t::M=>if t∈ddQ M then ddQ M else t::ddQ M
theorem ddQ_mem (M:List (List UInt8)):∀ t,t∈ddQ M↔t∈M:=by
 induction M with
 | nil=>intro t;simp [ddQ]
 | cons s M ih=>
  intro t;unfold ddQ;split
  · rename_i h
    rw [ih t,List.mem_cons];constructor
    · exact .inr
    rintro (rfl | h2)
    · exact (ih _).1 h
    exact h2
  rw [List.mem_cons,List.mem_cons,ih t]
theorem ddQ_nodup (M:List (List UInt8)):(ddQ M).Nodup:=by
 induction M with
 | nil=>exact List.nodup_nil
 | cons s M ih=>
  unfold ddQ;split
  · exact ih
  rename_i h
  exact List.nodup_cons.2 ⟨h,ih⟩
theorem ddQ_sum (M:List (List UInt8)):lenS' (ddQ M)<=lenS' M:=by
 induction M with
 | nil=>exact Nat.le_refl _
 | cons s M ih=>
  have e:lenS' (s::M)=s.length+lenS' M:=by simp [lenS']
  unfold ddQ;split
  · omega
  have e2:lenS' (s::ddQ M)=s.length+lenS' (ddQ M):=by simp [lenS']
  omega
def four:List UInt8:=[0,1,2,3]
theorem four_of {c:UInt8} (h:c.toNat<4):c∈four:=by
 have:c=0∨c=1∨c=2∨c=3:=by
  have:c.toNat=0∨c.toNat=1∨c.toNat=2∨c.toNat=3:=by omega
  rcases this with h | h | h | h
  · exact .inl (UInt8.toNat_inj.1 h)
  · exact .inr (.inl (UInt8.toNat_inj.1 h))
  · exact .inr (.inr (.inl (UInt8.toNat_inj.1 h)))
  exact .inr (.inr (.inr (UInt8.toNat_inj.1 h)))
 simpa [four] using this
def ones:List (List UInt8):=four.map fun c=>[c]
def twos:List (List UInt8):=four.flatMap fun c=>four.map fun d=>[c,d]
theorem filter_len (p q:List UInt8->Bool):∀ L:List (List UInt8),(∀ t,p t=true->t.length=1)->(∀ t,q t=true->t.length=2)->(∀ t∈L,t≠[])->(∀ t,t.length=1->p t=true)->(∀ t,t.length=2->q t=true)->3*L.length<=lenS' L+2*(L.filter p).length+(L.filter q).length:=by
 intro L h1 h2 h0 h3 h4;induction L with
 | nil=>simp [lenS']
 | cons t L ih=>
  have ih:=ih (fun t ht=>h0 t (List.mem_cons_of_mem _ ht));have e:lenS' (t::L)=t.length+lenS' L:=by simp [lenS']
  have hn:=List.length_pos_iff.2 (h0 t (by simp));rw [List.filter_cons,List.filter_cons,e,zD];by_cases l1:t.length=1
  · rw [if_pos (h3 t l1),if_neg (fun hq=>by have:=h2 t hq;omega),zD];omega
  by_cases l2:t.length=2
  · rw [if_neg (fun hp=>l1 (h1 t hp)),if_pos (h4 t l2),zD];omega
  rw [if_neg (fun hp=>l1 (h1 t hp)),if_neg (fun hq=>l2 (h2 t hq))];omega
theorem count4 {L:List (List UInt8)} (hn:L.Nodup) (h0:∀ t∈L,t≠[]) (h4:∀ t∈L,∀ c∈t,c.toNat<4):3*L.length<=lenS' L+24:=by
 have h:=filter_len (fun t=>decide (t.length=1)) (fun t=>decide (t.length=2)) L (fun t h=>of_decide_eq_true h) (fun t h=>of_decide_eq_true h) h0 (fun t h=>decide_eq_true h) (fun t h=>decide_eq_true h)
 have a1:=len_le_sub (L.filter fun t=>decide (t.length=1)) ones (hn.sublist List.filter_sublist) (fun t ht=>by
  obtain ⟨h1,h2⟩:=List.mem_filter.1 ht;have h2:t.length=1:=of_decide_eq_true h2;match t,h2 with
  | [c],_=>exact List.mem_map.2 ⟨c,four_of (h4 _ h1 c (by simp)),rfl⟩)
 have a2:=len_le_sub (L.filter fun t=>decide (t.length=2)) twos (hn.sublist List.filter_sublist) (fun t ht=>by
  obtain ⟨h1,h2⟩:=List.mem_filter.1 ht;have h2:t.length=2:=of_decide_eq_true h2;match t,h2 with
  | [c,d],_=>exact List.mem_flatMap.2 ⟨c,four_of (h4 _ h1 c (by simp)),List.mem_map.2 ⟨d,four_of (h4 _ h1 d (by simp)),rfl⟩⟩)
 have e1:ones.length=4:=by decide
 have e2:twos.length=16:=by decide
 omega
theorem count_in {L M:List (List UInt8)} (hn:L.Nodup) (hs:∀ t∈L,t∈M) (h0:∀ t∈M,t≠[]) (h4:∀ t∈M,∀ c∈t,c.toNat<4):3*L.length<=lenS' M+24:=by
 have h1:=len_le_sub L (ddQ M) hn (fun t ht=>(ddQ_mem M t).2 (hs t ht));have h2:=count4 (ddQ_nodup M) (fun t ht=>h0 t ((ddQ_mem M t).1 ht)) (fun t ht=>h4 t ((ddQ_mem M t).1 ht));have h3:=ddQ_sum M;omega
theorem pieces_chain (bs:List UInt8):∀ (es:List Nat) (a z:Nat),Chain a es z->z<=bs.length->((List.range es.length).map fun k=>(bs.drop ((a::es).getD k 0)).take (es.getD k 0-(a::es).getD k 0)).flatten=(bs.drop a).take (z-a)
 | [],a,z,h,_=>by
  have h:a=z:=h;subst h;simp
 | e::es,a,z,h,hz=>by
  obtain ⟨h1,h2⟩:=h;have ih:=pieces_chain bs es e z h2 hz;have hl:=h2.le;rw [zD,List.range_succ_eq_map,zC,List.flatten_cons,List.map_map]
  have e1:((fun k=>(bs.drop ((a::e::es).getD k 0)).take ((e::es).getD k 0-(a::e::es).getD k 0)) ∘ Nat.succ)=fun k=>(bs.drop ((e::es).getD k 0)).take (es.getD k 0-(e::es).getD k 0):=by
   funext k
   simp only [Function.comp,List.getD_cons_succ]
  rw [e1,ih];simp only [List.getD_cons_zero];have e2:z-a=(e-a)+(z-e):=by omega
  have e3:bs.drop e=(bs.drop a).drop (e-a):=by rw [List.drop_drop];congr 1;omega
  rw [e2,List.take_add,e3]
theorem cuts_all (c:CutP) (bs:List UInt8):(cutsF c bs).flatten=bs:=by
 have h:=pieces_chain bs (cutEnds c bs) 0 bs.length (cutEnds_chain c bs) (Nat.le_refl _);rw [List.drop_zero,Nat.sub_zero,List.take_length] at h;exact h
theorem cuts_pos (c:CutP) (bs:List UInt8):∀ t∈cutsF c bs,1<=t.length/\t.length<=bs.length/\∀ x∈t,x∈bs:=fun t ht=>by
 obtain ⟨k,hk,rfl⟩:=List.mem_map.1 ht;obtain ⟨h1,h2⟩:=(cutEnds_chain c bs).at (List.mem_range.1 hk);unfold pieceE;refine ⟨?_,?_,fun x hx=>List.mem_of_mem_drop (List.mem_of_mem_take hx)⟩
 · rw [zB,zH];omega
 rw [zB,zH];omega
theorem lenS_flat (M:List (List UInt8)):lenS' M=M.flatten.length:=by
 unfold lenS';rw [List.length_flatten]
end
section
open Go.RowKit Go.MapKept Go.ChangeMaps Go.Shelf Go.Sort
attribute [local go_sem] wext_cell
end
section
open Go.RowKit Go.MapKept Go.ChangeMaps Go.Shelf Go.Sort

def inOb (A:Option Addr) (L:List Int):Ob where
 own:=fun _=>False
 rd:=fun i=>0<L.length/\∃ o,A=some ⟨i,o,none⟩
 holds:=fun w=>RdT w w.heap.size A L/\L.length<=9223372036854775807
 stable:=fun w w' h hs hk=>by
  refine ⟨fun hp=>?_,h.2⟩;obtain ⟨b,o,e,hlt,hc⟩:=h.1 hp;have h2:=hk b (.inr ⟨hp,o,e⟩);refine ⟨b,o,e,Nat.lt_of_lt_of_le hlt hs.2.2.2,fun j hj=>?_⟩;rw [<- hc j hj];simp [World.cell?, h2]
section
variable {b:Nat} {w0 w w':World} {l:List Ob}
theorem SW.newTape {A:Option Addr} {L:List Int} (h:SW b w0 l w) (hm:inOb A L∈l) (c:Nat) {H:Nat} (hH:w.heap.size=H):SW b w0 (tpOb H A c L 0::l) (w.alloc (.cells #[.slice A L.length c,.int .i64 0] 50)):=by
 subst hH;have hh:RdT w w.heap.size A L/\L.length<=9223372036854775807:=h.1.holds _ hm;have hb:Below w.heap.size w (w.alloc (.cells #[.slice A L.length c,.int .i64 0] 50)):=(Below.refl _ _).alloc (Nat.le_refl _) _;have:=h.1.add (o':=tpOb w.heap.size A c L 0) hb ⟨IsB.new _ _ _,fun hp=>?_,hh.2⟩ (fun i hi=>?_) (fun i hi=>?_) (fun i hi hlt=>h.noOwn hm (fun _ h=>h) hi)
 · exact ⟨this.1,h.2.trans this.2⟩
 · obtain ⟨q,o,e,hlt,hc⟩:=hh.1 hp;exact ⟨q,o,e,by simp;omega,by omega,fun j hj=>(hb.cell hlt).trans (hc j hj)⟩
 · have hi:i=w.heap.size:=hi;rw [hi];exact ⟨Nat.le_refl _,by simp⟩
 obtain ⟨hp,o,e⟩:=hi;obtain ⟨q,o',e',hlt,_⟩:=hh.1 hp;rw [e] at e';injection e' with e';injection e' with e' _;rw [e'];exact Nat.lt_of_lt_of_le hlt (by simp)
theorem SW.ne {i j g g':Nat} {t t':TypeId} {cs cs':Array Value} (h:SW b w0 l w) (hi:l[i]? =some (cellOb g t cs)) (hj:l[j]? =some (cellOb g' t' cs')) (hij:i<j):g≠g':=by
 obtain ⟨h1,e1⟩:=List.getElem?_eq_some_iff.1 hi;obtain ⟨h2,e2⟩:=List.getElem?_eq_some_iff.1 hj;have:=List.pairwise_iff_getElem.1 h.1.apart i j h1 h2 hij;rw [e1,e2] at this;intro e;exact (this.1 g rfl).1 e
theorem Open_LS {ns:List ByteArray} {b:Nat} {w0 w:World} {l:List Ob} {p:Nat} {r:Rp} {s:St} (h:SW b w0 (devOb p r s::l) w) (nm:ByteArray) (hn:nameV nm=true) (hd:s.dn=false) (hf:s.f=0) (he:∀ m,s.now m=none) (ho:s.ops=[]) (h1:fileN nm∈ns) (h2:ns.length<=200):
 Calls Tryz.prog 20 #[vPtr p,.string nm] w (fun e w'=>∃ x:SR,e= .returned (.tuple #[vPtr x.ps,.int .i64 0])/\SW b w0 (x.obs l) w'/\Cl ns x/\x.C=[]/\x.F=none/\x.nm=nm/\x.p=p/\x.wait=0/\x.bytes=0/\x.s.ops=[]):=by
 refine (Open_empty h.1 nm hn hd he).mono ?_;rintro e w' ⟨H,hH,rfl,hs⟩;exact ⟨openedS p r s nm H,rfl,h.then hs,opened_cl hn hd hf he (by rw [ho];decide) h1 h2,rfl,rfl,rfl,rfl,rfl,rfl,ho⟩
end
theorem SW.startIn {w:World} {A:Option Addr} {L:List Int} (hr:RdT w w.heap.size A L) (hl:L.length<=9223372036854775807):SW w.heap.size w [inOb A L] w:=
 SW.start (o:=inOb A L) ⟨hr,hl⟩ (fun _ h=>h) (fun i hi=>by
  obtain ⟨hp,o,e⟩:=hi;obtain ⟨q,o',e',hlt,_⟩:=hr hp;rw [e] at e';injection e' with e';injection e' with e' _;rw [e'];exact hlt)
section
variable {b:Nat} {w0 w w':World} {l:List Ob}
theorem wpList_rowM {ops:Array Oper} {o:Oper} {rest:List Oper} {a:Act} {Q:Exit->Act->World->Prop} {t e:TypeId} {i:TypeInfo} {z:Value} {size bytes:Nat} (hS:SW b w0 l w) (k:Nat) {v:Value} {n:Nat} {xs:List Value} (hk:l[k]? =some (rowOb e size v n xs))
 (hgd:o.guard=none) (s x:Operand) (ho:o.op= .call { callee:=.builtin .append,args:= #[s,x],argTypes:= #[t,t] })
 (ht:Tryz.prog.underlying t=some (.slice e)) (hi:Tryz.prog.info? e=some i) (hz:i.zero=some z) (hsize:i.size=size) (hby:i.bytes=bytes) (hzs:z.cells.size=size) (hsz:0<size)
 (hs:a.eval s=v) (A:Option Addr) (m c:Nat) (news:List Value) (hx:a.eval x= .slice A m c) (hl:news.length=m*size) (hA:0<m->∃ ad,A=some ad/\∀ j u,news[j]? =some u->w.cell? (ad.add j)=some u) (h1:∀ u∈news,u.oneCell'=true)
 (h63:n+m<=maxLen) (hbytes:(n+m)*bytes<=140737488355328)
 (h:∀ v' w',SW b w0 (l.set k (rowOb e size v' (n+m) (xs++news))) w'->wpList Tryz.prog ops Q rest (a.put o.dst v') w'):
 wpList Tryz.prog ops Q (o::rest) a w:=by
 have:=step_rowM (ops:=ops) (Q:=Q) (E:=False) (K:=wpList Tryz.prog ops Q rest) hS k hk hgd s x ho ht hi hz hsize hby hzs hsz hs A m c news hx hl hA h1 h63 hbytes h;have hw:Region.wanted o (yielded ops a.tmps)=true:=by simp [Region.wanted,hgd]
 rw [if_pos hw] at this;unfold wpList
 first
  | (rw [if_pos hw];exact .inl this)
  | (simp only [hw,if_true];exact .inl this)
  | (simp only [hw,if_true];exact this)
end
end
section
open Go.RowKit Go.MapKept Go.ChangeMaps Go.Shelf Go.Sort
attribute [local go_sem] wext_cell
end
section
open Go.RowKit Go.MapKept Go.ChangeMaps Go.Shelf Go.Sort
attribute [local go_sem] wext_cell
end
section
open Go.RowKit Go.MapKept Go.ChangeMaps Go.Shelf Go.Sort
attribute [local go_sem] wext_cell
end
end Go.Proofs.YteabgcollokgjaaGreatDoor
