/- Contracts of the walk, part 7. -/
import Derived.Test.YtmiknfneeipkeaaGreatS06
import Derived.Test.YtmiknfneeipkeaaGreatS04
open Go.Lib (hid)
namespace Go.Proofs.YtmiknfneeipkeaaGreat
open Go.RowKit Go.MapKept Go.ChangeMaps
attribute [local go_sem] wext_cell
def revs (m:Nat):List Int:=(List.range m).map (fun j:Nat=>(j:Int)+1)
theorem revs_len (m:Nat):(revs m).length=m:=by simp [revs]
theorem revs_at {m j:Nat} (h:j<m):(revs m).getD j 0=(j:Int)+1:=by
 rw [List.getD_eq_getElem?_getD];simp [revs,h]
theorem encR_len (i:Int):(encR i).length=12:=rfl
def rvOb (A:Option Addr) (m:Nat):Ob where
 own:=fun _=>False
 rd:=fun i=>0<m/\A=some ⟨i,0,none⟩
 holds:=fun w=>RowV w 111 12 A m ((revs m).flatMap encR)
 stable:=fun w w' h hs hk=>h.same (fun i h1 h2=>hk i (.inr ⟨h1,h2⟩))
theorem rv_at {w:World} {A:Option Addr} {m j:Nat} (h:RowV w 111 12 A m ((revs m).flatMap encR)) (hj:j<m):∃ g,A=some ⟨g,0,none⟩/\g<w.heap.size/\∀ c,c<12->w.cell? ⟨g,j*12+c,none⟩=(encR ((j:Int)+1))[c]? :=by
 obtain ⟨g,e,hlt,hc⟩:=h.at (by omega);refine ⟨g,e,hlt,fun c hc12=>?_⟩;rw [hc _ (by omega),flat_at encR_len 0 (revs m) j c (by rw [revs_len];exact hj) hc12,revs_at hj]
section
variable {b:Nat} {w0 w:World} {l:List Ob} {A:Option Addr} {m cm:Nat} {n:Int} {kb ml me mi ge:Nat} {a s bs:Int}
set_option maxRecDepth 100000 in
set_option maxHeartbeats 8000000 in
theorem size_any (h:SW b w0 l w) (hk:cellOb kb 209 (ckC (.slice A m cm) n (.slice (some ⟨ge,0,none⟩) 1 1) ml me mi)∈l) (hv:rvOb A m∈l) (hn:n=10*((m:Int)+1)) (hm:m<=100):Calls Tryz.prog 132 #[vPtr kb] w (fun e w'=>e= .returned (.int .i64 0)/\Below w.heap.size w w'):=by
 have HS:=hid h;have HK:=hid hk;have HV:=hid hv;have HN:=hid hn;have HKC:=hid (fun (W:World) (hB:Below w.heap.size w W)=>((h.on hB).1.holds (cellOb kb 209 (ckC (.slice A m cm) n (.slice (some ⟨ge,0,none⟩) 1 1) ml me mi)) hk:IsB W kb 209 (ckC (.slice A m cm) n (.slice (some ⟨ge,0,none⟩) 1 1) ml me mi)));have HRV:=hid (fun (W:World) (hB:Below w.heap.size w W)=>((h.on hB).1.holds (rvOb A m) hv:RowV W 111 12 A m ((revs m).flatMap encR)));clear h hk hv hn;have k0:w.cell? ⟨kb,0,none⟩=some (.slice A m cm):=(HKC.out w (Below.refl _ _)).cell 0;have k2:w.cell? ⟨kb,2,none⟩=some (.int .i64 n):=(HKC.out w (Below.refl _ _)).cell 2;have k5:w.cell? ⟨kb,5,none⟩=some (.slice (some ⟨ge,0,none⟩) 1 1):=(HKC.out w (Below.refl _ _)).cell 5;have k6:w.cell? ⟨kb,6,none⟩=some (.slice none 0 0):=(HKC.out w (Below.refl _ _)).cell 6;have hkb:=(HKC.out w (Below.refl _ _)).lt;go_enter Tryz.func132,Tryz.ntmps132;go_upto_region 1 with fail
 refine wp_region_ext (by kernel_rfl) (by kernel_rfl) ?_;repeat (go_big_quiet_step (fail))
 refine wpQuiet_nil ?_;intro w1 hb1;have B1:=hid hb1;clear hb1 k0 k2 k5 k6 hkb;have k0:w1.cell? ⟨kb,0,none⟩=some (.slice A m cm):=(HKC.out w1 B1.out).cell 0;have k2:w1.cell? ⟨kb,2,none⟩=some (.int .i64 n):=(HKC.out w1 B1.out).cell 2;have hn1:10<=n/\n<=2000:=by have:=HN.out;omega
 obtain ⟨hn1,hn2⟩:=hn1;go_wp2_with fail
 go_loopw [47] (fun s47 wr=>∃ (k:Nat),s47= .int .i64 (k:Int)/\k<=m/\Below w.heap.size w wr) (fun s47 _=>m-(intOf s47).toNat)
 case atStart=>exact ⟨0,rfl,Nat.zero_le _,B1.out⟩
 obtain ⟨k,rfl,hkm,hb⟩:=hrel;have B2:=hid hb;clear hb k0 k2;by_cases hlt:k<m
 · obtain ⟨g,hA,hg,hc⟩:=rv_at (HRV.out wr B2.out) hlt;obtain ⟨i,HI⟩:∃ i,Hid ((k:Int)+1=i):=⟨_,rfl⟩;obtain ⟨ci,HC⟩:∃ ci,Hid (10*i=ci):=⟨_,rfl⟩;obtain ⟨ai,HA⟩:∃ ai,Hid (actI i=ai):=⟨_,rfl⟩
   have hcc:∀ c,c<12->wr.cell? ⟨g,k*12+c,none⟩=[Value.string pA,.int .i64 i,.int .i64 ci,.int .i64 ai,.int .i64 1,.bool false,.bool false,.bool false,.int .u64 i,.int .i64 1,.string ⟨#[]⟩,.int .i64 0][c]? :=fun c h=>by
    rw [hc c h,HI.out, <- HC.out, <- HA.out];rfl
   subst hA;have c0:wr.cell? ⟨g,k*12,none⟩=some (.string pA):=hcc 0 (by omega);have c1:wr.cell? ⟨g,k*12+1,none⟩=some (.int .i64 i):=hcc 1 (by omega);have c2:wr.cell? ⟨g,k*12+2,none⟩=some (.int .i64 ci):=hcc 2 (by omega);have c3:wr.cell? ⟨g,k*12+3,none⟩=some (.int .i64 ai):=hcc 3 (by omega);have c4:wr.cell? ⟨g,k*12+4,none⟩=some (.int .i64 1):=hcc 4 (by omega);have c5:wr.cell? ⟨g,k*12+5,none⟩=some (.bool false):=hcc 5 (by omega);have c6:wr.cell? ⟨g,k*12+6,none⟩=some (.bool false):=hcc 6 (by omega);have c7:wr.cell? ⟨g,k*12+7,none⟩=some (.bool false):=hcc 7 (by omega);have c8:wr.cell? ⟨g,k*12+8,none⟩=some (.int .u64 i):=hcc 8 (by omega);have c9:wr.cell? ⟨g,k*12+9,none⟩=some (.int .i64 1):=hcc 9 (by omega);have c10:wr.cell? ⟨g,k*12+10,none⟩=some (.string ⟨#[]⟩):=hcc 10 (by omega);have c11:wr.cell? ⟨g,k*12+11,none⟩=some (.int .i64 0):=hcc 11 (by omega)
   have hci:ci<n:=by
    have:=HN.out;have:=HI.out;have:=HC.out;omega
   have hd:decide (n<=ci)=false:=decide_eq_false (by omega);clear hc hcc;go_wp2_with fail
   go_roundw
   case rel=>exact ⟨k+1,by go_num,by omega,B2.out.alloc B2.out.size _⟩
   simp [intOf];omega
 obtain rfl:k=m:=by omega
 go_wp2_with fail
 go_ret;exact ⟨rfl,B2.out⟩
end
end Go.Proofs.YtmiknfneeipkeaaGreat
namespace Go.Proofs.YtmiknfneeipkeaaGreat
open Go.RowKit Go.MapKept Go.ChangeMaps
theorem isByte_d (w:World):Calls Tryz.prog 227 #[.int .u8 100] w (fun e w'=>e= .returned (.bool true)/\w=w'):=by
 go_enter Tryz.func227,Tryz.ntmps227;go_wp2_with fail
 go_ret;exact ⟨rfl,rfl⟩
theorem isByte_a (w:World):Calls Tryz.prog 227 #[.int .u8 97] w (fun e w'=>e= .returned (.bool true)/\w=w'):=by
 go_enter Tryz.func227,Tryz.ntmps227;go_wp2_with fail
 go_ret;exact ⟨rfl,rfl⟩
theorem comp_d (w:World):Calls Tryz.prog 208 #[.string ⟨#[100]⟩] w (fun e w'=>e= .returned (.bool true)/\w=w'):=by
 have hx:((((⟨#[100]⟩:ByteArray)[0]'(by decide)).toNat:Nat):Int)=100:=rfl;go_enter Tryz.func208,Tryz.ntmps208;go_wp2_with fail
 go_loopw [13] (fun s13 wr=>∃ k:Nat,s13= .int .i64 (k:Int)/\k<=1/\w=wr) (fun s13 _=>1-(intOf s13).toNat)
 case atStart=>exact ⟨0,rfl,by omega,rfl⟩
 obtain ⟨k,rfl,hk,rfl⟩:=hrel;by_cases h:k=0
 · subst h;have HB:=hid (isByte_d w);go_wp2_with (go_at_call 227;(with_reducible refine HB.out.mono ?_);refine halt_ ?_)
   rintro e w2 ⟨rfl,rfl⟩;go_wp2_with fail
   go_roundw
   case rel=>exact ⟨1,by go_num,by omega,by first | trivial | rfl⟩
   simp [intOf]
 obtain rfl:k=1:=by omega
 go_wp2_with fail
 go_ret;exact ⟨rfl,rfl⟩
theorem comp_a (w:World):Calls Tryz.prog 208 #[.string ⟨#[97]⟩] w (fun e w'=>e= .returned (.bool true)/\w=w'):=by
 have hx:((((⟨#[97]⟩:ByteArray)[0]'(by decide)).toNat:Nat):Int)=97:=rfl;go_enter Tryz.func208,Tryz.ntmps208;go_wp2_with fail
 go_loopw [13] (fun s13 wr=>∃ k:Nat,s13= .int .i64 (k:Int)/\k<=1/\w=wr) (fun s13 _=>1-(intOf s13).toNat)
 case atStart=>exact ⟨0,rfl,by omega,rfl⟩
 obtain ⟨k,rfl,hk,rfl⟩:=hrel;by_cases h:k=0
 · subst h;have HB:=hid (isByte_a w);go_wp2_with (go_at_call 227;(with_reducible refine HB.out.mono ?_);refine halt_ ?_)
   rintro e w2 ⟨rfl,rfl⟩;go_wp2_with fail
   go_roundw
   case rel=>exact ⟨1,by go_num,by omega,by first | trivial | rfl⟩
   simp [intOf]
 obtain rfl:k=1:=by omega
 go_wp2_with fail
 go_ret;exact ⟨rfl,rfl⟩
theorem pre_A (w:World):Calls Tryz.prog 222 #[.string pA,.string ⟨#[47,47]⟩] w (fun e w'=>e= .returned (.bool true)/\w=w'):=by
 have hx:((pA.extract 0 2).toList==[47,47])=true:=by decide+kernel
 go_enter Tryz.func222,Tryz.ntmps222;go_wp2_with fail
 go_ret;exact ⟨by first | rfl | (rw [hx];rfl),rfl⟩
theorem hasPrefix_A (w:World):Calls Tryz.prog 195 #[.string pA,.string ⟨#[47,47]⟩] w (fun e w'=>e= .returned (.bool true)/\w=w'):=by
 have HP:=hid (pre_A w);go_enter Tryz.func195,Tryz.ntmps195;go_wp2_with (go_at_call 222;(with_reducible refine HP.out.mono ?_);refine halt_ ?_)
 rintro e w2 ⟨rfl,rfl⟩;go_wp2_with fail
 go_ret;exact ⟨rfl,rfl⟩
def vaS (k:Nat):Int×Int×Int:=match k with
 | 0=>(0,2,2)
 | 1=>(0,2,3)
 | 2=>(1,4,4)
 | 3=>(1,4,5)
 | _=>(2,6,6)
theorem valid_A (w:World):Calls Tryz.prog 176 #[.string pA] w (fun e w'=>e= .returned (.bool true)/\w=w'):=by
 have HP:=hid (hasPrefix_A w);have HD:=hid (comp_d w);have HA:=hid (comp_a w);have e1:pA.extract 2 3=⟨#[100]⟩:=by decide+kernel
 have e2:pA.extract 4 5=⟨#[97]⟩:=by decide+kernel
 have x2:(((pA[2]'(by decide)).toNat:Nat):Int)=100:=rfl;have x3:(((pA[3]'(by decide)).toNat:Nat):Int)=47:=rfl;have x4:(((pA[4]'(by decide)).toNat:Nat):Int)=97:=rfl;go_enter Tryz.func176,Tryz.ntmps176;go_wp2_with (go_at_call 195;(with_reducible refine HP.out.mono ?_);refine halt_ ?_)
 rintro e w2 ⟨rfl,rfl⟩;clear HP;go_wp2_with fail
 go_loopw [3,4,5] (fun s3 s4 s5 wr=>∃ k:Nat,k<=4/\s3= .int .i64 (vaS k).1/\s4= .int .i64 (vaS k).2.1/\s5= .int .i64 (vaS k).2.2/\w=wr) (fun s3 _ s5 _=>(6-intOf s5).toNat)
 case atStart=>exact ⟨0,by omega,rfl,rfl,rfl,rfl⟩
 obtain ⟨k,hk,rfl,rfl,rfl,rfl⟩:=hrel;have hk5:k=0∨k=1∨k=2∨k=3∨k=4:=by omega
 rcases hk5 with rfl | rfl | rfl | rfl | rfl
 · simp only [vaS];go_wp2_with fail
   go_roundw
   case rel=>exact ⟨1,by omega,rfl,rfl,rfl,by first | trivial | rfl⟩
   simp [intOf]
 · simp only [vaS];go_wp2_with (go_at_call 208;(with_reducible refine HD.out.mono ?_);refine halt_ ?_)
   rintro e w2 ⟨rfl,rfl⟩;go_wp2_with fail
   go_roundw
   case rel=>exact ⟨2,by omega,rfl,rfl,rfl,by first | trivial | rfl⟩
   simp [intOf]
 · simp only [vaS];go_wp2_with fail
   go_roundw
   case rel=>exact ⟨3,by omega,rfl,rfl,rfl,by first | trivial | rfl⟩
   simp [intOf]
 · simp only [vaS];go_wp2_with (go_at_call 208;(with_reducible refine HA.out.mono ?_);refine halt_ ?_)
   rintro e w2 ⟨rfl,rfl⟩;go_wp2_with fail
   go_roundw
   case rel=>exact ⟨4,by omega,rfl,rfl,rfl,by first | trivial | rfl⟩
   simp [intOf]
 simp only [vaS];go_wp2_with fail
 go_ret;exact ⟨rfl,by first | trivial | rfl⟩
end Go.Proofs.YtmiknfneeipkeaaGreat
namespace Go.Proofs.YtmiknfneeipkeaaGreat
open Go.RowKit Go.MapKept Go.ChangeMaps
attribute [local go_sem] wext_cell
abbrev vE3 (x:Int×Int×Int):Value:=vEg x.1 x.2.1 x.2.2
section
variable {b:Nat} {w0 w:World} {l:List Ob} {R:Value} {n:Int} {kb ml me mi ge:Nat} {a s bs:Int} {Le:List (ByteArray×(Int×Int×Int))}
set_option maxRecDepth 100000 in
set_option maxHeartbeats 8000000 in
theorem everyEdit_any (h:SW b w0 (mpOb okS kS vE3 me Le::l) w) (hk:cellOb kb 209 (ckC R n (.slice (some ⟨ge,0,none⟩) 1 1) ml me mi)∈l) (he:cellOb ge 100 (cEd a s bs)∈l) (hoe:∀ W,SW b w0 (mpOb okS kS vE3 me Le::l) W->Calls Tryz.prog 177 #[vPtr kb,vEg a s bs] W (fun e w'=>e= .returned (.int .i64 0)/\Below W.heap.size W w')):
 Calls Tryz.prog 133 #[vPtr kb] w (fun e w'=>e= .returned (.int .i64 0)/\SW b w0 (mpOb okS kS vE3 me (setL Le pA (a,s,bs))::l) w'):=by
 have S0:=hid h;have HKB:=hid (fun (W:World) (L2:List (ByteArray×(Int×Int×Int))) (hB:SW b w0 (mpOb okS kS vE3 me L2::l) W)=>(hB.1.holds (cellOb kb 209 (ckC R n (.slice (some ⟨ge,0,none⟩) 1 1) ml me mi)) (List.mem_cons_of_mem _ hk):IsB W kb 209 (ckC R n (.slice (some ⟨ge,0,none⟩) 1 1) ml me mi)));have HE:=hid (fun (W:World) (L2:List (ByteArray×(Int×Int×Int))) (hB:SW b w0 (mpOb okS kS vE3 me L2::l) W)=>(hB.1.holds (cellOb ge 100 (cEd a s bs)) (List.mem_cons_of_mem _ he):IsB W ge 100 (cEd a s bs)));have HOE:=hid hoe;clear h hk he hoe;have k5:w.cell? ⟨kb,5,none⟩=some (.slice (some ⟨ge,0,none⟩) 1 1):=(HKB.out w Le S0.out).cell 5;go_enter Tryz.func133,Tryz.ntmps133;go_wp2_with fail
 clear k5;go_loopw [3,13] (fun s3 s13 wr=>(s13= .int .i64 0/\s3= .string ⟨#[]⟩/\SW b w0 (mpOb okS kS vE3 me Le::l) wr)∨(s13= .int .i64 1/\SW b w0 (mpOb okS kS vE3 me (setL Le pA (a,s,bs))::l) wr)) (fun _ s13 _=>1-(intOf s13).toNat)
 case atStart=>exact .inl ⟨rfl,rfl,S0.out⟩
 rcases hrel with ⟨rfl,rfl,hs⟩ | ⟨rfl,hs⟩
 · have S1:=hid hs;clear hs S0;have c0:wr.cell? ⟨ge,0,none⟩=some (.string pA):=(HE.out wr Le S1.out).cell 0;have c1:wr.cell? ⟨ge,1,none⟩=some (.int .i64 a):=(HE.out wr Le S1.out).cell 1;have c2:wr.cell? ⟨ge,2,none⟩=some (.int .i64 1):=(HE.out wr Le S1.out).cell 2;have c3:wr.cell? ⟨ge,3,none⟩=some (.bool false):=(HE.out wr Le S1.out).cell 3;have c4:wr.cell? ⟨ge,4,none⟩=some (.bool false):=(HE.out wr Le S1.out).cell 4;have c5:wr.cell? ⟨ge,5,none⟩=some (.bool false):=(HE.out wr Le S1.out).cell 5;have c6:wr.cell? ⟨ge,6,none⟩=some (.int .u64 s):=(HE.out wr Le S1.out).cell 6;have c7:wr.cell? ⟨ge,7,none⟩=some (.int .i64 1):=(HE.out wr Le S1.out).cell 7;have c8:wr.cell? ⟨ge,8,none⟩=some (.int .i64 bs):=(HE.out wr Le S1.out).cell 8;have c9:wr.cell? ⟨ge,9,none⟩=some (.string ⟨#[]⟩):=(HE.out wr Le S1.out).cell 9;have c10:wr.cell? ⟨ge,10,none⟩=some (.int .i64 0):=(HE.out wr Le S1.out).cell 10;have c11:wr.cell? ⟨ge,11,none⟩=some (.int .i64 0):=(HE.out wr Le S1.out).cell 11;have HV:=hid (fun (W:World)=>valid_A W);have S2:=hid (S1.out.newCell 100 (cEd a s bs));go_upto_region 5 with fail
   obtain ⟨W2,HW⟩:∃ W2,Hid (wr.alloc (.cells (cEd a s bs) 100)=W2):=⟨_,rfl⟩;obtain ⟨g5,HG⟩:∃ g5,Hid (wr.heap.size=g5):=⟨_,rfl⟩;rw [HW.out,HG.out] at S2 |-; clear HW HG S1 c0 c1 c2 c3 c4 c5 c6 c7 c8 c9 c10 c11;have c0:W2.cell? ⟨g5,0,none⟩=some (.string pA):=(S2.out.cell 0 rfl).cell 0;have c1:W2.cell? ⟨g5,1,none⟩=some (.int .i64 a):=(S2.out.cell 0 rfl).cell 1;have c2:W2.cell? ⟨g5,2,none⟩=some (.int .i64 1):=(S2.out.cell 0 rfl).cell 2;have c3:W2.cell? ⟨g5,3,none⟩=some (.bool false):=(S2.out.cell 0 rfl).cell 3;have c4:W2.cell? ⟨g5,4,none⟩=some (.bool false):=(S2.out.cell 0 rfl).cell 4;have c5:W2.cell? ⟨g5,5,none⟩=some (.bool false):=(S2.out.cell 0 rfl).cell 5;have c6:W2.cell? ⟨g5,6,none⟩=some (.int .u64 s):=(S2.out.cell 0 rfl).cell 6;have c7:W2.cell? ⟨g5,7,none⟩=some (.int .i64 1):=(S2.out.cell 0 rfl).cell 7;have c8:W2.cell? ⟨g5,8,none⟩=some (.int .i64 bs):=(S2.out.cell 0 rfl).cell 8;have c9:W2.cell? ⟨g5,9,none⟩=some (.string ⟨#[]⟩):=(S2.out.cell 0 rfl).cell 9;have c10:W2.cell? ⟨g5,10,none⟩=some (.int .i64 0):=(S2.out.cell 0 rfl).cell 10;have c11:W2.cell? ⟨g5,11,none⟩=some (.int .i64 0):=(S2.out.cell 0 rfl).cell 11;go_wp2_with (go_at_call 176;(with_reducible refine (HV.out _).mono ?_);refine halt_ ?_)
   rintro e w3 ⟨rfl,rfl⟩;have HO2:=hid (HOE.out W2 S2.out.tail);go_wp2_with (go_at_call 177;(with_reducible refine HO2.out.mono ?_);refine halt_ ?_)
   rintro e w4 ⟨rfl,hb4⟩;have S3:=hid (S2.out.on hb4);clear hb4 HO2 HV S2 c0 c1 c2 c3 c4 c5 c6 c7 c8 c9 c10 c11;have c0:w4.cell? ⟨g5,0,none⟩=some (.string pA):=(S3.out.cell 0 rfl).cell 0;have c1:w4.cell? ⟨g5,1,none⟩=some (.int .i64 a):=(S3.out.cell 0 rfl).cell 1;have c2:w4.cell? ⟨g5,2,none⟩=some (.int .i64 1):=(S3.out.cell 0 rfl).cell 2;have c3:w4.cell? ⟨g5,3,none⟩=some (.bool false):=(S3.out.cell 0 rfl).cell 3;have c4:w4.cell? ⟨g5,4,none⟩=some (.bool false):=(S3.out.cell 0 rfl).cell 4;have c5:w4.cell? ⟨g5,5,none⟩=some (.bool false):=(S3.out.cell 0 rfl).cell 5;have c6:w4.cell? ⟨g5,6,none⟩=some (.int .u64 s):=(S3.out.cell 0 rfl).cell 6;have c7:w4.cell? ⟨g5,7,none⟩=some (.int .i64 1):=(S3.out.cell 0 rfl).cell 7;have c8:w4.cell? ⟨g5,8,none⟩=some (.int .i64 bs):=(S3.out.cell 0 rfl).cell 8;have c9:w4.cell? ⟨g5,9,none⟩=some (.string ⟨#[]⟩):=(S3.out.cell 0 rfl).cell 9;have c10:w4.cell? ⟨g5,10,none⟩=some (.int .i64 0):=(S3.out.cell 0 rfl).cell 10;have c11:w4.cell? ⟨g5,11,none⟩=some (.int .i64 0):=(S3.out.cell 0 rfl).cell 11;have k8:w4.cell? ⟨kb,8,none⟩=some (.map (some me)):=(HKB.out w4 Le S3.out.tail).cell 8;obtain ⟨w5,hu,hm5,hg5,hz5⟩:=MapIs.update mkS Tryz.underlying206 ((S3.out.drew).get 1 (o:=mpOb okS kS vE3 me Le) rfl) okS_pA (a,s,bs)
   have hu':(Instr.mapUpdate 206 (.map (some me)) (.string pA) (.agg #[.string pA,.int .i64 a,.int .i64 1,.bool false,.bool false,.bool false,.int .u64 s,.int .i64 1,.int .i64 bs,.string ⟨#[]⟩,.int .i64 0,.int .i64 0]) ).run Tryz.prog w4.drew= .ok () w5:=hu;have S4:=hid ((S3.out.drew).updMp 1 rfl hm5 hg5);have k0:w5.cell? ⟨g5,0,none⟩=some (.string pA):=(S4.out.cell 0 rfl).cell 0;clear hu hm5 hg5 hz5 S3;go_wp2_with fail
   go_region
   go_wp2_with fail
   go_roundw
   case rel=>exact .inr ⟨by go_num,S4.out.tail⟩
   simp [intOf]
 have S1:=hid hs;clear hs S0;go_wp2_with fail
 go_ret;exact ⟨rfl,S1.out⟩
end
end Go.Proofs.YtmiknfneeipkeaaGreat
namespace Go.Proofs.YtmiknfneeipkeaaGreat
open Go.RowKit Go.MapKept Go.ChangeMaps
attribute [local go_sem] wext_cell
section
variable {b:Nat} {w0 w:World} {l:List Ob} {A:Option Addr} {m cm:Nat} {n:Int} {kb ml me mi ge:Nat} {a s bs:Int}
set_option maxRecDepth 100000 in
set_option maxHeartbeats 8000000 in
theorem moves_any (h:SW b w0 l w) (hk:cellOb kb 209 (ckC (.slice A m cm) n (.slice (some ⟨ge,0,none⟩) 1 1) ml me mi)∈l) (he:cellOb ge 100 (cEd a s bs)∈l) (h4:a≠4) (h5:a≠5):Calls Tryz.prog 134 #[vPtr kb] w (fun e w'=>e= .returned (.int .i64 0)/\Below w.heap.size w w'):=by
 have HKB:=hid (fun (W:World) (hB:Below w.heap.size w W)=>((h.on hB).1.holds (cellOb kb 209 (ckC (.slice A m cm) n (.slice (some ⟨ge,0,none⟩) 1 1) ml me mi)) hk:IsB W kb 209 (ckC (.slice A m cm) n (.slice (some ⟨ge,0,none⟩) 1 1) ml me mi)));have HE:=hid (fun (W:World) (hB:Below w.heap.size w W)=>((h.on hB).1.holds (cellOb ge 100 (cEd a s bs)) he:IsB W ge 100 (cEd a s bs)));have h4':(a==4)=false:=by simpa using h4
 have h5':(a==5)=false:=by simpa using h5
 have HB0:Hid (Below w.heap.size w (w.alloc (.map #[] 0))):=(Below.refl _ _).alloc (Nat.le_refl _) _;clear h hk he h4 h5;have hmk:(Instr.makeMap 255 none).run Tryz.prog w= .ok (.map (some w.heap.size)) (w.alloc (.map #[] 0)):=by simp [Instr.makeMap,run_underlying Tryz.underlying255]
 go_enter Tryz.func134,Tryz.ntmps134;go_upto_region 2 with fail
 obtain ⟨W1,HW⟩:∃ W1,Hid (w.alloc (.map #[] 0)=W1):=⟨_,rfl⟩;rw [HW.out] at HB0 |-; clear HW hmk;have k5:W1.cell? ⟨kb,5,none⟩=some (.slice (some ⟨ge,0,none⟩) 1 1):=(HKB.out W1 HB0.out).cell 5;go_wp2_with fail
 clear k5;go_loopw [15] (fun s15 wr=>(s15= .int .i64 0∨s15= .int .i64 1)/\Below w.heap.size w wr) (fun s15 _=>1-(intOf s15).toNat)
 case atStart=>exact ⟨.inl rfl,HB0.out⟩
 rcases hrel with ⟨rfl | rfl,hb⟩
 · have B1:=hid hb;clear hb HB0;have c0:wr.cell? ⟨ge,0,none⟩=some (.string pA):=(HE.out wr B1.out).cell 0;have c1:wr.cell? ⟨ge,1,none⟩=some (.int .i64 a):=(HE.out wr B1.out).cell 1;have c2:wr.cell? ⟨ge,2,none⟩=some (.int .i64 1):=(HE.out wr B1.out).cell 2;have c3:wr.cell? ⟨ge,3,none⟩=some (.bool false):=(HE.out wr B1.out).cell 3;have c4:wr.cell? ⟨ge,4,none⟩=some (.bool false):=(HE.out wr B1.out).cell 4;have c5:wr.cell? ⟨ge,5,none⟩=some (.bool false):=(HE.out wr B1.out).cell 5;have c6:wr.cell? ⟨ge,6,none⟩=some (.int .u64 s):=(HE.out wr B1.out).cell 6;have c7:wr.cell? ⟨ge,7,none⟩=some (.int .i64 1):=(HE.out wr B1.out).cell 7;have c8:wr.cell? ⟨ge,8,none⟩=some (.int .i64 bs):=(HE.out wr B1.out).cell 8;have c9:wr.cell? ⟨ge,9,none⟩=some (.string ⟨#[]⟩):=(HE.out wr B1.out).cell 9;have c10:wr.cell? ⟨ge,10,none⟩=some (.int .i64 0):=(HE.out wr B1.out).cell 10;have c11:wr.cell? ⟨ge,11,none⟩=some (.int .i64 0):=(HE.out wr B1.out).cell 11;go_wp2_with fail
   go_roundw
   case rel=>exact ⟨.inr (by go_num),B1.out.alloc B1.out.size _⟩
   simp [intOf]
 have B1:=hid hb;clear hb HB0;rename World=>wy;have k5:wy.cell? ⟨kb,5,none⟩=some (.slice (some ⟨ge,0,none⟩) 1 1):=(HKB.out wy B1.out).cell 5;go_wp2_with fail
 clear k5;go_loopw [34] (fun s34 wr=>(s34= .int .i64 0∨s34= .int .i64 1)/\Below w.heap.size w wr) (fun s34 _=>1-(intOf s34).toNat)
 case atStart=>exact ⟨.inl rfl,B1.out⟩
 rcases hrel with ⟨rfl | rfl,hb⟩
 · have B2:=hid hb;clear hb B1;have c0:wr.cell? ⟨ge,0,none⟩=some (.string pA):=(HE.out wr B2.out).cell 0;have c1:wr.cell? ⟨ge,1,none⟩=some (.int .i64 a):=(HE.out wr B2.out).cell 1;have c2:wr.cell? ⟨ge,2,none⟩=some (.int .i64 1):=(HE.out wr B2.out).cell 2;have c3:wr.cell? ⟨ge,3,none⟩=some (.bool false):=(HE.out wr B2.out).cell 3;have c4:wr.cell? ⟨ge,4,none⟩=some (.bool false):=(HE.out wr B2.out).cell 4;have c5:wr.cell? ⟨ge,5,none⟩=some (.bool false):=(HE.out wr B2.out).cell 5;have c6:wr.cell? ⟨ge,6,none⟩=some (.int .u64 s):=(HE.out wr B2.out).cell 6;have c7:wr.cell? ⟨ge,7,none⟩=some (.int .i64 1):=(HE.out wr B2.out).cell 7;have c8:wr.cell? ⟨ge,8,none⟩=some (.int .i64 bs):=(HE.out wr B2.out).cell 8;have c9:wr.cell? ⟨ge,9,none⟩=some (.string ⟨#[]⟩):=(HE.out wr B2.out).cell 9;have c10:wr.cell? ⟨ge,10,none⟩=some (.int .i64 0):=(HE.out wr B2.out).cell 10;have c11:wr.cell? ⟨ge,11,none⟩=some (.int .i64 0):=(HE.out wr B2.out).cell 11;go_wp2_with fail
   go_roundw
   case rel=>exact ⟨.inr (by go_num),B2.out.alloc B2.out.size _⟩
   simp [intOf]
 go_wp2_with fail
 go_ret;exact ⟨rfl,hb⟩
set_option maxRecDepth 100000 in
set_option maxHeartbeats 8000000 in
theorem records_any (h:SW b w0 l w) (hk:cellOb kb 209 (ckC (.slice A m cm) n (.slice (some ⟨ge,0,none⟩) 1 1) ml me mi)∈l):Calls Tryz.prog 135 #[vPtr kb] w (fun e w'=>e= .returned (.int .i64 0)/\Below w.heap.size w w'):=by
 have HKB:=hid (fun (W:World) (hB:Below w.heap.size w W)=>((h.on hB).1.holds (cellOb kb 209 (ckC (.slice A m cm) n (.slice (some ⟨ge,0,none⟩) 1 1) ml me mi)) hk:IsB W kb 209 (ckC (.slice A m cm) n (.slice (some ⟨ge,0,none⟩) 1 1) ml me mi)));have HB0:Hid (Below w.heap.size w (w.alloc (.map #[] 0))):=(Below.refl _ _).alloc (Nat.le_refl _) _;clear h hk;have hmk:(Instr.makeMap 256 none).run Tryz.prog w= .ok (.map (some w.heap.size)) (w.alloc (.map #[] 0)):=by simp [Instr.makeMap,run_underlying Tryz.underlying256]
 go_enter Tryz.func135,Tryz.ntmps135;go_upto_region 2 with fail
 obtain ⟨W1,HW⟩:∃ W1,Hid (w.alloc (.map #[] 0)=W1):=⟨_,rfl⟩;rw [HW.out] at HB0 |-; clear HW hmk;have k6:W1.cell? ⟨kb,6,none⟩=some (.slice none 0 0):=(HKB.out W1 HB0.out).cell 6;go_wp2_with fail
 clear k6;go_loopw [15] (fun s15 wr=>s15= .int .i64 0/\Below w.heap.size w wr) (fun s15 _=>0)
 case atStart=>exact ⟨rfl,HB0.out⟩
 obtain ⟨rfl,hb⟩:=hrel;have B1:=hid hb;clear hb HB0;rename World=>wy;have k6:wy.cell? ⟨kb,6,none⟩=some (.slice none 0 0):=(HKB.out wy B1.out).cell 6;go_wp2_with fail
 clear k6;go_loopw [32] (fun s32 wr=>s32= .int .i64 0/\Below w.heap.size w wr) (fun s32 _=>0)
 case atStart=>exact ⟨rfl,B1.out⟩
 obtain ⟨rfl,hb⟩:=hrel;go_wp2_with fail
 go_ret;exact ⟨rfl,hb⟩
set_option maxRecDepth 100000 in
set_option maxHeartbeats 8000000 in
theorem room_any (h:SW b w0 l w) (hk:cellOb kb 209 (ckC (.slice A m cm) n (.slice (some ⟨ge,0,none⟩) 1 1) ml me mi)∈l) (hm:m<=100):Calls Tryz.prog 136 #[vPtr kb] w (fun e w'=>e= .returned (.int .i64 0)/\Below w.heap.size w w'):=by
 have HKB:=hid (fun (W:World) (hB:Below w.heap.size w W)=>((h.on hB).1.holds (cellOb kb 209 (ckC (.slice A m cm) n (.slice (some ⟨ge,0,none⟩) 1 1) ml me mi)) hk:IsB W kb 209 (ckC (.slice A m cm) n (.slice (some ⟨ge,0,none⟩) 1 1) ml me mi)));clear h hk;have k0:w.cell? ⟨kb,0,none⟩=some (.slice A m cm):=(HKB.out w (Below.refl _ _)).cell 0;have k1:w.cell? ⟨kb,1,none⟩=some (.slice none 0 0):=(HKB.out w (Below.refl _ _)).cell 1;have k5:w.cell? ⟨kb,5,none⟩=some (.slice (some ⟨ge,0,none⟩) 1 1):=(HKB.out w (Below.refl _ _)).cell 5;have k6:w.cell? ⟨kb,6,none⟩=some (.slice none 0 0):=(HKB.out w (Below.refl _ _)).cell 6;have hkb:=(HKB.out w (Below.refl _ _)).lt;have hd:decide ((512:Int)<(m:Int)+1)=false:=decide_eq_false (by omega);clear HKB;go_enter Tryz.func136,Tryz.ntmps136;go_upto_region 1 with fail
 refine wp_region_ext (by kernel_rfl) (by kernel_rfl) ?_;repeat (go_big_quiet_step (fail))
 refine wpQuiet_nil ?_;intro w1 hb1;clear k0 k1 k5 k6 hkb;go_wp2_with fail
 go_ret;exact ⟨rfl,hb1⟩
end
end Go.Proofs.YtmiknfneeipkeaaGreat
namespace Go.Proofs.YtmiknfneeipkeaaGreat
open Go.RowKit Go.MapKept Go.ChangeMaps
attribute [local go_sem] wext_cell
def lastL (j:Nat):List (ByteArray×Int):=if j=0 then [] else [(pA,(j:Int))]
def linL (j:Nat):List (Fi×Fi):=(List.range j).map (fun i:Nat=>((pA,(i:Int)+1),(pA,(1:Int))))
theorem lastL_set (j:Nat):setL (lastL j) pA ((j:Int)+1)=lastL (j+1):=by
 unfold lastL;by_cases h:j=0
 · subst h;rfl
 rw [if_neg h,if_neg (by omega)];simp [setL]
theorem lastL_asc (j:Nat):asc (lastL j) pA=if j=0 then none else some (j:Int):=by
 unfold lastL;split<;>simp [asc]
theorem linL_key {j:Nat} {f:Fi} (h:f∈(linL j).map (·.1)):∃ i:Nat,i<j/\f=(pA,(i:Int)+1):=by
 unfold linL at h;rw [List.map_map] at h;obtain ⟨i,hi,rfl⟩:=List.mem_map.1 h;exact ⟨i,List.mem_range.1 hi,rfl⟩
theorem linL_set (j:Nat):setL (linL j) (pA,(j:Int)+1) (pA,1)=linL (j+1):=by
 rw [setL_none (fun c hc e=>by
  obtain ⟨i,hi,e2⟩:=linL_key (List.mem_map.2 ⟨c,hc,e⟩);injection e2 with _ e2;omega)]
 unfold linL;rw [List.range_succ,List.map_append];rfl
theorem linL_asc {j i:Nat} (h:i<j):asc (linL j) (pA,(i:Int)+1)=some (pA,1):=by
 induction j with
 | zero=>omega
 | succ j ih=>
  rw [<- linL_set,asc_setL];by_cases e:i=j
  · subst e;simp
  rw [if_neg (fun e2=>by injection e2 with _ e2;omega)];exact ih (by omega)
section
variable {b:Nat} {w0 w:World} {l:List Ob} {Rv Ev:Value} {A:Option Addr} {m cm:Nat} {n:Int} {kb ml me mi:Nat} {a c s N:Int} {L:List (Fi×Fi)}
theorem lineOf_addH (kb:Nat) (w:World):Calls Tryz.prog 131 #[vPtr kb,vRh N c 1 s] w (fun e w'=>e= .returned (vF (pA,N))/\Below w.heap.size w w'):=by
 go_enter Tryz.func131,Tryz.ntmps131;go_wp2_with fail
 refine bodyPost_ret (v:=vF (pA,N)) ?_ rfl ⟨rfl,((Below.refl _ _).alloc (Nat.le_refl _) _).alloc (by simp) _⟩;simp [results,Tryz.results131,go_sem]
theorem lineOf_editH (h:SW b w0 l w) (hk:cellOb kb 209 (ckC Rv n Ev ml me mi)∈l) (hm:mpOb okF vF vF mi L∈l) (hi:okF (pA,N-1)) (ha:asc L (pA,N-1)=some (pA,1)) (h1: -9223372036854775807<=N) (h2:N<=9223372036854775807):Calls Tryz.prog 131 #[vPtr kb,vRh N c 2 s] w (fun e w'=>e= .returned (vF (pA,1))/\Below w.heap.size w w'):=by
 have hkb:IsB w kb 209 (ckC Rv n Ev ml me mi):=h.1.holds (cellOb kb 209 (ckC Rv n Ev ml me mi)) hk;have k9:w.cell? ⟨kb,9,none⟩=some (.map (some mi)):=hkb.cell 9;have hlt:=hkb.lt;have HL:=hid (look_F (h.1.holds (mpOb okF vF vF mi L) hm) hi ha);clear h hk hm hkb hi ha;go_enter Tryz.func131,Tryz.ntmps131;go_upto_region 6 with fail
 generalize hW:(w.alloc _).alloc _=W1;have hb:Below w.heap.size w W1:=by rw [<- hW];exact ((Below.refl _ _).alloc (Nat.le_refl _) _).alloc (by simp) _
 have c0:W1.cell? ⟨w.heap.size,0,none⟩=some (.string pA):=by rw [<- hW];simp [go_sem]
 have c1:W1.cell? ⟨w.heap.size,1,none⟩=some (.int .i64 N):=by rw [<- hW];simp [go_sem]
 have d0:W1.cell? ⟨w.heap.size+1,0,none⟩=some (.string ⟨#[]⟩):=by rw [<- hW];simp [go_sem]
 have d1:W1.cell? ⟨w.heap.size+1,1,none⟩=some (.int .i64 0):=by rw [<- hW];simp [go_sem]
 have f0:W1.frozen? ⟨w.heap.size+1,0,none⟩=false:=by rw [<- hW];simp [go_sem]
 have f1:W1.frozen? ⟨w.heap.size+1,1,none⟩=false:=by rw [<- hW];simp [go_sem]
 have k9:W1.cell? ⟨kb,9,none⟩=some (.map (some mi)):=by rw [<- hW];simp [go_sem,hlt,k9]
 have hl0:(Instr.lookup 207 (.map (some mi)) (.agg #[.string pA,.int .i64 (N-1)]) false).run Tryz.prog W1.drew= .ok (vF (pA,1)) W1.drew:=HL.out W1.drew hb.drew;have HB:=hid hb;clear HL hW hb;go_wp2_with fail
 go_region
 go_wp2_with fail
 refine bodyPost_ret (v:=vF (pA,1)) ?_ rfl ⟨rfl,((HB.out.setCell (by simp) _).setCell (by simp) _).drew⟩;simp [results,Tryz.results131,go_sem,d0,d1,f0,f1]
end
end Go.Proofs.YtmiknfneeipkeaaGreat
