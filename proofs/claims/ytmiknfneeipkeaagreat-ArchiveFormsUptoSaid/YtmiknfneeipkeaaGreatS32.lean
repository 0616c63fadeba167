/- Contracts of the walk, part 32. -/
import Derived.Test.YtmiknfneeipkeaaGreatS19
import Derived.Test.YtmiknfneeipkeaaGreatS03
import Derived.Test.YtmiknfneeipkeaaGreatS22
import Derived.Test.YtmiknfneeipkeaaGreatS26
import Derived.Test.YtmiknfneeipkeaaGreatS27
import Derived.Test.YtmiknfneeipkeaaGreatS04
open Go.Lib (hid)
namespace Go.Proofs.YtmiknfneeipkeaaGreat
open Go.RowKit Go.MapKept Go.ChangeMaps Go.Shelf Go.Sort
attribute [local go_sem] wext_cell
section
variable {b:Nat} {w0 w w':World} {l:List Ob}
abbrev RigP (T:List CH) (i:ID) (b:Nat) (w0:World) (l:List Ob) (e:Ending) (w':World):Prop:=
 (∃ x,firstR T i=some x/\e= .returned (.tuple #[.slice x.2.d.A x.2.bs.length x.2.d.cap,.bool true])/\SW b w0 l w')∨
 (firstR T i=none/\e= .returned (.tuple #[.slice none 0 0,.bool false])/\SW b w0 l w')
set_option maxRecDepth 100000 in
set_option maxHeartbeats 8000000 in
theorem rFind_any (h:SW b w0 l w) {C:Option Addr} {T:List CH} (hc:cxOb C T∈l) (hTn:T.length<=9223372036854775807) (hTb:∀ e∈T,e.2.bs.length<=1099511627776) (i1 i2:Int) (c:Nat):
 Calls Tryz.prog 47 #[.slice C T.length c,.agg #[.int .u64 i1,.int .i64 i2]] w (RigP T (i1,i2) b w0 l):=by
 have HC:=hid hc;have HB:=hid hTb;have S0:=hid (h.newCell 36 #[.int .u64 i1,.int .i64 i2]);clear h hc hTb;go_enter Tryz.func47,Tryz.ntmps47;go_upto_region 1 with fail
 obtain ⟨w1,HW⟩:∃ W,Hid (w.alloc (.cells #[.int .u64 i1,.int .i64 i2] 36)=W):=⟨_,rfl⟩;obtain ⟨gX,HGX⟩:∃ x,Hid (w.heap.size=x):=⟨_,rfl⟩;rw [HW.out,HGX.out] at S0 |-; clear HW HGX;go_wp2_with fail
 go_loopw [6] (fun s6 wr=>∃ (k:Nat),k<=T.length/\s6= .int .i64 (k:Int)/\Hid (firstR (T.take k) (i1,i2)=none)/\SW b w0 (cellOb gX 36 #[.int .u64 i1,.int .i64 i2]::l) wr) (fun s6 _=>T.length-(intOf s6).toNat)
 case atStart=>exact ⟨0,Nat.zero_le _,by first | rfl | trivial,by first | rfl | trivial,S0.out⟩
 obtain ⟨k,hk,rfl,HN,hs⟩:=hrel;have S1:=hid hs;clear hs S0;by_cases hlt:k<T.length
 · obtain ⟨⟨⟨x1,x2⟩,e⟩,hte⟩:∃ e,T.getD k ch0=e:=⟨_,rfl⟩;have HTK:Hid (T.take (k+1)=T.take k++[((x1,x2),e)]):=by rw [Hid,take_snoc _ ch0 _ hlt,hte]
   have hm0:((x1,x2),e)∈T:=by rw [<- hte];exact getD_mem _ _ _ hlt
   obtain ⟨gT,o,rfl,hgT,c0,c1,c2,hbs⟩:=cx_at (S1.out.1.holds _ (.tail _ HC.out)) hlt hte;have HOF:=hid (fun (W:World) (hb:Below wr.heap.size wr W)=>rOf_any e.d.A e.d.cap e.bs W (hbs.1.on hb) (HB.out _ hm0));obtain ⟨f1,f2,HF⟩:∃ f1 f2,Hid (fpOf e.bs=(f1,f2)):=⟨_,_,rfl⟩;rw [HF.out] at HOF;have HM0:=hid hm0;have b0:=(S1.out.cell 0 rfl).cell 0;have b1:=(S1.out.cell 0 rfl).cell 1;have hlX:=(S1.out.cell 0 rfl).lt;have HTE:=hid hte;clear hbs hte hm0;by_cases h1:x1=i1
   · have h1:=h1.symm;subst h1;by_cases h2:x2=i2
     · have h2:=h2.symm;subst h2;by_cases h3:f1=i1
       · have h3:=h3.symm;subst h3;by_cases h4:f2=i2
         · have h4:=h4.symm;subst h4
           have HYES:Hid (firstR T (i1,i2)=some ((i1,i2),e)):=by
            have e1:T=T.take (k+1)++T.drop (k+1):=(List.take_append_drop _ _).symm
            have hf:firstR (T.take (k+1)) (i1,i2)=some ((i1,i2),e):=by
             have hd:rightB (i1,i2) ((i1,i2),e)=true:=by
              rw [rightB,decide_eq_true_eq];exact ⟨rfl,HF.out⟩
             rw [HTK.out,firstR_snoc,HN.out,hd];rfl
            rw [Hid,e1,firstR,List.find?_append];rw [firstR] at hf;rw [hf];rfl
           go_wp2_with fail
           refine wp_region_ext (by kernel_rfl) (by kernel_rfl) ?_;repeat (go_big_quiet_step ((go_at_call 70;exact ext_call (HOF.out _ (wext_below _)))))
           refine wpQuiet_nil ?_;intro w4 hb4;have S3:=hid (S1.out.on hb4);clear hb4 S1 b0 b1 c0 c1 c2 hlX hgT HOF;obtain ⟨gT',o',e7,hgT,c0,c1,c2,hbs⟩:=cx_at (S3.out.1.holds _ (.tail _ HC.out)) hlt HTE.out;injection e7 with e7;injection e7 with e7 e8 _;subst e7 e8;clear hbs;go_wp2_with fail
           go_ret2;exact .inl ⟨_,HYES.out,rfl,S3.out.tail⟩
         have hne:(f2==i2)=false:=by rw [beq_eq_false_iff_ne];exact h4
         have HNX:Hid (firstR (T.take (k+1)) (i1,i2)=none):=by
          have hd:rightB (i1,i2) ((i1,i2),e)=false:=by
           rw [rightB,decide_eq_false_iff_not];exact fun h=>h4 (congrArg Prod.snd (HF.out.symm.trans h.2))
          rw [Hid,HTK.out,firstR_snoc,HN.out,hd];rfl
         go_wp2_with fail
         refine wp_region_ext (by kernel_rfl) (by kernel_rfl) ?_;repeat (go_big_quiet_step ((go_at_call 70;exact ext_call (HOF.out _ (wext_below _)))))
         refine wpQuiet_nil ?_;intro w4 hb4;have S3:=hid (S1.out.on hb4);clear hb4 S1 b0 b1 c0 c1 c2 hlX hgT HOF;go_wp2_with fail
         go_roundw
         case rel=>exact ⟨k+1,by omega,by go_num,HNX.out,S3.out⟩
         simp [intOf];omega
       have hne:(f1==i1)=false:=by rw [beq_eq_false_iff_ne];exact h3
       have HNX:Hid (firstR (T.take (k+1)) (i1,i2)=none):=by
        have hd:rightB (i1,i2) ((i1,i2),e)=false:=by
         rw [rightB,decide_eq_false_iff_not];exact fun h=>h3 (congrArg Prod.fst (HF.out.symm.trans h.2))
        rw [Hid,HTK.out,firstR_snoc,HN.out,hd];rfl
       go_wp2_with fail
       refine wp_region_ext (by kernel_rfl) (by kernel_rfl) ?_;repeat (go_big_quiet_step ((go_at_call 70;exact ext_call (HOF.out _ (wext_below _)))))
       refine wpQuiet_nil ?_;intro w4 hb4;have S3:=hid (S1.out.on hb4);clear hb4 S1 b0 b1 c0 c1 c2 hlX hgT HOF;go_wp2_with fail
       go_roundw
       case rel=>exact ⟨k+1,by omega,by go_num,HNX.out,S3.out⟩
       simp [intOf];omega
     have hne:(x2==i2)=false:=by rw [beq_eq_false_iff_ne];exact h2
     have HNX:Hid (firstR (T.take (k+1)) (i1,i2)=none):=by
      have hd:rightB (i1,i2) ((i1,x2),e)=false:=by
       rw [rightB,decide_eq_false_iff_not];exact fun h=>h2 (congrArg Prod.snd h.1)
      rw [Hid,HTK.out,firstR_snoc,HN.out,hd];rfl
     go_wp2_with fail
     refine wp_region_ext (by kernel_rfl) (by kernel_rfl) ?_;repeat (go_big_quiet_step (fail))
     refine wpQuiet_nil ?_;intro w4 hb4;have S3:=hid (S1.out.on hb4);clear hb4 S1 b0 b1 c0 c1 c2 hlX hgT HOF;go_wp2_with fail
     go_roundw
     case rel=>exact ⟨k+1,by omega,by go_num,HNX.out,S3.out⟩
     simp [intOf];omega
   have hne:(x1==i1)=false:=by rw [beq_eq_false_iff_ne];exact h1
   have HNX:Hid (firstR (T.take (k+1)) (i1,i2)=none):=by
    have hd:rightB (i1,i2) ((x1,x2),e)=false:=by
     rw [rightB,decide_eq_false_iff_not];exact fun h=>h1 (congrArg Prod.fst h.1)
    rw [Hid,HTK.out,firstR_snoc,HN.out,hd];rfl
   go_wp2_with fail
   refine wp_region_ext (by kernel_rfl) (by kernel_rfl) ?_;repeat (go_big_quiet_step (fail))
   refine wpQuiet_nil ?_;intro w4 hb4;have S3:=hid (S1.out.on hb4);clear hb4 S1 b0 b1 c0 c1 c2 hlX hgT HOF;go_wp2_with fail
   go_roundw
   case rel=>exact ⟨k+1,by omega,by go_num,HNX.out,S3.out⟩
   simp [intOf];omega
 obtain rfl:k=T.length:=by omega
 rw [List.take_length] at HN;go_wp2_with fail
 go_ret2;exact .inr ⟨HN.out,rfl,S1.out.tail⟩
end
end Go.Proofs.YtmiknfneeipkeaaGreat
namespace Go.Proofs.YtmiknfneeipkeaaGreat
open Go.RowKit Go.MapKept Go.ChangeMaps
theorem one_new (w:World) (x:Nat) (hx:x<256) (v:Int) (hv:v=(x:Int)):Buf w (w.alloc (.cells #[.int .u8 v] 5)) ⟨some ⟨w.heap.size,0,none⟩,1,1⟩ [UInt8.ofNat x]:=by
 subst hv
 have hc:[UInt8.ofNat x].map encU=(#[.int .u8 (x:Int)]:Array Value).toList:=by
  have h:(((UInt8.ofNat x).toNat:Nat):Int)=(x:Int):=by
   rw [UInt8.toNat_ofNat'];omega
  simp only [List.map_cons,List.map_nil,encU,h]
 exact ⟨new_bytes w #[.int .u8 (x:Int)] _ _ _ _ rfl rfl (by decide) (by simp) (by rw [hc];simp),(fun g hg=>by simp [blk] at hg;omega),(Below.refl _ _).alloc (Nat.le_refl _) _⟩
set_option maxRecDepth 100000 in
set_option maxHeartbeats 4000000 in
theorem rUint_any (v:Nat):∀ (w:World),v<18446744073709551616->Calls Tryz.prog 48 #[.int .u64 (v:Int)] w (NewB (putU v) w):=by
 induction v using Nat.strongRecOn with
 | ind v ih=>
  intro w hv;have IH:=hid ih;clear ih;by_cases h:v<128
  · have HP:Hid (putU v=[UInt8.ofNat v]):=by rw [Hid,putU,dif_pos h]
    go_enter Tryz.func48,Tryz.ntmps48;go_wp2_with fail
    go_ret;have h1:=one_new w v (by omega) (v:Int) rfl;exact ⟨⟨_,1,1⟩,rfl,by rw [HP.out];exact h1.rb,h1.nw,h1.bl⟩
  have HP:Hid (putU v=UInt8.ofNat (v % 128+128)::putU (v / 128)):=by rw [Hid,putU,dif_neg h]
  have HU:Hid (∀ W,Calls Tryz.prog 48 #[.int .u64 ((v:Int) / 128)] W (NewB (putU (v / 128)) W)):=fun W=>by
   have h1:=IH.out (v / 128) (by omega) W (by omega);rw [show ((v / 128:Nat):Int)=(v:Int) / 128 by omega] at h1;exact h1
  have B0:=hid (one_new w (v % 128+128) (by omega) ((v:Int) % 128+128) (by omega));have HL:Hid ((putU (v / 128)).length<=10):=putU_len (k:=9) (by omega);clear IH;go_enter Tryz.func48,Tryz.ntmps48;go_wp2_with (go_at_call 48;(with_reducible refine (HU.out _).mono ?_);refine halt_ ?_)
  rintro e1 w1 ⟨d1,rfl,hr1,hn1,hb1⟩;have B1:=hid (B0.out.on hb1);have R1:=hid hr1;clear B0 hr1 hn1 hb1 HU;unfold vB;go_wp2_with (at_builtin;refine halt_q ?_)
  refine wpList_buf B1.out rfl _ _ rfl rfl d1.A d1.len d1.cap (putU (v / 128)) rfl R1.out.1 R1.out.src (by rw [<- R1.out.1];have:=HL.out;simp only [List.length_singleton];omega) ?_;intro d2 w2 b2;have B2:=hid b2;clear b2 B1 R1;unfold vB;go_wp2_with fail
  go_ret;exact ⟨d2,rfl,by rw [HP.out];exact B2.out.rb,B2.out.nw,B2.out.bl⟩
end Go.Proofs.YtmiknfneeipkeaaGreat
namespace Go.Proofs.YtmiknfneeipkeaaGreat
open Go.RowKit Go.MapKept Go.ChangeMaps Go.Shelf Go.Sort
attribute [local go_sem] wext_cell
set_option maxRecDepth 100000 in
set_option maxHeartbeats 4000000 in
theorem rFrame_any (e:BS) (w:World) (h:BSok w e) (hn:e.bs.length<=8192):
 Calls Tryz.prog 30 #[.agg #[.int .u64 ((fpSum e.bs:Nat):Int),.int .i64 ((e.bs.length:Nat):Int),.slice e.d.A e.bs.length e.d.cap]] w (NewB (frameP (((fpSum e.bs:Nat),(e.bs.length:Nat)),e)) w):=by
 have S0:=hid ((SW.refl (Sep.nil w (Nat.le_refl _))).newCell 42 #[.int .u64 ((fpSum e.bs:Nat):Int),.int .i64 ((e.bs.length:Nat):Int),.slice e.d.A e.bs.length e.d.cap]);have H:=hid h.1;have HU1:=hid (fun W=>rUint_any e.bs.length W (by omega));have HU2:=hid (fun W=>rUint_any (fpSum e.bs) W (by have:=fpSum_lt e.bs;unfold pP at this;omega));clear h;go_enter Tryz.func30,Tryz.ntmps30;go_upto_region 1 with fail
 obtain ⟨wa,HW⟩:∃ W,Hid (w.alloc (.cells #[.int .u64 ((fpSum e.bs:Nat):Int),.int .i64 ((e.bs.length:Nat):Int),.slice e.d.A e.bs.length e.d.cap] 42)=W):=⟨_,rfl⟩;obtain ⟨gX,HGX⟩:∃ x,Hid (w.heap.size=x):=⟨_,rfl⟩;rw [HW.out] at S0 |-; rw [HGX.out] at S0 |-; have b1:=(S0.out.cell 0 rfl).cell 1;have hlX:=(S0.out.cell 0 rfl).lt;have S1:=hid (S0.out.newX #[.int .u8 1] (0,0) [1] 1 rfl (by decide) rfl);clear HW S0;go_wp2_with (go_at_call 48;(with_reducible refine (HU1.out _).mono ?_);refine halt_ ?_)
 rintro e1 w1 ⟨d1,rfl,hr1,_,hb1⟩;have S2:=hid (S1.out.on hb1);have R1:=hid hr1;clear hr1 hb1 S1 b1 HU1;unfold vB;go_wp2_with (at_builtin;refine halt_q ?_)
 refine wpList_bufX S2.out rfl _ _ rfl rfl d1.A d1.len d1.cap (putU e.bs.length) rfl R1.out.1 (by rw [<- R1.out.1];exact putU_pos _) R1.out.src (by rw [<- R1.out.1];have:=putU_ten (v:=e.bs.length) (by omega);simp only [List.length_singleton];omega) ?_;intro d2 w2 s2;have S3:=hid s2;have f0:=(S3.out.cell 1 rfl).cell 0;clear s2 S2 R1;unfold vB;go_wp2_with (go_at_call 48;(with_reducible refine (HU2.out _).mono ?_);refine halt_ ?_)
 rintro e2 w3 ⟨d3,rfl,hr3,_,hb3⟩;have S4:=hid (S3.out.on hb3);have R3:=hid hr3;clear hr3 hb3 S3 f0;unfold vB;go_wp2_with (at_builtin;refine halt_q ?_)
 refine wpList_bufS S4.out rfl _ _ rfl rfl d3.A d3.len d3.cap (putU (fpSum e.bs)) rfl R3.out.1 R3.out.src (by rw [<- R3.out.1];have h1:=putU_ten (v:=e.bs.length) (by omega);have h2:=putU_ten (v:=fpSum e.bs) (by have:=fpSum_lt e.bs;unfold pP at this;omega);simp only [List.length_append,List.length_singleton];omega) ?_;intro d4 w4 s4;have S5:=hid s4;have f2:=(S5.out.cell 1 rfl).cell 2;have H5:=hid (H.out.on (by rw [HGX.out];exact S5.out.2));clear s4 S4 R3;unfold vB;go_wp2_with (at_builtin;refine halt_q ?_)
 refine wpList_bufS S5.out rfl _ _ rfl rfl e.d.A e.bs.length e.d.cap e.bs rfl rfl H5.out.sb (by have h1:=putU_ten (v:=e.bs.length) (by omega);have h2:=putU_ten (v:=fpSum e.bs) (by have:=fpSum_lt e.bs;unfold pP at this;omega);simp only [List.length_append,List.length_singleton];omega) ?_;intro d6 w6 s6;have S6:=hid s6;clear s6 S5 f2;unfold vB;go_wp2_with fail
 go_ret;exact ⟨d6,rfl,S6.out.get 0 (o:=bufOb d6 _) rfl,(fun g hg=>by rw [HGX.out];exact (S6.out.1.own _ (.head _) g hg).1),by rw [HGX.out];exact S6.out.2⟩
end Go.Proofs.YtmiknfneeipkeaaGreat
namespace Go.Proofs.YtmiknfneeipkeaaGreat
open Go.RowKit Go.MapKept Go.ChangeMaps Go.Shelf Go.Sort
attribute [local go_sem] wext_cell
section
variable {b:Nat} {w0 w w':World} {l:List Ob}
set_option maxRecDepth 100000 in
set_option maxHeartbeats 8000000 in
theorem rPack_any (h:SW b w0 l w) {C:Option Addr} {T:List CH} (hc:cxOb C T∈l) (hok:∀ e∈T,okCH e=true) (ha:T.Pairwise (fun a b=>ltID a.1 b.1=true)) (hl:(packP T).length<=1048576) (hTn:T.length<=1048576) (c:Nat):
 Calls Tryz.prog 28 #[.slice C T.length c] w (fun e w'=>∃ d,e= .returned (.tuple #[vB d,.int .i64 0])/\SW b w0 (bufOb d (packP T)::l) w'):=by
 have HC:=hid hc;have HOK:=hid hok;have HA:=hid ha;have HL:=hid hl;have S0:=hid (h.newX #[.int .u8 83,.int .u8 89,.int .u8 80,.int .u8 75] (4,5) [83,89,80,75] 4 rfl (by decide) rfl)
 have hFl:(packF T).length+1+(putU T.length).length+(putU (fpSum (packB T))).length<=1048576:=by
  have:=hl;simp only [packP,packB,List.length_append,List.length_singleton] at this;simp only [packB];omega
 have HFL:=hid hFl;have hFT:(packF T).length<=1048576:=by omega
 clear h hc hok ha hl hFl;have hcv:=Lib.run_convert_bytes_const (P:=Tryz.prog) w 40 5 #[.int .u8 83,.int .u8 89,.int .u8 80,.int .u8 75] 4 4 Tryz.underlying40 Tryz.underlying5;go_enter Tryz.func28,Tryz.ntmps28;go_upto_region 2 with fail
 clear hcv;obtain ⟨w1,HW⟩:∃ W,Hid (w.alloc (.cells #[.int .u8 83,.int .u8 89,.int .u8 80,.int .u8 75] 5 (4,5))=W):=⟨_,rfl⟩;rw [HW.out] at S0 |-; clear HW;go_wp2_with fail
 go_loopw [4,5] (fun s4 s11 wr=>∃ (k:Nat) (d:BD),k<=T.length/\s11= .int .i64 (k:Int)/\s4= .slice d.A d.len d.cap/\d.len=(packF (T.take k)).length/\SW b w0 (bxOb d (packF (T.take k))::l) wr) (fun _ s11 _=>T.length-(intOf s11).toNat)
 case atStart=>exact ⟨0,⟨some ⟨w.heap.size,0,none⟩,4,4⟩,Nat.zero_le _,rfl,rfl,rfl,S0.out⟩
 obtain ⟨k,d,hk,rfl,rfl,hdl,hs⟩:=hrel;have S1:=hid hs;have hdm:d.len<=1048576:=by have:=packF_le T k;omega
 have HDL:=hid hdl;have hfl:=packF_le T k;clear hs S0 hdl;by_cases hlt:k<T.length
 · obtain ⟨⟨⟨i1,i2⟩,e⟩,hte⟩:∃ e,T.getD k ch0=e:=⟨_,rfl⟩;have hmem:((i1,i2),e)∈T:=by rw [<- hte];exact getD_mem _ _ _ hlt
   have hoke:=HOK.out _ hmem;obtain ⟨rfl,rfl,hl1,hl2⟩:=okCH_eq hoke;have HTK:Hid (packF (T.take (k+1))=packF (T.take k)++frameP (((fpSum e.bs:Nat),(e.bs.length:Nat)),e)):=by rw [Hid,take_snoc _ ch0 _ hlt,hte,packF_snoc]
   obtain ⟨gT,o,rfl,hgT,c0,c1,c2,hbs⟩:=cx_at (S1.out.1.holds _ (.tail _ HC.out)) hlt hte;have HRI:=hid (rRight_any ((fpSum e.bs:Nat):Int) ((e.bs.length:Nat):Int) e _ hbs (by omega));rw [hoke] at HRI;have HTE:=hid hte;clear hbs hoke hmem hte;go_wp2_with (go_at_call 72;(with_reducible refine HRI.out.mono ?_);refine halt_ ?_)
   rintro e9 w2 ⟨rfl,hb2⟩;have S3:=hid (S1.out.on hb2);clear hb2 S1 HRI c0 c1 c2 hgT;obtain ⟨gT',o',e7,hgT,c0,c1,c2,hbs⟩:=cx_at (S3.out.1.holds _ (.tail _ HC.out)) hlt HTE.out;injection e7 with e7;injection e7 with e7 e8 _;subst e7 e8;clear hbs;by_cases hk0:k=0
   · have hkd:decide (0<k)=false:=by simp [hk0]
     clear hk0;go_wp2_with fail
     refine wp_region_ext (by kernel_rfl) (by kernel_rfl) ?_;repeat (go_big_quiet_step (fail))
     refine wpQuiet_nil ?_;intro w4 hb4;have S4:=hid (S3.out.on hb4);clear hb4 S3 c0 c1 c2 hgT;obtain ⟨gT',o',e7,hgT,c0,c1,c2,hbs⟩:=cx_at (S4.out.1.holds _ (.tail _ HC.out)) hlt HTE.out;injection e7 with e7;injection e7 with e7 e8 _;subst e7 e8;have HFR:=hid (rFrame_any e w4 hbs hl2);clear hbs;go_wp2_with (go_at_call 30;(with_reducible refine HFR.out.mono ?_);refine halt_ ?_)
     rintro e5 w5 ⟨d5,rfl,hr5,_,hb5⟩;have S5:=hid (S4.out.on hb5);have R5:=hid hr5;clear hr5 hb5 S4 HFR c0 c1 c2 hgT
     have hfr:(packF (T.take k)).length+d5.len<=1048576:=by
      have h1:=packF_le T (k+1);rw [HTK.out,List.length_append,R5.out.1] at h1;omega
     unfold vB;go_wp2_with (at_builtin;refine halt_q ?_)
     refine wpList_bufX S5.out rfl _ _ rfl rfl d5.A d5.len d5.cap (frameP (((fpSum e.bs:Nat),(e.bs.length:Nat)),e)) rfl R5.out.1 (by rw [<- R5.out.1,frameP];simp) R5.out.src (by omega) ?_;intro d10 w10 s10
     have SB:Hid (SW b w0 (bufOb d10 (packF (T.take (k+1)))::l) w10):=by
      rw [Hid,HTK.out];exact s10
     have HD10:Hid (d10.len=(packF (T.take (k+1))).length):=((SB.out.get 0 (o:=bufOb d10 (packF (T.take (k+1)))) rfl:RB w10 d10 (packF (T.take (k+1)))).1).symm;clear S5 s10 R5;unfold vB;go_wp2_with fail
     go_roundw
     case rel=>exact ⟨k+1,d10,by omega,by go_num,rfl,HD10.out,SB.out.bufX⟩
     simp [intOf];omega
   have hkd:decide (0<k)=true:=by simp;omega
   have hk1:0<k:=by omega
   have ek:((k:Int)-1).toNat=k-1:=by omega
   obtain ⟨⟨⟨p1,p2⟩,pe⟩,hpe⟩:∃ e,T.getD (k-1) ch0=e:=⟨_,rfl⟩;obtain ⟨g2,o2,e7,hgT2,a0,a1,_,_⟩:=cx_at (S3.out.1.holds _ (.tail _ HC.out)) (show k-1<T.length by omega) hpe;injection e7 with e7;injection e7 with e7 e8 _;subst e7 e8
   have hlo:ltID (p1,p2) (((fpSum e.bs:Nat):Int),((e.bs.length:Nat):Int))=true:=by
    have:=List.pairwise_iff_getElem.1 HA.out (k-1) k (by omega) hlt (by omega);have e1:T[k-1]=((p1,p2),pe):=by rw [<- hpe,List.getD_eq_getElem?_getD,List.getElem?_eq_getElem (by omega)];rfl
    have e2:T[k]=((((fpSum e.bs:Nat):Int),((e.bs.length:Nat):Int)),e):=by rw [<- HTE.out,List.getD_eq_getElem?_getD,List.getElem?_eq_getElem hlt];rfl
    rw [e1,e2] at this;exact this
   have HCM:=hid (fun W=>Less_any p1 p2 ((fpSum e.bs:Nat):Int) ((e.bs.length:Nat):Int) W);rw [hlo] at HCM;clear hlo hk0 hpe;go_wp2_with fail
   refine wp_region_ext (by kernel_rfl) (by kernel_rfl) ?_;repeat (go_big_quiet_step ((go_at_call 71;exact ext_call (HCM.out _))))
   refine wpQuiet_nil ?_;intro w4 hb4;have S4:=hid (S3.out.on hb4);clear hb4 S3 c0 c1 c2 hgT a0 a1 HCM hgT2;obtain ⟨gT',o',e7,hgT,c0,c1,c2,hbs⟩:=cx_at (S4.out.1.holds _ (.tail _ HC.out)) hlt HTE.out;injection e7 with e7;injection e7 with e7 e8 _;subst e7 e8;have HFR:=hid (rFrame_any e w4 hbs hl2);clear hbs;go_wp2_with (go_at_call 30;(with_reducible refine HFR.out.mono ?_);refine halt_ ?_)
   rintro e5 w5 ⟨d5,rfl,hr5,_,hb5⟩;have S5:=hid (S4.out.on hb5);have R5:=hid hr5;clear hr5 hb5 S4 HFR c0 c1 c2 hgT
   have hfr:(packF (T.take k)).length+d5.len<=1048576:=by
    have h1:=packF_le T (k+1);rw [HTK.out,List.length_append,R5.out.1] at h1;omega
   unfold vB;go_wp2_with (at_builtin;refine halt_q ?_)
   refine wpList_bufX S5.out rfl _ _ rfl rfl d5.A d5.len d5.cap (frameP (((fpSum e.bs:Nat),(e.bs.length:Nat)),e)) rfl R5.out.1 (by rw [<- R5.out.1,frameP];simp) R5.out.src (by omega) ?_;intro d10 w10 s10
   have SB:Hid (SW b w0 (bufOb d10 (packF (T.take (k+1)))::l) w10):=by
    rw [Hid,HTK.out];exact s10
   have HD10:Hid (d10.len=(packF (T.take (k+1))).length):=((SB.out.get 0 (o:=bufOb d10 (packF (T.take (k+1)))) rfl:RB w10 d10 (packF (T.take (k+1)))).1).symm;clear S5 s10 R5;unfold vB;go_wp2_with fail
   go_roundw
   case rel=>exact ⟨k+1,d10,by omega,by go_num,rfl,HD10.out,SB.out.bufX⟩
   simp [intOf];omega
 obtain rfl:k=T.length:=by omega
 rw [List.take_length] at S1 HDL;have hdl:=HDL.out;have HP:=hid (sb_one wr 0 0 (by decide));have HFL2:=HFL.out;go_wp2_with (at_builtin;refine halt_q ?_)
 refine wpList_bufX (S1.out.alloc _) rfl _ _ rfl rfl (some ⟨wr.heap.size,0,none⟩) 1 1 [0] rfl rfl (by decide) HP.out (by omega) ?_;intro d5 w5 s5;have S6:=hid s5;have HP1:=hid (rUint_any T.length w5 (by omega));clear s5 S1 HP hdl HDL;unfold vB;go_wp2_with (go_at_call 48;(with_reducible refine HP1.out.mono ?_);refine halt_ ?_)
 rintro e6 w6 ⟨d6,rfl,hr6,_,hb6⟩;have S7:=hid (S6.out.on hb6);have R6:=hid hr6;clear S6 HP1 hr6 hb6;unfold vB;go_wp2_with (at_builtin;refine halt_q ?_)
 refine wpList_bufS S7.out rfl _ _ rfl rfl d6.A d6.len d6.cap (putU T.length) rfl R6.out.1 R6.out.src (by rw [<- R6.out.1];simp only [List.length_append,List.length_singleton];omega) ?_;intro d7 w7 s7;have S8:Hid (SW b w0 (bufOb d7 (packB T)::l) w7):=s7
 have HBL:Hid ((packB T).length<=1048576):=by
  rw [Hid,packB];simp only [List.length_append,List.length_singleton];omega
 have R7:Hid (RB w7 d7 (packB T)):=S8.out.get 0 (o:=bufOb d7 (packB T)) rfl;have HS:=hid (rSum_any d7.A d7.cap (packB T) w7 R7.out.rs (by have:=HBL.out;omega));rw [R7.out.1] at HS;clear S7 s7 R6;unfold vB;go_wp2_with (go_at_call 73;(with_reducible refine HS.out.mono ?_);refine halt_ ?_)
 rintro e8 w8 ⟨rfl,hb8⟩;have SA:=hid (S8.out.on hb8);clear hb8 HS S8 R7;have HP2:=hid (rUint_any (fpSum (packB T)) w8 (by have:=fpSum_lt (packB T);unfold pP at this;omega));go_wp2_with (go_at_call 48;(with_reducible refine HP2.out.mono ?_);refine halt_ ?_)
 rintro e9 w9 ⟨d9,rfl,hr9,_,hb9⟩;have S9:=hid (SA.out.on hb9);have R9:=hid hr9;clear SA HP2 hr9 hb9;unfold vB;go_wp2_with (at_builtin;refine halt_q ?_)
 refine wpList_bufS S9.out rfl _ _ rfl rfl d9.A d9.len d9.cap (putU (fpSum (packB T))) rfl R9.out.1 R9.out.src (by rw [<- R9.out.1];have:=HBL.out;omega) ?_;intro d10 w10 s10;have SB:Hid (SW b w0 (bufOb d10 (packP T)::l) w10):=s10
 have hd9:d10.len<=1048576:=by
  have h1:RB w10 d10 (packP T):=SB.out.get 0 (o:=bufOb d10 (packP T)) rfl;rw [<- h1.1];exact HL.out
 have hdd:decide (1048576<d10.len)=false:=by simp;omega
 clear S9 s10 R9;unfold vB;go_wp2_with fail
 go_ret2;exact ⟨d10,rfl,SB.out⟩
end
end Go.Proofs.YtmiknfneeipkeaaGreat
namespace Go.Proofs.YtmiknfneeipkeaaGreat
open Go.RowKit Go.MapKept Go.ChangeMaps Go.Shelf Go.Sort
attribute [local go_sem] wext_cell
def manP (m:Man) (k:Nat):List UInt8:=([m.size,(m.ids.length:Int)]++(m.ids.take k).flatMap (fun i=>[i.2,i.1])).flatMap (fun n=>putU n.toNat)
theorem manP_zero (m:Man) (s:Nat) (h:m.size=(s:Int)):manP m 0=putU s++putU m.ids.length:=by
 simp [manP,h]
theorem manP_next (m:Man) (k:Nat) (hk:k<m.ids.length) (v1 v2:Nat) (h:m.ids.getD k id0=((v1:Int),(v2:Int))):manP m (k+1)=manP m k++putU v2++putU v1:=by
 rw [manP,numsM_take m k hk,h, <- List.append_assoc,List.flatMap_append];simp [manP]
theorem manP_all (m:Man):manP m m.ids.length=manB m:=by
 rw [manP,List.take_length];rfl
theorem manP_le (m:Man) (he:manE m=0) (hok:∀ i∈m.ids,okID i) (k:Nat):(manP m k).length<=20500:=by
 have h1:=nums_bytes ([m.size,(m.ids.length:Int)]++(m.ids.take k).flatMap (fun i=>[i.2,i.1])) (fun n hn=>numsM_bd he hok n (by
  rcases List.mem_append.1 hn with h | h
  · exact List.mem_append_left _ h
  obtain ⟨i,hi,h⟩:=List.mem_flatMap.1 h;exact List.mem_append_right _ (List.mem_flatMap.2 ⟨i,List.mem_of_mem_take hi,h⟩)))
 have h2:=manE_len he;have h3:=nums_len (m.ids.take k);have h4:(m.ids.take k).length<=m.ids.length:=by rw [List.length_take];omega
 have:(manP m k).length=(([m.size,(m.ids.length:Int)]++(m.ids.take k).flatMap (fun i=>[i.2,i.1])).flatMap (fun n=>putU n.toNat)).length:=rfl;rw [List.length_append,h3] at h1;simp only [List.length_cons,List.length_nil] at h1;omega
set_option maxRecDepth 100000 in
set_option maxHeartbeats 8000000 in
theorem rManEnc_any (x:Nat) (m:Man) (A:Option Addr) (c:Nat) (w:World) (hr:RdID w x A m.ids) (he:manE m=0) (hok:∀ i∈m.ids,okID i):
 Calls Tryz.prog 49 #[.agg #[.int .i64 m.size,.slice A m.ids.length c]] w (fun e w'=>∃ d,e= .returned (.tuple #[vB d,.int .i64 0])/\Buf w w' d (manB m)):=by
 have Hr:=hid hr;have Hok:=hid hok;have HE:=hid he;have hml:=manE_len he;have hv:=manE_zero he
 have hs0:0<=m.size/\m.size<=1048576:=by
  have h1:=sum_take_bd (l:=m.ids) (k:=m.ids.length) (by rw [List.take_length];exact hv.1);rw [List.take_length] at h1;exact ⟨by rw [hv.2.1];exact h1.1,hv.2.2⟩
 obtain ⟨sz,HSZ⟩:∃ s:Nat,Hid (m.size=(s:Int)):=⟨m.size.toNat,by rw [Hid];omega⟩;have S0:=hid ((SW.refl (Sep.nil w (Nat.le_refl _))).newCell 33 #[.int .i64 m.size,.slice A m.ids.length c]);have HC:=hid (rmanCheck_any x m A c _ (Hr.out.on S0.out.2) (by omega));rw [he] at HC;clear hr hok he hv;go_enter Tryz.func49,Tryz.ntmps49;have e0:=(S0.out.cell 0 rfl).cell 0;have e1:=(S0.out.cell 0 rfl).cell 1;go_wp2_with (go_at_call 37;(with_reducible refine HC.out.mono ?_);refine halt_ ?_)
 rintro e w1 ⟨rfl,hb1⟩;have S1:=hid (S0.out.on hb1);clear hb1 S0 HC e0 e1;have e0:=(S1.out.cell 0 rfl).cell 0;have e1:=(S1.out.cell 0 rfl).cell 1;have hlX:=(S1.out.cell 0 rfl).lt;rw [HSZ.out] at e0;have hszb:sz<18446744073709551616:=by have:=HSZ.out;omega
 have hw1:IntKind.u64.wrap ((sz:Nat):Int)=(sz:Int):=by rw [IntKind.wrap_u64];omega
 have hw2:IntKind.u64.wrap ((m.ids.length:Nat):Int)=(m.ids.length:Int):=by rw [IntKind.wrap_u64];omega
 go_wp2_with fail
 have HU1:=hid (fun W=>rUint_any sz W (by omega));have HU2:=hid (fun W=>rUint_any m.ids.length W (by omega))
 have hszb2:(putU sz).length+(putU m.ids.length).length<=1099511627776:=by
  have h1:=putU_ten (v:=sz) (by omega);have h2:=putU_ten (v:=m.ids.length) (by omega);omega
 go_region_law (first
  | ((try go_simp);(try go_at_call 48);(with_reducible refine (HU1.out _).mono ?_);rintro ea wa ⟨da,rfl,hra,hna,hba⟩;(first | (have SA:=hid (SW.newBuT SB.out hba hra hna)) | (have SA:=hid (SW.newBuT S1.out.drew hba hra hna);have f1:wa.cell? ⟨w.heap.size,1,none⟩=some (.slice A m.ids.length c):=(SA.out.cell 1 rfl).cell 1));have RA:Hid ((putU sz).length=da.len):=hra.1;clear hra hna hba)
  | ((try go_simp);(try go_at_call 48);(with_reducible refine (HU2.out _).mono ?_);rintro eb wb ⟨db,rfl,hrb,hnb,hbb⟩;(first | (have SB:=hid (SW.newBuT SA.out hbb hrb hnb)) | (have SB:=hid (SW.newBuT S1.out.drew hbb hrb hnb);have g0:wb.cell? ⟨w.heap.size,0,none⟩=some (.int .i64 (sz:Int)):=(by rw [<- HSZ.out];exact (SB.out.cell 1 rfl).cell 0)));have RB3:Hid ((putU m.ids.length).length=db.len):=hrb.1;clear hrb hnb hbb)
  | (refine step_append_bytes (by rfl) (.tmp 15) (.tmp 20) (by rfl) da (putU sz) (by rfl) (SB.out.get 1 (o:=bufOb da (putU sz)) rfl) db.A db.cap (putU m.ids.length) (by rw [RB3.out];rfl) ((SB.out.get 0 (o:=bufOb db (putU m.ids.length)) rfl:RB _ db _).src) hszb2 ?_;intro d5 w5 hl5 happ;clear hl5;have S5:Hid (SW w.heap.size w (bufOb d5 (putU sz++putU m.ids.length)::cellOb w.heap.size 33 #[.int .i64 m.size,.slice A m.ids.length c]::[]) w5):=(SW.appB SB.out 1 rfl happ).tail;clear happ)
  | (refine step_append_bytes (by rfl) (.tmp 15) (.tmp 20) (by rfl) da (putU sz) (by rfl) (SA.out.get 0 (o:=bufOb da (putU sz)) rfl) db.A db.cap (putU m.ids.length) (by rw [RB3.out];rfl) ((SA.out.get 1 (o:=bufOb db (putU m.ids.length)) rfl:RB _ db _).src) hszb2 ?_;intro d5 w5 hl5 happ;clear hl5;have S5:Hid (SW w.heap.size w (bufOb d5 (putU sz++putU m.ids.length)::cellOb w.heap.size 33 #[.int .i64 m.size,.slice A m.ids.length c]::[]) w5):=SW.sub (SW.appB SA.out 0 rfl happ) (.cons_cons _ (.cons _ (List.Sublist.refl _)));clear happ))
 all_goals (
  have HP0:Hid (putU sz++putU m.ids.length=manP m 0):=(manP_zero m sz HSZ.out).symm;rw [HP0.out] at S5;have S6:=hid S5;clear S5;unfold vB;go_wp2_with fail
  go_loopw [5,6] (fun s5 s6 wr=>∃ (k:Nat) (d:BD),k<=m.ids.length/\s6= .int .i64 (k:Int)/\s5= .slice d.A d.len d.cap/\SW w.heap.size w (bufOb d (manP m k)::cellOb w.heap.size 33 #[.int .i64 m.size,.slice A m.ids.length c]::[]) wr) (fun _ s6 _=>m.ids.length-(intOf s6).toNat)
  case atStart=>exact ⟨0,d5,Nat.zero_le _,rfl,rfl,S6.out⟩
  obtain ⟨k,d,hk,rfl,rfl,hs⟩:=hrel;have S7:=hid hs;clear hs S6;have q1:=(S7.out.cell 1 rfl).cell 1;by_cases hlt:k<m.ids.length
  · obtain ⟨j1,j2,HI⟩:∃ i1 i2,Hid (m.ids.getD k id0=(i1,i2)):=⟨_,_,rfl⟩;have hmem:=getD_mem m.ids id0 k hlt;rw [HI.out] at hmem;have hch:=chunkB_sound (List.all_eq_true.1 (manE_zero HE.out).1 _ hmem);simp only at hch;have hb1:=numsM_bd HE.out Hok.out j1 (List.mem_append_right _ (List.mem_flatMap.2 ⟨_,hmem,by simp⟩));obtain ⟨v1,rfl⟩:∃ v:Nat,j1=(v:Int):=⟨j1.toNat,by omega⟩;obtain ⟨v2,rfl⟩:∃ v:Nat,j2=(v:Int):=⟨j2.toNat,by omega⟩;have HT:=hid (manP_next m k hlt v1 v2 HI.out);obtain ⟨gb,o,rfl,hB,hne,hc⟩:=Hr.out (by omega);have cX:∀ W,Below w.heap.size w W->W.cell? ⟨gb,o+k*2,none⟩=some (.int .u64 (v1:Int))/\W.cell? ⟨gb,o+k*2+1,none⟩=some (.int .i64 (v2:Int)):=fun W hb=>⟨by rw [hb.cell (p:=⟨gb,o+k*2,none⟩) hB];exact hc k hlt 0 _ (by rw [show m.ids.getD k (0,0)=((v1:Int),(v2:Int)) from HI.out];rfl),by rw [hb.cell (p:=⟨gb,o+k*2+1,none⟩) hB];exact hc k hlt 1 _ (by rw [show m.ids.getD k (0,0)=((v1:Int),(v2:Int)) from HI.out];rfl)⟩;have CX:=hid cX;have c1:=(CX.out _ S7.out.2).2;have HV2:=hid (rUint_any v2 wr (by omega));have hle:=manP_le m HE.out Hok.out k;have hl1:=putU_ten (v:=v1) (by omega);have hl2:=putU_ten (v:=v2) (by omega);clear cX hc hmem;go_wp2_with (go_at_call 48;(with_reducible refine HV2.out.mono ?_);refine halt_ ?_)
    rintro e6 w6 ⟨d6,rfl,hr6,_,hb6⟩;have S8:=hid (S7.out.on hb6);have R6:=hid hr6;clear S7 HV2 hr6 hb6 c1 q1;unfold vB;go_wp2_with (at_builtin;refine halt_q ?_)
    refine wpList_bufS S8.out rfl _ _ rfl rfl d6.A d6.len d6.cap (putU v2) rfl R6.out.1 R6.out.src (by rw [<- R6.out.1];omega) ?_;intro d7 w7 s7;have S9:=hid s7;have q1:=(S9.out.cell 1 rfl).cell 1;have c0:=(CX.out _ S9.out.2).1;have HV1:=hid (rUint_any v1 w7 (by omega));clear s7 S8 R6;unfold vB;go_wp2_with (go_at_call 48;(with_reducible refine HV1.out.mono ?_);refine halt_ ?_)
    rintro e8 w8 ⟨d8,rfl,hr8,_,hb8⟩;have S10:=hid (S9.out.on hb8);have R8:=hid hr8;clear S9 HV1 hr8 hb8 c0 q1;unfold vB;go_wp2_with (at_builtin;refine halt_q ?_)
    refine wpList_bufS S10.out rfl _ _ rfl rfl d8.A d8.len d8.cap (putU v1) rfl R8.out.1 R8.out.src (by rw [<- R8.out.1,List.length_append];omega) ?_;intro d9 w9 s9;rw [<- HT.out] at s9;have S11:=hid s9;clear s9 S10 R8;unfold vB;go_wp2_with fail
    go_roundw
    case rel=>exact ⟨k+1,d9,by omega,by go_num,rfl,S11.out⟩
    simp [intOf];omega
  obtain rfl:k=m.ids.length:=by omega
  have HB:=hid (manP_all m);rw [HB.out] at S7;go_wp2_with fail
  go_ret2;exact ⟨d,rfl,S7.out.get 0 (o:=bufOb d (manB m)) rfl,(fun g hg=>(S7.out.1.own _ (.head _) g hg).1),S7.out.2⟩)
end Go.Proofs.YtmiknfneeipkeaaGreat
