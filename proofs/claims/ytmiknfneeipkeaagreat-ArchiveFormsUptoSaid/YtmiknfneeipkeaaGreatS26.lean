/- Contracts of the walk, part 26. -/
import Derived.Test.YtmiknfneeipkeaaGreatS19
import Derived.Test.YtmiknfneeipkeaaGreatS20
import Derived.Test.YtmiknfneeipkeaaGreatS25
import Derived.Test.YtmiknfneeipkeaaGreatS23
import Derived.Test.YtmiknfneeipkeaaGreatS22
import Derived.Test.YtmiknfneeipkeaaGreatS15
open Go.Lib (hid)
namespace Go.Proofs.YtmiknfneeipkeaaGreat
open Go.RowKit Go.MapKept Go.ChangeMaps Go.Shelf Go.Sort
attribute [local go_sem] wext_cell
theorem kept_take {ks:List ID} {j:Nat} {i:ID} (h:j<ks.length) (e:ks.getD j id0=i):keptOf (ks.take (j+1))=setL (keptOf (ks.take j)) i true:=by
 rw [take_id h,e,keptOf,List.foldl_append];rfl
section
variable {b:Nat} {w0 w w':World} {l:List Ob}
abbrev ChoP (ids:List ID) (T:List CH) (b:Nat) (w0:World) (l:List Ob) (e:Ending) (w':World):Prop:=
 (AllR ids T/\∃ D q,e= .returned (.tuple #[.slice D ids.length q,.bool true])/\SW b w0 (rowOb 42 3 (.slice D ids.length q) ids.length ((selR ids T).flatMap encCH)::l) w')∨
 (¬ AllR ids T/\∃ v,e= .returned (.tuple #[v,.bool false])/\SW b w0 l w')
set_option maxRecDepth 100000 in
set_option maxHeartbeats 8000000 in
theorem choose_any (h:SW b w0 l w) {A:Option Addr} {ids:List ID} (hi:riOb A ids∈l) (ha:AscI ids) (hok:∀ i∈ids,okID i) (hn:ids.length<=700000000) (hsz:∀ i∈ids,i.2<=8192) {C:Option Addr} {T:List CH} (hc:cxOb C T∈l) (hT:∀ e∈T,okID e.1) (hTn:T.length<=9223372036854775807) (c d:Nat):
 Calls Tryz.prog 41 #[.slice A ids.length c,.slice C T.length d] w (ChoP ids T b w0 l):=by
 have HI:=hid hi;have HA:=hid ha;have HOK:=hid hok;have HS:=hid hsz;have HC:=hid hc;have HOT:=hid hT;obtain ⟨ii,gi,gz0,gz1,gz2⟩:=info_parts info42;have S0:=hid (h.addMp (ok:=okID) (kv:=vID) (vv:=vB1));have hmk1:∀ (W:World),(Instr.makeMap 146 none).run Tryz.prog W= .ok (.map (some W.heap.size)) (W.alloc (.map #[] 0)):=fun W=>by simp [Instr.makeMap,run_underlying Tryz.underlying146]
 clear h hi ha hok hsz hc hT;go_enter Tryz.func41,Tryz.ntmps41;go_upto_region 2 with fail
 obtain ⟨w1,HW⟩:∃ W,Hid (w.alloc (.map #[] 0)=W):=⟨_,rfl⟩;rw [HW.out] at S0 |-; clear HW hmk1;obtain ⟨mM,HMM0⟩:∃ x,Hid (w.heap.size=x):=⟨_,rfl⟩;rw [HMM0.out] at S0 |-; clear HMM0;go_wp2_with fail
 go_loopw [15] (fun s15 wr=>∃ j:Nat,j<=ids.length/\s15= .int .i64 (j:Int)/\SW b w0 (mpOb okID vID vB1 mM (keptOf (ids.take j))::l) wr) (fun s15 _=>ids.length-(intOf s15).toNat)
 case atStart=>exact ⟨0,Nat.zero_le _,rfl,S0.out⟩
 obtain ⟨j,hj,rfl,hs⟩:=hrel;have S1:=hid hs;clear hs S0;by_cases hlt:j<ids.length
 · obtain ⟨⟨i1,i2⟩,hik⟩:∃ i,ids.getD j id0=i:=⟨_,rfl⟩;obtain ⟨g1,rfl,a0,a1⟩:=S1.out.rowCell (List.mem_cons_of_mem _ HI.out) hlt hik;have hoi:okID (i1,i2):=HOK.out _ (by rw [<- hik];exact getD_mem _ _ _ hlt);have HKT:=hid (kept_take hlt hik);have S2:=hid (S1.out.newCell 36 #[.int .u64 i1,.int .i64 i2]);obtain ⟨w3,hup,hmp,hgr,hsz⟩:=MapIs.update mkI Tryz.underlying146 (S2.out.get 1 rfl:MapIs okID vID vB1 (wr.alloc (.cells #[.int .u64 i1,.int .i64 i2] 36)) mM (keptOf (ids.take j))) hoi true;have S3:=hid (S2.out.updMp 1 rfl hmp hgr);clear S2 hmp hgr hsz S1 hik hoi;go_wp2_with fail
   go_roundw
   case rel=>exact ⟨j+1,by omega,by go_num,by rw [HKT.out];exact S3.out.tail⟩
   simp [intOf];omega
 obtain rfl:j=ids.length:=by omega
 rw [List.take_length] at S1;have S2:=hid (SW.front (pre:=[_,_]) (S1.out.newRow 42 3) [1,0] (n:=2) rfl (by decide));clear S1;go_wp2_with fail
 go_loopw [9,24] (fun s9 s24 wr=>∃ (k:Nat) (M:List (ID×Bool)) (B:Option Addr) (bc:Nat),k<=T.length/\s24= .int .i64 (k:Int)/\s9= .slice B (pickL ids (T.take k)).length bc/\Hid (∀ x,inS M x=decide (x∈ids/\x ∉ (pickL ids (T.take k)).map (·.1)))/\SW b w0 (mpOb okID vID vB1 mM M::rowOb 42 3 (.slice B (pickL ids (T.take k)).length bc) (pickL ids (T.take k)).length ((pickL ids (T.take k)).flatMap encCH)::l) wr) (fun _ s24 _=>T.length-(intOf s24).toNat)
 case atStart=>exact ⟨0,_,none,0,Nat.zero_le _,rfl,rfl,(fun x=>by rw [keptOf_in];simp [pickL]),S2.out⟩
 obtain ⟨k,M,B,bc,hk,rfl,rfl,HMM,hs⟩:=hrel;have S1:=hid hs;clear hs S2;have hpl:=pick_len ids (T.take k);by_cases hlt:k<T.length
 · obtain ⟨⟨⟨i1,i2⟩,e⟩,hte⟩:∃ e,T.getD k ch0=e:=⟨_,rfl⟩;have HTK:Hid (T.take (k+1)=T.take k++[((i1,i2),e)]):=by rw [Hid,take_snoc _ ch0 _ hlt,hte]
   have hm0:((i1,i2),e)∈T:=by rw [<- hte];exact getD_mem _ _ _ hlt
   obtain ⟨gT,o,rfl,hgT,c0,c1,c2,hbs⟩:=cx_at (S1.out.1.holds _ (.tail _ (.tail _ HC.out))) hlt hte;have HBS:=hid hbs;have HLE:Hid (e.d.len=e.bs.length):=hbs.2.1;obtain ⟨q,HPN⟩:∃ x,Hid ((pickL ids (T.take k)).length=x):=⟨_,rfl⟩;rw [HPN.out] at S1 hpl |-; have hoi:okID (i1,i2):=HOT.out _ hm0;have S2:=hid (S1.out.newCell 42 #[.int .u64 i1,.int .i64 i2,.slice e.d.A e.bs.length e.d.cap]);clear hbs hte;go_upto_region 11 with fail
   obtain ⟨w3,HW3⟩:∃ W,Hid (wr.alloc (.cells #[.int .u64 i1,.int .i64 i2,.slice e.d.A e.bs.length e.d.cap] 42)=W):=⟨_,rfl⟩;have HBS3:Hid (BSok w3 e):=by rw [Hid, <- HW3.out];exact ⟨HBS.out.1.on (bel1q _ _),HBS.out.2⟩
   rw [HW3.out] at S2 |-; obtain ⟨gX,HGX⟩:∃ x,Hid (wr.heap.size=x):=⟨_,rfl⟩;rw [HGX.out] at S2 |-; have b0:=(S2.out.cell 0 rfl).cell 0;have b1:=(S2.out.cell 0 rfl).cell 1;have b2:=(S2.out.cell 0 rfl).cell 2;have hlX:=(S2.out.cell 0 rfl).lt;have hmv:=HMM.out (i1,i2);obtain ⟨v,hv⟩:∃ v,inS M (i1,i2)=v:=⟨_,rfl⟩
   have HLK:∀ g:Ext w3,(Instr.lookup 146 (.map (some mM)) (.agg #[.int .u64 i1,.int .i64 i2]) false).run Tryz.prog (wext w3 g)= .ok (.bool v) (wext w3 g):=fun g=>by
    have:=MapIs.lookB mkI Tryz.underlying146 ((S2.out.on (wext_below g)).get 1 rfl:MapIs okID vID vB1 (wext w3 g) mM M) hoi;rw [hv] at this;exact this
   have HLK2:∀ g:Ext w3,(Instr.lookup (146:Nat) (.map (some mM)) (.agg #[.int .u64 i1,.int .i64 i2]) false).run Tryz.prog (wext w3 g)= .ok (.bool v) (wext w3 g):=HLK;clear HW3 HGX S1 c0 c1 c2 hoi;rw [hv] at hmv;have HMV:=hid hmv;clear hmv hv;cases v with
   | false=>
    have HNX:Hid (pickL ids (T.take (k+1))=pickL ids (T.take k)):=by
     rw [Hid,HTK.out,pick_snoc,pickStep,if_neg];rintro ⟨x1,x2,x3⟩;exact absurd ⟨x1,x3⟩ (of_decide_eq_false HMV.out.symm)
    refine wp_region_ext (by kernel_rfl) (by kernel_rfl) ?_;repeat (go_big_quiet_step (fail))
    refine wpQuiet_nil ?_;intro w4 hb4;clear b0 b1 b2 hlX;have S3:=hid ((S2.out.on hb4).tail);clear hb4 S2 HLK HLK2;go_wp2_with fail
    go_roundw
    case rel=>exact ⟨k+1,M,B,bc,by omega,by go_num,by rw [HNX.out,HPN.out],by rw [HNX.out];exact HMM.out,by rw [HNX.out,HPN.out];exact S3.out⟩
    simp [intOf];omega
   | true=>
    have hin:=of_decide_eq_true HMV.out.symm;have h8:=HS.out _ hin.1;have HIN:=hid hin;simp only at h8;clear hin;by_cases hlen:(e.bs.length:Int)=i2
    · have hle:((e.bs.length:Int)==i2)=true:=by rw [beq_iff_eq];exact hlen
      have HOF:=hid (fun (W:World) (hb:Below w3.heap.size w3 W)=>Of_any e.d.A e.d.cap e.bs W (HBS3.out.1.on hb) (by omega));obtain ⟨f1,f2,HF⟩:∃ f1 f2,Hid (fpOf e.bs=(f1,f2)):=⟨_,_,rfl⟩;rw [HF.out] at HOF;have HLEN:=hid hlen;clear hlen;by_cases h1:f1=i1
      · have h1:=h1.symm;subst h1;by_cases h2:f2=i2
        · have h2:=h2.symm;subst h2
          have HNX:Hid (pickL ids (T.take (k+1))=pickL ids (T.take k)++[((i1,i2),e)]):=by
           rw [Hid,HTK.out,pick_snoc,pickStep,if_pos ⟨HIN.out.1,HF.out,HIN.out.2⟩]
          refine wp_region_ext (by kernel_rfl) (by kernel_rfl) ?_;repeat (go_big_quiet_step ((go_at_call 33;exact ext_call (HOF.out _ (wext_below _)))))
          refine wpQuiet_nil ?_;intro w4 hb4;clear b0 b1 b2 hlX;have S3:=hid (S2.out.on hb4);clear hb4 S2 HLK HLK2 HOF;have b0:=(S3.out.cell 0 rfl).cell 0;have b1:=(S3.out.cell 0 rfl).cell 1;have b2:=(S3.out.cell 0 rfl).cell 2;obtain ⟨w5,hup,hmp,hgr,hsz⟩:=MapIs.update mkI Tryz.underlying146 (S3.out.get 1 rfl:MapIs okID vID vB1 w4 mM M) (HOT.out _ hm0) false;have S4:=hid (S3.out.updMp 1 rfl hmp hgr);have f0:=(S4.out.cell 0 rfl).cell 0;have f1:=(S4.out.cell 0 rfl).cell 1;have f2:=(S4.out.cell 0 rfl).cell 2
          have HM2:Hid (∀ x,inS (setL M (i1,i2) false) x=decide (x∈ids/\x ∉ (pickL ids (T.take k)++[((i1,i2),e)]).map (·.1))):=fun x=>by
           rw [inS_set,HMM.out x];by_cases hx:(i1,i2)=x
           · rw [if_pos hx];simp [hx]
           rw [if_neg hx]
           have h9:x∈(pickL ids (T.take k)++[((i1,i2),e)]).map (·.1)↔x∈(pickL ids (T.take k)).map (·.1):=by
            rw [List.map_append,List.mem_append];exact ⟨fun h=>h.resolve_right (fun h'=>hx (List.mem_singleton.1 h').symm),.inl⟩
           exact decide_eq_decide.2 (by rw [h9])
          have S5:=hid (S4.out.alloc (.cells #[.int .u64 i1,.int .i64 i2,.slice e.d.A e.bs.length e.d.cap] 42));clear S3 hmp hgr hsz;go_wp2_with (at_builtin;(refine wpList_rowS (t:=23) (e:=42) (size:=3) (bytes:=40) (i:=ii) S5.out 2 rfl (by rfl) (.tmp 52) (.tmp 54) (by rfl) Tryz.underlying23 gi gz0 gz1 gz2 rfl (by omega) (by rfl) ⟨w5.heap.size,0,none⟩ 1 [.int .u64 i1,.int .i64 i2,.slice e.d.A e.bs.length e.d.cap] (by rfl) rfl (mthree_new _ _ _ _ _ _ rfl) (by rw [<- HLE.out];exact encCH_one ((i1,i2),e)) (by unfold maxLen;omega) (by omega) ?_);refine halt_ ?_)
          intro v8 w8 s8;obtain ⟨g8,c8,rfl⟩:=own_some (s8.get 2 rfl) (by omega)
          have S8:Hid (SW b w0 (mpOb okID vID vB1 mM (setL M (i1,i2) false)::rowOb 42 3 (.slice (some ⟨g8,0,none⟩) (pickL ids (T.take (k+1))).length c8) (pickL ids (T.take (k+1))).length ((pickL ids (T.take (k+1))).flatMap encCH)::l) w8):=by
           rw [Hid,HNX.out,List.length_append,List.flatMap_append,HPN.out];have:=s8.tail;simp only [List.flatMap_cons,List.flatMap_nil,List.append_nil,encCH,vBS,HLE.out];exact this
          clear s8 S4 S5 f0 f1 f2;go_wp2_with fail
          go_roundw
          case rel=>exact ⟨k+1,_,some ⟨g8,0,none⟩,c8,by omega,by go_num,by rw [HNX.out,List.length_append,HPN.out];rfl,by rw [HNX.out];exact HM2.out,S8.out⟩
          simp [intOf];omega
        have hne:(f2==i2)=false:=by rw [beq_eq_false_iff_ne];exact h2
        have HNX:Hid (pickL ids (T.take (k+1))=pickL ids (T.take k)):=by
         rw [Hid,HTK.out,pick_snoc,pickStep,if_neg];rintro ⟨x1,x2,x3⟩;exact h2 (by have:=HF.out.symm.trans x2;injection this)
        refine wp_region_ext (by kernel_rfl) (by kernel_rfl) ?_;repeat (go_big_quiet_step ((go_at_call 33;exact ext_call (HOF.out _ (wext_below _)))))
        refine wpQuiet_nil ?_;intro w4 hb4;clear HOF;clear b0 b1 b2 hlX;have S3:=hid ((S2.out.on hb4).tail);clear hb4 S2 HLK HLK2;go_wp2_with fail
        go_roundw
        case rel=>exact ⟨k+1,M,B,bc,by omega,by go_num,by rw [HNX.out,HPN.out],by rw [HNX.out];exact HMM.out,by rw [HNX.out,HPN.out];exact S3.out⟩
        simp [intOf];omega
      have hne:(f1==i1)=false:=by rw [beq_eq_false_iff_ne];exact h1
      have HNX:Hid (pickL ids (T.take (k+1))=pickL ids (T.take k)):=by
       rw [Hid,HTK.out,pick_snoc,pickStep,if_neg];rintro ⟨x1,x2,x3⟩;exact h1 (by have:=HF.out.symm.trans x2;injection this)
      refine wp_region_ext (by kernel_rfl) (by kernel_rfl) ?_;repeat (go_big_quiet_step ((go_at_call 33;exact ext_call (HOF.out _ (wext_below _)))))
      refine wpQuiet_nil ?_;intro w4 hb4;clear HOF;clear b0 b1 b2 hlX;have S3:=hid ((S2.out.on hb4).tail);clear hb4 S2 HLK HLK2;go_wp2_with fail
      go_roundw
      case rel=>exact ⟨k+1,M,B,bc,by omega,by go_num,by rw [HNX.out,HPN.out],by rw [HNX.out];exact HMM.out,by rw [HNX.out,HPN.out];exact S3.out⟩
      simp [intOf];omega
    have hle:((e.bs.length:Int)==i2)=false:=by rw [beq_eq_false_iff_ne];exact hlen
    have HNX:Hid (pickL ids (T.take (k+1))=pickL ids (T.take k)):=by
     rw [Hid,HTK.out,pick_snoc,pickStep,if_neg];rintro ⟨x1,x2,x3⟩;exact hlen (by have:fpOf e.bs=(i1,i2):=x2;exact congrArg Prod.snd this)
    refine wp_region_ext (by kernel_rfl) (by kernel_rfl) ?_;repeat (go_big_quiet_step (fail))
    refine wpQuiet_nil ?_;intro w4 hb4;clear b0 b1 b2 hlX;have S3:=hid ((S2.out.on hb4).tail);clear hb4 S2 HLK HLK2;go_wp2_with fail
    go_roundw
    case rel=>exact ⟨k+1,M,B,bc,by omega,by go_num,by rw [HNX.out,HPN.out],by rw [HNX.out];exact HMM.out,by rw [HNX.out,HPN.out];exact S3.out⟩
    simp [intOf];omega
 obtain rfl:k=T.length:=by omega
 rw [List.take_length] at S1 HMM hpl |-; have HAL:=hid (all_iff ids T HA.out);have HSO:=hid (SW.sortCH (v:=.slice B (pickL ids T).length bc) (xs:=pickL ids T) (S1.out.tail) (by omega));have HPS:=hid (fun (S:List CH) h1 h2 h3=>pick_sorted (T:=T) (S:=S) HA.out h1 h2 h3);obtain ⟨P,HPP⟩:∃ x,Hid (pickL ids T=x):=⟨_,rfl⟩;rw [HPP.out] at HAL HSO HPS hpl |-; clear S1 HMM;go_wp2_with (go_at_call 87;(with_reducible refine HSO.out.mono ?_);refine halt_ ?_)
 rintro e w2 ⟨rfl,ys,hp,hso,s3⟩;have HYL:Hid (ys.length=P.length):=hp.length_eq;have HYS:Hid (AllR ids T->ys=selR ids T):=fun h=>HPS.out ys hp (hso.imp (fun {a b} h=>by rw [<- lt_cmpID];exact h)) h;have S3:=hid s3;clear hp hso s3 HSO HPS;by_cases hall:P.length=ids.length
 · have hle:((P.length:Int)==(ids.length:Int))=true:=by rw [beq_iff_eq,hall]
   have HALL:=hid (HAL.out.2 hall)
   have S4:Hid (SW b w0 (rowOb 42 3 (.slice B ids.length bc) ids.length ((selR ids T).flatMap encCH)::l) w2):=by
    have:=S3.out;rw [HYL.out,hall,HYS.out HALL.out] at this;exact this
   have HLL:=hid hall;clear hall;go_wp2_with fail
   go_ret2;exact .inl ⟨HALL.out,B,bc,by rw [<- HLL.out];rfl,S4.out⟩
 have hle:((P.length:Int)==(ids.length:Int))=false:=by rw [beq_eq_false_iff_ne];omega
 have HALL:Hid (¬ AllR ids T):=fun h=>hall (HAL.out.1 h);clear hall;go_wp2_with fail
 go_ret2;exact .inr ⟨HALL.out,_,rfl,S3.out.tail⟩
end
end Go.Proofs.YtmiknfneeipkeaaGreat
namespace Go.Proofs.YtmiknfneeipkeaaGreat
open Go.RowKit Go.MapKept Go.ChangeMaps Go.Shelf Go.Sort
attribute [local go_sem] wext_cell
def okCH (e:CH):Bool:=decide (1<=e.1.2/\e.1.2<=8192/\fpOf e.2.bs=e.1)
set_option maxHeartbeats 4000000 in
theorem right_any (i1 i2:Int) (e:BS) (w:World) (h:BSok w e) (hn:e.bs.length<=1099511627776):
 Calls Tryz.prog 89 #[.agg #[.int .u64 i1,.int .i64 i2,.slice e.d.A e.bs.length e.d.cap]] w (Gives (.bool (okCH ((i1,i2),e))) w):=by
 obtain ⟨w1,HW⟩:∃ W,Hid (w.alloc (.cells #[.int .u64 i1,.int .i64 i2,.slice e.d.A e.bs.length e.d.cap] 42)=W):=⟨_,rfl⟩;have HI:Hid (IsB w1 w.heap.size 42 #[.int .u64 i1,.int .i64 i2,.slice e.d.A e.bs.length e.d.cap]):=by rw [Hid, <- HW.out];exact IsB.new _ _ _
 have HB1:Hid (Below w.heap.size w w1):=by rw [Hid, <- HW.out];exact bel1 _ _
 have HBS:=hid h;clear h;go_enter Tryz.func89,Tryz.ntmps89;go_upto_region 1 with fail
 rw [HW.out];clear HW;have b0:=HI.out.cell 0;have b1:=HI.out.cell 1;have b2:=HI.out.cell 2;have hlX:=HI.out.lt;have HOF:=hid (fun (W:World) (hb:Below w1.heap.size w1 W)=>Of_any e.d.A e.d.cap e.bs W ((HBS.out.1.on HB1.out).on hb) hn);obtain ⟨f1,f2,HF⟩:∃ f1 f2,Hid (fpOf e.bs=(f1,f2)):=⟨_,_,rfl⟩;have HF2:Hid (f2=(e.bs.length:Int)):=(congrArg Prod.snd HF.out).symm;rw [HF.out] at HOF;by_cases h1:1<=i2
 · by_cases h2:i2<=8192
   · by_cases hlen:(e.bs.length:Int)=i2
     · have hle:((e.bs.length:Int)==i2)=true:=by rw [beq_iff_eq];exact hlen
       have HLEN:=hid hlen;clear hlen;by_cases g1:f1=i1
       · have g1:=g1.symm;subst g1;by_cases g2:f2=i2
         · have g2:=g2.symm;subst g2;have HR:Hid (okCH ((i1,i2),e)=true):=decide_eq_true ⟨h1,h2,HF.out⟩;refine wp_region_ext (by kernel_rfl) (by kernel_rfl) ?_;repeat (go_big_quiet_step ((go_at_call 33;exact ext_call (HOF.out _ (wext_below _)))))
           refine wpQuiet_nil ?_;intro w4 hb4;have HB4:=hid ((HB1.out.trans (hb4.mono HB1.out.size)));clear hb4 b0 b1 b2;go_wp2_with fail
           go_ret;exact gb HR.out HB4.out
         have hne:(f2==i2)=false:=by rw [beq_eq_false_iff_ne];exact g2
         have hne2:(i2==f2)=false:=by rw [beq_eq_false_iff_ne];exact fun h=>g2 h.symm
         have HR:Hid (okCH ((i1,i2),e)=false):=decide_eq_false (fun h=>g2 (by have:=HF.out.symm.trans h.2.2;injection this));clear g2;refine wp_region_ext (by kernel_rfl) (by kernel_rfl) ?_;repeat (go_big_quiet_step ((go_at_call 33;exact ext_call (HOF.out _ (wext_below _)))))
         refine wpQuiet_nil ?_;intro w4 hb4;have HB4:=hid ((HB1.out.trans (hb4.mono HB1.out.size)));clear hb4 b0 b1 b2;go_wp2_with fail
         go_ret;exact gb HR.out HB4.out
       have hne:(f1==i1)=false:=by rw [beq_eq_false_iff_ne];exact g1
       have hne2:(i1==f1)=false:=by rw [beq_eq_false_iff_ne];exact fun h=>g1 h.symm
       have HR:Hid (okCH ((i1,i2),e)=false):=decide_eq_false (fun h=>g1 (by have:=HF.out.symm.trans h.2.2;injection this));clear g1;refine wp_region_ext (by kernel_rfl) (by kernel_rfl) ?_;repeat (go_big_quiet_step ((go_at_call 33;exact ext_call (HOF.out _ (wext_below _)))))
       refine wpQuiet_nil ?_;intro w4 hb4;have HB4:=hid ((HB1.out.trans (hb4.mono HB1.out.size)));clear hb4 b0 b1 b2;go_wp2_with fail
       go_ret;exact gb HR.out HB4.out
     have hle:((e.bs.length:Int)==i2)=false:=by rw [beq_eq_false_iff_ne];exact hlen
     have HR:Hid (okCH ((i1,i2),e)=false):=decide_eq_false (fun h=>hlen (by have:=h.2.2;exact congrArg Prod.snd this));clear hlen;refine wp_region_ext (by kernel_rfl) (by kernel_rfl) ?_;repeat (go_big_quiet_step (fail))
     refine wpQuiet_nil ?_;intro w4 hb4;have HB4:=hid ((HB1.out.trans (hb4.mono HB1.out.size)));clear hb4 b0 b1 b2;go_wp2_with fail
     go_ret;exact gb HR.out HB4.out
   have HR:Hid (okCH ((i1,i2),e)=false):=decide_eq_false (fun h=>h2 h.2.1);refine wp_region_ext (by kernel_rfl) (by kernel_rfl) ?_;repeat (go_big_quiet_step (fail))
   refine wpQuiet_nil ?_;intro w4 hb4;have HB4:=hid ((HB1.out.trans (hb4.mono HB1.out.size)));clear hb4 b0 b1 b2;go_wp2_with fail
   go_ret;exact gb HR.out HB4.out
 have HR:Hid (okCH ((i1,i2),e)=false):=decide_eq_false (fun h=>h1 h.1);refine wp_region_ext (by kernel_rfl) (by kernel_rfl) ?_;repeat (go_big_quiet_step (fail))
 refine wpQuiet_nil ?_;intro w4 hb4;have HB4:=hid ((HB1.out.trans (hb4.mono HB1.out.size)));clear hb4 b0 b1 b2;go_wp2_with fail
 go_ret;exact gb HR.out HB4.out
set_option maxHeartbeats 4000000 in
theorem rRight_any (i1 i2:Int) (e:BS) (w:World) (h:BSok w e) (hn:e.bs.length<=1099511627776):
 Calls Tryz.prog 72 #[.agg #[.int .u64 i1,.int .i64 i2,.slice e.d.A e.bs.length e.d.cap]] w (Gives (.bool (okCH ((i1,i2),e))) w):=by
 obtain ⟨w1,HW⟩:∃ W,Hid (w.alloc (.cells #[.int .u64 i1,.int .i64 i2,.slice e.d.A e.bs.length e.d.cap] 42)=W):=⟨_,rfl⟩;have HI:Hid (IsB w1 w.heap.size 42 #[.int .u64 i1,.int .i64 i2,.slice e.d.A e.bs.length e.d.cap]):=by rw [Hid, <- HW.out];exact IsB.new _ _ _
 have HB1:Hid (Below w.heap.size w w1):=by rw [Hid, <- HW.out];exact bel1 _ _
 have HBS:=hid h;clear h;go_enter Tryz.func72,Tryz.ntmps72;go_upto_region 1 with fail
 rw [HW.out];clear HW;have b0:=HI.out.cell 0;have b1:=HI.out.cell 1;have b2:=HI.out.cell 2;have hlX:=HI.out.lt;have HOF:=hid (fun (W:World) (hb:Below w1.heap.size w1 W)=>rOf_any e.d.A e.d.cap e.bs W ((HBS.out.1.on HB1.out).on hb) hn);obtain ⟨f1,f2,HF⟩:∃ f1 f2,Hid (fpOf e.bs=(f1,f2)):=⟨_,_,rfl⟩;have HF2:Hid (f2=(e.bs.length:Int)):=(congrArg Prod.snd HF.out).symm;rw [HF.out] at HOF;by_cases h1:1<=i2
 · by_cases h2:i2<=8192
   · have h3:=True.intro;by_cases g1:f1=i1
     · have g1:=g1.symm;subst g1;by_cases g2:f2=i2
       · have g2:=g2.symm;subst g2;have HR:Hid (okCH ((i1,i2),e)=true):=decide_eq_true ⟨h1,h2,HF.out⟩;refine wp_region_ext (by kernel_rfl) (by kernel_rfl) ?_;repeat (go_big_quiet_step ((go_at_call 70;exact ext_call (HOF.out _ (wext_below _)))))
         refine wpQuiet_nil ?_;intro w4 hb4;have HB4:=hid ((HB1.out.trans (hb4.mono HB1.out.size)));clear hb4 b0 b1 b2;go_wp2_with fail
         go_ret;exact gb HR.out HB4.out
       have hne:(f2==i2)=false:=by rw [beq_eq_false_iff_ne];exact g2
       have hne2:(i2==f2)=false:=by rw [beq_eq_false_iff_ne];exact fun h=>g2 h.symm
       have HR:Hid (okCH ((i1,i2),e)=false):=decide_eq_false (fun h=>g2 (by have:=HF.out.symm.trans h.2.2;injection this));clear g2;refine wp_region_ext (by kernel_rfl) (by kernel_rfl) ?_;repeat (go_big_quiet_step ((go_at_call 70;exact ext_call (HOF.out _ (wext_below _)))))
       refine wpQuiet_nil ?_;intro w4 hb4;have HB4:=hid ((HB1.out.trans (hb4.mono HB1.out.size)));clear hb4 b0 b1 b2;go_wp2_with fail
       go_ret;exact gb HR.out HB4.out
     have hne:(f1==i1)=false:=by rw [beq_eq_false_iff_ne];exact g1
     have hne2:(i1==f1)=false:=by rw [beq_eq_false_iff_ne];exact fun h=>g1 h.symm
     have HR:Hid (okCH ((i1,i2),e)=false):=decide_eq_false (fun h=>g1 (by have:=HF.out.symm.trans h.2.2;injection this));clear g1;refine wp_region_ext (by kernel_rfl) (by kernel_rfl) ?_;repeat (go_big_quiet_step ((go_at_call 70;exact ext_call (HOF.out _ (wext_below _)))))
     refine wpQuiet_nil ?_;intro w4 hb4;have HB4:=hid ((HB1.out.trans (hb4.mono HB1.out.size)));clear hb4 b0 b1 b2;go_wp2_with fail
     go_ret;exact gb HR.out HB4.out
   have HR:Hid (okCH ((i1,i2),e)=false):=decide_eq_false (fun h=>h2 h.2.1);refine wp_region_ext (by kernel_rfl) (by kernel_rfl) ?_;repeat (go_big_quiet_step (fail))
   refine wpQuiet_nil ?_;intro w4 hb4;have HB4:=hid ((HB1.out.trans (hb4.mono HB1.out.size)));clear hb4 b0 b1 b2;go_wp2_with fail
   go_ret;exact gb HR.out HB4.out
 have HR:Hid (okCH ((i1,i2),e)=false):=decide_eq_false (fun h=>h1 h.1);refine wp_region_ext (by kernel_rfl) (by kernel_rfl) ?_;repeat (go_big_quiet_step (fail))
 refine wpQuiet_nil ?_;intro w4 hb4;have HB4:=hid ((HB1.out.trans (hb4.mono HB1.out.size)));clear hb4 b0 b1 b2;go_wp2_with fail
 go_ret;exact gb HR.out HB4.out
end Go.Proofs.YtmiknfneeipkeaaGreat
namespace Go.Proofs.YtmiknfneeipkeaaGreat
open Go.RowKit Go.MapKept Go.ChangeMaps Go.Shelf Go.Sort
def bxOb (d:BD) (bs:List UInt8):Ob where
 own:=fun i=>blk d=some i
 rd:=fun _=>False
 holds:=fun w=>RX w d bs/\∀ i,blk d=some i->i<w.heap.size
 stable:=fun w w' h hs hk=>by
  refine ⟨?_,fun i hi=>Nat.lt_of_lt_of_le (h.2 i hi) hs.2.2.2⟩;rcases h.1 with h1 | ⟨h1,h2,h3,h4⟩
  · exact .inl ((bufOb d bs).stable w w' h1 hs hk)
  refine .inr ⟨h1,h2,h3,h4.1,fun ad e j u hu=>?_⟩;rw [<- h4.2 ad e j u hu];have hb:=hk ad.block (.inl (by rw [blk,e];rfl));have ha:(ad.add j).block=ad.block:=by unfold Addr.add;split<;>rfl
  simp [World.cell?, ha,hb]
theorem AppB.frX {w w':World} {d d':BD} {bs bs':List UInt8} (h:AppB w d bs' d' w') (hr:RX w d bs):Fr w w' (bxOb d bs).own (bufOb d' bs').own:=by
 rcases hr with hr | ⟨_,hlc,_,_⟩
 · exact h.fr hr
 obtain ⟨_,⟨e1,_,_,hc⟩ | ⟨H,e1,e2,hb⟩⟩:=h
 · refine ⟨hc.os,hc.tape,hc.output,hc.size,fun i hi hn=>hc.block i hi (fun h=>h) (fun p hp he=>hn ?_),fun i hi=> .inl ?_⟩
   · obtain ⟨A,n,c⟩:=d;simp only at hlc;subst hlc;cases A<;>simp [room] at hp
   show blk d=some i;rw [<- e1];exact hi
 exact Fr.new hb (fun i hi=> .inr (by
  have h1:blk d'=some i:=hi;rw [e1] at h1;injection h1 with h1;omega))
section
variable {b:Nat} {w0 w w':World} {l:List Ob}
theorem SW.appX {d d':BD} {bs bs':List UInt8} (h:SW b w0 (bxOb d bs::l) w) (ha:AppB w d bs' d' w'):SW b w0 (bufOb d' bs'::l) w':=by
 have hr:=h.get 0 (o:=bxOb d bs) rfl
 have:=h.1.stepAt 0 rfl (o':=bufOb d' bs') (ha.frX hr.1) (fun i hi=>hi.elim) ha.1 (fun i hi=>by
  rcases hi with hi | hi
  · exact ha.1.lt hi
  exact hi.elim)
 exact ⟨this.1,h.2.trans this.2⟩
theorem SW.bufX {d:BD} {bs:List UInt8} (h:SW b w0 (bufOb d bs::l) w):SW b w0 (bxOb d bs::l) w:=by
 have hr:RB w d bs:=h.get 0 (o:=bufOb d bs) rfl;exact h.seen (o':=bxOb d bs) ⟨.inl hr,fun i hi=>hr.lt hi⟩ (fun i hi=>hi) (fun _ h=>h)
theorem SW.newX (h:SW b w0 l w) (cs:Array Value) (fz:Nat×Nat) (bs:List UInt8) (n:Nat) (hn:bs.length=n) (h0:0<n) (hc:bs.map encU=cs.toList):SW b w0 (bxOb ⟨some ⟨w.heap.size,0,none⟩,n,n⟩ bs::l) (w.alloc (.cells cs 5 fz)):=by
 have:=h.1.add (o':=bxOb ⟨some ⟨w.heap.size,0,none⟩,n,n⟩ bs) (bel1q w (.cells cs 5 fz)) ⟨full_rx w cs fz bs n hn h0 hc,fun i hi=>by
  have e:w.heap.size=i:=by injection hi
  simp [<- e]⟩ (fun i hi=>by
  have e:w.heap.size=i:=by injection hi
  simp [<- e]) (fun i hi=>hi.elim) (fun i hi=>hi.elim)
 exact ⟨this.1,h.2.trans this.2⟩
section
variable {ops:Array Oper} {rest:List Oper} {o:Oper} {a:Act} {Q:Exit->Act->World->Prop}
theorem wpList_bufS {d:BD} {bs:List UInt8} (h:SW b w0 (bufOb d bs::l) w) (hgd:o.guard=none) (s x:Operand) (ho:o.op= .call { callee:=.builtin .append,args:= #[s,x],argTypes:= #[40,40] }) (hs:a.eval s=vB d)
 (A:Option Addr) (n c:Nat) (ns:List UInt8) (hx:a.eval x= .slice A n c) (hn:ns.length=n) (hsrc:SB w A ns) (hb:bs.length+n<=1099511627776)
 (hK:∀ d' w',SW b w0 (bufOb d' (bs++ns)::l) w'->wpList Tryz.prog ops Q rest (a.put o.dst (vB d')) w'):wpList Tryz.prog ops Q (o::rest) a w:=by
 subst hn;exact wpList_append_bytes hgd s x ho d bs hs (h.get 0 (o:=bufOb d bs) rfl) A c ns hx hsrc hb (fun d' w' _ happ=>hK d' w' (h.appB 0 rfl happ))
theorem wpList_bufX {d:BD} {bs:List UInt8} (h:SW b w0 (bxOb d bs::l) w) (hgd:o.guard=none) (s x:Operand) (ho:o.op= .call { callee:=.builtin .append,args:= #[s,x],argTypes:= #[40,40] }) (hs:a.eval s=vB d)
 (A:Option Addr) (n c:Nat) (ns:List UInt8) (hx:a.eval x= .slice A n c) (hn:ns.length=n) (h0:0<n) (hsrc:SB w A ns) (hb:bs.length+n<=1099511627776)
 (hK:∀ d' w',SW b w0 (bufOb d' (bs++ns)::l) w'->wpList Tryz.prog ops Q rest (a.put o.dst (vB d')) w'):wpList Tryz.prog ops Q (o::rest) a w:=by
 subst hn;exact wpList_append_rx hgd s x ho d bs hs (h.get 0 (o:=bxOb d bs) rfl).1 A c ns hx hsrc h0 hb (fun d' w' _ happ=>hK d' w' (h.appX happ))
end
end
end Go.Proofs.YtmiknfneeipkeaaGreat
namespace Go.Proofs.YtmiknfneeipkeaaGreat
open Go.RowKit Go.MapKept Go.ChangeMaps Go.Shelf Go.Sort
attribute [local go_sem] wext_cell
def frameP (e:CH):List UInt8:=[1]++putU e.2.bs.length++putU (fpSum e.2.bs)++e.2.bs
def packF (T:List CH):List UInt8:=[83,89,80,75]++T.flatMap frameP
def packB (T:List CH):List UInt8:=packF T++[0]++putU T.length
def packP (T:List CH):List UInt8:=packB T++putU (fpSum (packB T))
theorem packF_snoc (T:List CH) (e:CH):packF (T++[e])=packF T++frameP e:=by simp [packF,List.append_assoc]
theorem packF_le (T:List CH) (k:Nat):(packF (T.take k)).length<=(packF T).length:=by
 have:packF T=packF (T.take k)++(T.drop k).flatMap frameP:=by
  have e:T.flatMap frameP=(T.take k).flatMap frameP++(T.drop k).flatMap frameP:=by
   rw [<- List.flatMap_append,List.take_append_drop]
  rw [packF,e,packF,List.append_assoc]
 rw [this,List.length_append];omega
theorem okCH_eq {i1 i2:Int} {e:BS} (h:okCH ((i1,i2),e)=true):i1=((fpSum e.bs:Nat):Int)/\i2=((e.bs.length:Nat):Int)/\1<=e.bs.length/\e.bs.length<=8192:=by
 have h:=of_decide_eq_true h;simp only at h;have h1:((fpSum e.bs:Nat):Int)=i1:=congrArg Prod.fst h.2.2;have h2:((e.bs.length:Nat):Int)=i2:=congrArg Prod.snd h.2.2;exact ⟨h1.symm,h2.symm,by omega,by omega⟩
section
variable {b:Nat} {w0 w w':World} {l:List Ob}
set_option maxRecDepth 100000 in
set_option maxHeartbeats 8000000 in
theorem encode_any (h:SW b w0 l w) {C:Option Addr} {T:List CH} (hc:cxOb C T∈l) (hok:∀ e∈T,okCH e=true) (ha:T.Pairwise (fun a b=>ltID a.1 b.1=true)) (hl:(packP T).length<=1048576) (hTn:T.length<=1048576) (c:Nat):
 Calls Tryz.prog 42 #[.slice C T.length c] w (fun e w'=>∃ d,e= .returned (.tuple #[vB d,.int .i64 0])/\SW b w0 (bufOb d (packP T)::l) w'):=by
 have HC:=hid hc;have HOK:=hid hok;have HA:=hid ha;have HL:=hid hl;have S0:=hid (h.newX #[.int .u8 83,.int .u8 89,.int .u8 80,.int .u8 75] (4,5) [83,89,80,75] 4 rfl (by decide) rfl)
 have hFl:(packF T).length+1+(putU T.length).length+(putU (fpSum (packB T))).length<=1048576:=by
  have:=hl;simp only [packP,packB,List.length_append,List.length_singleton] at this;simp only [packB];omega
 have HFL:=hid hFl;have hFT:(packF T).length<=1048576:=by omega
 clear h hc hok ha hl hFl;have hcv:=Lib.run_convert_bytes_const (P:=Tryz.prog) w 40 5 #[.int .u8 83,.int .u8 89,.int .u8 80,.int .u8 75] 4 4 Tryz.underlying40 Tryz.underlying5;go_enter Tryz.func42,Tryz.ntmps42;go_upto_region 2 with fail
 clear hcv;obtain ⟨w1,HW⟩:∃ W,Hid (w.alloc (.cells #[.int .u8 83,.int .u8 89,.int .u8 80,.int .u8 75] 5 (4,5))=W):=⟨_,rfl⟩;rw [HW.out] at S0 |-; clear HW;go_wp2_with fail
 go_loopw [4,11] (fun s4 s11 wr=>∃ (k:Nat) (d:BD),k<=T.length/\s11= .int .i64 (k:Int)/\s4= .slice d.A d.len d.cap/\d.len=(packF (T.take k)).length/\SW b w0 (bxOb d (packF (T.take k))::l) wr) (fun _ s11 _=>T.length-(intOf s11).toNat)
 case atStart=>exact ⟨0,⟨some ⟨w.heap.size,0,none⟩,4,4⟩,Nat.zero_le _,rfl,rfl,rfl,S0.out⟩
 obtain ⟨k,d,hk,rfl,rfl,hdl,hs⟩:=hrel;have S1:=hid hs;have hdm:d.len<=1048576:=by have:=packF_le T k;omega
 have HDL:=hid hdl;have hfl:=packF_le T k;clear hs S0 hdl;by_cases hlt:k<T.length
 · obtain ⟨⟨⟨i1,i2⟩,e⟩,hte⟩:∃ e,T.getD k ch0=e:=⟨_,rfl⟩;have hmem:((i1,i2),e)∈T:=by rw [<- hte];exact getD_mem _ _ _ hlt
   have hoke:=HOK.out _ hmem;obtain ⟨rfl,rfl,hl1,hl2⟩:=okCH_eq hoke;have HTK:Hid (packF (T.take (k+1))=packF (T.take k)++frameP (((fpSum e.bs:Nat),(e.bs.length:Nat)),e)):=by rw [Hid,take_snoc _ ch0 _ hlt,hte,packF_snoc]
   obtain ⟨gT,o,rfl,hgT,c0,c1,c2,hbs⟩:=cx_at (S1.out.1.holds _ (.tail _ HC.out)) hlt hte;have HBS:=hid hbs;have S2:=hid (S1.out.newCell 42 #[.int .u64 ((fpSum e.bs:Nat):Int),.int .i64 ((e.bs.length:Nat):Int),.slice e.d.A e.bs.length e.d.cap]);have HRI:=hid (right_any ((fpSum e.bs:Nat):Int) ((e.bs.length:Nat):Int) e _ ⟨hbs.1.on (bel1q wr (.cells #[.int .u64 ((fpSum e.bs:Nat):Int),.int .i64 ((e.bs.length:Nat):Int),.slice e.d.A e.bs.length e.d.cap] 42)),hbs.2⟩ (by omega));rw [hoke] at HRI;clear hbs hoke hmem;go_wp2_with (go_at_call 89;(with_reducible refine HRI.out.mono ?_);refine halt_ ?_)
   rintro e9 w2 ⟨rfl,hb2⟩;have S3:=hid (S2.out.on hb2);have b0:=(S3.out.cell 0 rfl).cell 0;have b1:=(S3.out.cell 0 rfl).cell 1;have hlX:=(S3.out.cell 0 rfl).lt;have HTE:=hid hte;clear hb2 S2 S1 c0 c1 c2 HRI hgT hte;by_cases hk0:k=0
   · have hkd:decide (0<k)=false:=by simp [hk0]
     clear hk0;go_wp2_with fail
     refine wp_region_ext (by kernel_rfl) (by kernel_rfl) ?_;repeat (go_big_quiet_step (fail))
     refine wpQuiet_nil ?_;intro w4 hb4;have S4:=hid (S3.out.on hb4);clear hb4 S3 b0 b1 hlX;have hlen9:¬ 1048576<d.len:=by omega
     have S5:Hid (SW b w0 (bxOb d (packF (T.take k))::cellOb wr.heap.size 42 #[.int .u64 ((fpSum e.bs:Nat):Int),.int .i64 ((e.bs.length:Nat):Int),.slice e.d.A e.bs.length e.d.cap]::l) w4):=SW.front (pre:=[_,_]) S4.out [1,0] (n:=2) rfl (by decide);have HP:=hid (sb_one w4 1 1 (by decide));clear S4;go_wp2_with (at_builtin;refine halt_q ?_)
     refine wpList_bufX (S5.out.alloc _) rfl _ _ rfl rfl (some ⟨w4.heap.size,0,none⟩) 1 1 [1] rfl rfl (by decide) HP.out (by have:=HDL.out;omega) ?_;intro d5 w5 s5;have S6:=hid s5
     have hfr:(packF (T.take k)).length+(1+(putU e.bs.length).length+(putU (fpSum e.bs)).length+e.bs.length)<=1048576:=by
      have h1:=packF_le T (k+1);rw [HTK.out] at h1;simp only [frameP,List.length_append,List.length_singleton] at h1;omega
     have f1:=(S6.out.cell 1 rfl).cell 1;have HP1:=hid (PutUint_nil e.bs.length w5 (by omega));clear s5 S5 HP;unfold vB;go_wp2_with (go_at_call 43;(with_reducible refine HP1.out.mono ?_);refine halt_ ?_)
     rintro e6 w6 ⟨d6,rfl,hr6,_,hb6⟩;have S7:=hid (S6.out.on hb6);have R6:=hid hr6;clear S6 HP1 hr6 hb6 f1;unfold vB;go_wp2_with (at_builtin;refine halt_q ?_)
     refine wpList_bufS S7.out rfl _ _ rfl rfl d6.A d6.len d6.cap (putU e.bs.length) rfl R6.out.1 R6.out.src (by rw [<- R6.out.1];simp only [List.length_append,List.length_singleton];omega) ?_;intro d7 w7 s7;have S8:=hid s7;have f0:=(S8.out.cell 1 rfl).cell 0;have HP2:=hid (PutUint_nil (fpSum e.bs) w7 (by have:=fpSum_lt e.bs;unfold pP at this;omega));clear S7 s7 R6;unfold vB;go_wp2_with (go_at_call 43;(with_reducible refine HP2.out.mono ?_);refine halt_ ?_)
     rintro e8 w8 ⟨d8,rfl,hr8,_,hb8⟩;have S9:=hid (S8.out.on hb8);have R8:=hid hr8;clear S8 HP2 hr8 hb8 f0;unfold vB;go_wp2_with (at_builtin;refine halt_q ?_)
     refine wpList_bufS S9.out rfl _ _ rfl rfl d8.A d8.len d8.cap (putU (fpSum e.bs)) rfl R8.out.1 R8.out.src (by rw [<- R8.out.1];simp only [List.length_append,List.length_singleton];omega) ?_;intro d9 w9 s9;have SA:=hid s9;have f2:=(SA.out.cell 1 rfl).cell 2;have hm9:((((fpSum e.bs:Nat):Int),((e.bs.length:Nat):Int)),e)∈T:=by rw [<- HTE.out];exact getD_mem _ _ _ hlt
     have HSB:=hid (((SA.out.1.holds _ (.tail _ (.tail _ HC.out))).2 _ hm9).1.sb);clear S9 s9 R8;unfold vB;go_wp2_with (at_builtin;refine halt_q ?_)
     refine wpList_bufS SA.out rfl _ _ rfl rfl e.d.A e.bs.length e.d.cap e.bs rfl rfl HSB.out (by simp only [List.length_append,List.length_singleton];omega) ?_;intro d10 w10 s10
     have SB:Hid (SW b w0 (bufOb d10 (packF (T.take (k+1)))::l) w10):=by
      have h1:=SW.sub s10 (l':=bufOb d10 _::l) (.cons_cons _ (.cons _ (List.Sublist.refl _)));rw [Hid,HTK.out,frameP, <- List.append_assoc, <- List.append_assoc, <- List.append_assoc];exact h1
     have HD10:Hid (d10.len=(packF (T.take (k+1))).length):=((SB.out.get 0 (o:=bufOb d10 (packF (T.take (k+1)))) rfl:RB w10 d10 (packF (T.take (k+1)))).1).symm;clear SA s10 HSB f2;unfold vB;go_wp2_with fail
     go_roundw
     case rel=>exact ⟨k+1,d10,by omega,by go_num,rfl,HD10.out,SB.out.bufX⟩
     simp [intOf];omega
   have hkd:decide (0<k)=true:=by simp;omega
   have hk1:0<k:=by omega
   have ek:((k:Int)-1).toNat=k-1:=by omega
   obtain ⟨⟨⟨p1,p2⟩,pe⟩,hpe⟩:∃ e,T.getD (k-1) ch0=e:=⟨_,rfl⟩;obtain ⟨g2,o2,e7,hgT2,a0,a1,_,_⟩:=cx_at (S3.out.1.holds _ (.tail _ (.tail _ HC.out))) (show k-1<T.length by omega) hpe;injection e7 with e7;injection e7 with e7 e8 _;subst e7 e8
   have hlo:ltID (p1,p2) (((fpSum e.bs:Nat):Int),((e.bs.length:Nat):Int))=true:=by
    have:=List.pairwise_iff_getElem.1 HA.out (k-1) k (by omega) hlt (by omega);have e1:T[k-1]=((p1,p2),pe):=by rw [<- hpe,List.getD_eq_getElem?_getD,List.getElem?_eq_getElem (by omega)];rfl
    have e2:T[k]=((((fpSum e.bs:Nat):Int),((e.bs.length:Nat):Int)),e):=by rw [<- HTE.out,List.getD_eq_getElem?_getD,List.getElem?_eq_getElem hlt];rfl
    rw [e1,e2] at this;exact this
   have hcm:=cmpID_lt hlo;have hcb:=cmpID_bd (p1,p2) (((fpSum e.bs:Nat):Int),((e.bs.length:Nat):Int));have HCM:=hid (fun W=>pcmp_any p1 p2 ((fpSum e.bs:Nat):Int) ((e.bs.length:Nat):Int) W);generalize cmpID (p1,p2) (((fpSum e.bs:Nat):Int),((e.bs.length:Nat):Int))=cm at hcm hcb HCM;clear hlo hk0 hpe;go_wp2_with fail
   refine wp_region_ext (by kernel_rfl) (by kernel_rfl) ?_;repeat (go_big_quiet_step ((go_at_call 90;exact ext_call (HCM.out _))))
   refine wpQuiet_nil ?_;intro w4 hb4;have S4:=hid (S3.out.on hb4);clear hb4 S3 b0 b1 hlX a0 a1 HCM hgT2;have hlen9:¬ 1048576<d.len:=by omega
   have S5:Hid (SW b w0 (bxOb d (packF (T.take k))::cellOb wr.heap.size 42 #[.int .u64 ((fpSum e.bs:Nat):Int),.int .i64 ((e.bs.length:Nat):Int),.slice e.d.A e.bs.length e.d.cap]::l) w4):=SW.front (pre:=[_,_]) S4.out [1,0] (n:=2) rfl (by decide);have HP:=hid (sb_one w4 1 1 (by decide));clear S4;go_wp2_with (at_builtin;refine halt_q ?_)
   refine wpList_bufX (S5.out.alloc _) rfl _ _ rfl rfl (some ⟨w4.heap.size,0,none⟩) 1 1 [1] rfl rfl (by decide) HP.out (by have:=HDL.out;omega) ?_;intro d5 w5 s5;have S6:=hid s5
   have hfr:(packF (T.take k)).length+(1+(putU e.bs.length).length+(putU (fpSum e.bs)).length+e.bs.length)<=1048576:=by
    have h1:=packF_le T (k+1);rw [HTK.out] at h1;simp only [frameP,List.length_append,List.length_singleton] at h1;omega
   have f1:=(S6.out.cell 1 rfl).cell 1;have HP1:=hid (PutUint_nil e.bs.length w5 (by omega));clear s5 S5 HP;unfold vB;go_wp2_with (go_at_call 43;(with_reducible refine HP1.out.mono ?_);refine halt_ ?_)
   rintro e6 w6 ⟨d6,rfl,hr6,_,hb6⟩;have S7:=hid (S6.out.on hb6);have R6:=hid hr6;clear S6 HP1 hr6 hb6 f1;unfold vB;go_wp2_with (at_builtin;refine halt_q ?_)
   refine wpList_bufS S7.out rfl _ _ rfl rfl d6.A d6.len d6.cap (putU e.bs.length) rfl R6.out.1 R6.out.src (by rw [<- R6.out.1];simp only [List.length_append,List.length_singleton];omega) ?_;intro d7 w7 s7;have S8:=hid s7;have f0:=(S8.out.cell 1 rfl).cell 0;have HP2:=hid (PutUint_nil (fpSum e.bs) w7 (by have:=fpSum_lt e.bs;unfold pP at this;omega));clear S7 s7 R6;unfold vB;go_wp2_with (go_at_call 43;(with_reducible refine HP2.out.mono ?_);refine halt_ ?_)
   rintro e8 w8 ⟨d8,rfl,hr8,_,hb8⟩;have S9:=hid (S8.out.on hb8);have R8:=hid hr8;clear S8 HP2 hr8 hb8 f0;unfold vB;go_wp2_with (at_builtin;refine halt_q ?_)
   refine wpList_bufS S9.out rfl _ _ rfl rfl d8.A d8.len d8.cap (putU (fpSum e.bs)) rfl R8.out.1 R8.out.src (by rw [<- R8.out.1];simp only [List.length_append,List.length_singleton];omega) ?_;intro d9 w9 s9;have SA:=hid s9;have f2:=(SA.out.cell 1 rfl).cell 2;have hm9:((((fpSum e.bs:Nat):Int),((e.bs.length:Nat):Int)),e)∈T:=by rw [<- HTE.out];exact getD_mem _ _ _ hlt
   have HSB:=hid (((SA.out.1.holds _ (.tail _ (.tail _ HC.out))).2 _ hm9).1.sb);clear S9 s9 R8;unfold vB;go_wp2_with (at_builtin;refine halt_q ?_)
   refine wpList_bufS SA.out rfl _ _ rfl rfl e.d.A e.bs.length e.d.cap e.bs rfl rfl HSB.out (by simp only [List.length_append,List.length_singleton];omega) ?_;intro d10 w10 s10
   have SB:Hid (SW b w0 (bufOb d10 (packF (T.take (k+1)))::l) w10):=by
    have h1:=SW.sub s10 (l':=bufOb d10 _::l) (.cons_cons _ (.cons _ (List.Sublist.refl _)));rw [Hid,HTK.out,frameP, <- List.append_assoc, <- List.append_assoc, <- List.append_assoc];exact h1
   have HD10:Hid (d10.len=(packF (T.take (k+1))).length):=((SB.out.get 0 (o:=bufOb d10 (packF (T.take (k+1)))) rfl:RB w10 d10 (packF (T.take (k+1)))).1).symm;clear SA s10 HSB f2;unfold vB;go_wp2_with fail
   go_roundw
   case rel=>exact ⟨k+1,d10,by omega,by go_num,rfl,HD10.out,SB.out.bufX⟩
   simp [intOf];omega
 obtain rfl:k=T.length:=by omega
 rw [List.take_length] at S1 HDL;have hdl:=HDL.out;have HP:=hid (sb_one wr 0 0 (by decide));have HFL2:=HFL.out;go_wp2_with (at_builtin;refine halt_q ?_)
 refine wpList_bufX (S1.out.alloc _) rfl _ _ rfl rfl (some ⟨wr.heap.size,0,none⟩) 1 1 [0] rfl rfl (by decide) HP.out (by omega) ?_;intro d5 w5 s5;have S6:=hid s5;have HP1:=hid (PutUint_nil T.length w5 (by omega));clear s5 S1 HP hdl HDL;unfold vB;go_wp2_with (go_at_call 43;(with_reducible refine HP1.out.mono ?_);refine halt_ ?_)
 rintro e6 w6 ⟨d6,rfl,hr6,_,hb6⟩;have S7:=hid (S6.out.on hb6);have R6:=hid hr6;clear S6 HP1 hr6 hb6;unfold vB;go_wp2_with (at_builtin;refine halt_q ?_)
 refine wpList_bufS S7.out rfl _ _ rfl rfl d6.A d6.len d6.cap (putU T.length) rfl R6.out.1 R6.out.src (by rw [<- R6.out.1];simp only [List.length_append,List.length_singleton];omega) ?_;intro d7 w7 s7;have S8:Hid (SW b w0 (bufOb d7 (packB T)::l) w7):=s7
 have HBL:Hid ((packB T).length<=1048576):=by
  rw [Hid,packB];simp only [List.length_append,List.length_singleton];omega
 have R7:Hid (RB w7 d7 (packB T)):=S8.out.get 0 (o:=bufOb d7 (packB T)) rfl
 have HS:Hid (Calls Tryz.prog 77 #[.slice d7.A d7.len d7.cap] w7 (fun e w'=>e= .returned (.int .u64 ((fpSum (packB T):Nat):Int))/\w7=w')):=by
  rw [Hid, <- R7.out.1];exact Sum_any d7.A d7.cap (packB T) w7 R7.out.rs (by have:=HBL.out;omega)
 clear S7 s7 R6;unfold vB;go_wp2_with (go_at_call 77;(with_reducible refine HS.out.mono ?_);refine halt_ ?_)
 rintro e8 w8 ⟨rfl,rfl⟩;have HP2:=hid (PutUint_nil (fpSum (packB T)) w7 (by have:=fpSum_lt (packB T);unfold pP at this;omega));go_wp2_with (go_at_call 43;(with_reducible refine HP2.out.mono ?_);refine halt_ ?_)
 rintro e8 w8 ⟨d8,rfl,hr8,_,hb8⟩;have S9:=hid (S8.out.on hb8);have R8:=hid hr8;clear S8 HP2 hr8 hb8 HS R7;unfold vB;go_wp2_with (at_builtin;refine halt_q ?_)
 refine wpList_bufS S9.out rfl _ _ rfl rfl d8.A d8.len d8.cap (putU (fpSum (packB T))) rfl R8.out.1 R8.out.src (by rw [<- R8.out.1];have:=HBL.out;omega) ?_;intro d9 w9 s9;have SA:Hid (SW b w0 (bufOb d9 (packP T)::l) w9):=s9
 have hd9:d9.len<=1048576:=by
  have h1:RB w9 d9 (packP T):=SA.out.get 0 (o:=bufOb d9 (packP T)) rfl;rw [<- h1.1];exact HL.out
 clear S9 s9 R8;unfold vB;go_wp2_with fail
 go_ret2;exact ⟨d9,rfl,SA.out⟩
end
end Go.Proofs.YtmiknfneeipkeaaGreat
namespace Go.Proofs.YtmiknfneeipkeaaGreat
open Go.RowKit Go.MapKept Go.ChangeMaps Go.Shelf Go.Sort
theorem SW.newRowOf {b:Nat} {w0 w:World} {l:List Ob} (h:SW b w0 l w) (e:TypeId) (k n:Nat) (xs:Array Value) (hx:xs.size=n*k) (hn:n<=maxLen):SW b w0 (rowOb e k (.slice (some ⟨w.heap.size,0,none⟩) n n) n xs.toList::l) (w.alloc (.cells xs e)):=by
 have hown:(w.alloc (.cells xs e)).ownsRow 0 e k (.slice (some ⟨w.heap.size,0,none⟩) n n) n xs.toList:=by
  refine ⟨by simpa using hx,.inr ⟨w.heap.size,n,xs,rfl,Nat.zero_le _,IsB.new w e xs,Nat.le_refl _,hn,hx,?_⟩⟩;rw [List.take_of_length_le (by simp [hx])]
 have:=h.1.add (o':=rowOb e k (.slice (some ⟨w.heap.size,0,none⟩) n n) n xs.toList) (bel1q w (.cells xs e)) hown (fun i hi=>by
  have e1:w.heap.size=i:=by
   have hi:(Value.slice (some ⟨w.heap.size,0,none⟩) n n).ownBlock=some i:=hi;injection hi
  simp [<- e1]) (fun i hi=>hi.elim) (fun i hi=>hi.elim)
 exact ⟨this.1,h.2.trans this.2⟩
def numsM (m:Man):List Int:=[m.size,(m.ids.length:Int)]++m.ids.flatMap (fun i=>[i.2,i.1])
def manB (m:Man):List UInt8:=(numsM m).flatMap (fun n=>putU n.toNat)
def encN (n:Int):List Value:=[.int .u64 n]
theorem encN_len (n:Int):(encN n).length=1:=rfl
theorem info34:(Tryz.prog.info? 34).map (fun i=>(i.zero,i.size,i.bytes))=some (some (.int .u64 0),1,8):=by kernel_rfl
end Go.Proofs.YtmiknfneeipkeaaGreat
