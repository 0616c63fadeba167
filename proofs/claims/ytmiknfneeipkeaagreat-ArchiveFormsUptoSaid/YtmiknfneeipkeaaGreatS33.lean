/- Contracts of the walk, part 33. -/
import Derived.Deep.DeepAppendRoom
import Derived.Test.YtmiknfneeipkeaaGreatS30
import Derived.Test.YtmiknfneeipkeaaGreatS31
import Derived.Test.YtmiknfneeipkeaaGreatS32
import Derived.Test.YtmiknfneeipkeaaGreatS29
import Derived.Test.YtmiknfneeipkeaaGreatS27
import Derived.Test.YtmiknfneeipkeaaGreatS28
open Go.Lib (hid)
namespace Go.Proofs.YtmiknfneeipkeaaGreat
open Go.RowKit Go.MapKept Go.ChangeMaps Go.Shelf Go.Sort
attribute [local go_sem] wext_cell
def partOf (T:List CH) (i:ID):CH:=match firstR T i with
 | some x=>(i,x.2)
 | none=>(i,⟨⟨none,0,0⟩,[]⟩)
theorem part_sel {ids:List ID} {T:List CH} (ha:AllR ids T):ids.map (partOf T)=selR ids T:=by
 refine List.map_congr_left (fun i hi=>?_);obtain ⟨x,hx⟩:=Option.isSome_iff_exists.1 (ha i hi);obtain ⟨h1,_,_⟩:=firstR_id hx;simp only [partOf,hx,Option.getD_some];rw [<- h1]
section
variable {b:Nat} {w0 w w':World} {l:List Ob}
theorem SW.noIm (h:SW b w0 l w):SW b w0 (imOb none [] []::l) w:=SW.fuse (pre:=[]) h ⟨(fun hp=>by cases hp),rfl,fun j hj=>by cases hj⟩ (fun _ h=>h) (fun i hi=>by
 rcases hi with ⟨hp,_⟩ | ⟨j,hj,_⟩
 · cases hp
 cases hj)
abbrev SorQ (ms:List Man) (b:Nat) (w0:World) (l:List Ob) (e:Ending) (w':World):Prop:=
 ∃ (ok:Bool) (Y:List MP) (D:Option Addr) (d:Nat),(ok=true↔OneM ms)/\(ok=true->ConM ms (Y.map (·.2)))/\e= .returned (.tuple #[.slice D Y.length d,.bool ok])/\SW b w0 (imOb D (Y.map (·.1)) (Y.map (·.2))::l) w'
theorem rSortedQ (h:SW b w0 l w) {A:Option Addr} {rs:List MR} {ms:List Man} (hm:imOb A rs ms∈l) (hv:∀ m∈ms,manE m=0) (hn:ms.length<=600000) (hok:∀ m∈ms,∀ i∈m.ids,okID i) (c:Nat):
 Calls Tryz.prog 46 #[.slice A ms.length c] w (SorQ ms b w0 l):=
 (rSorted_any h hm hv (by omega) hok c).mono (fun e w' hp=>by
   rcases hp with ⟨h1,Y,D,d,h2,h3,h4⟩ | ⟨h1,h2,h3⟩
   · exact ⟨true,Y,D,d,⟨fun _=>h1,fun _=>rfl⟩,fun _=>h2,h3,h4⟩
   exact ⟨false,[],none,0,⟨fun h=>(by cases h),fun h=>absurd h h1⟩,fun h=>(by cases h),h2,h3.noIm⟩)
set_option maxRecDepth 100000 in
set_option maxHeartbeats 16000000 in
theorem rStore_any (h:SW b w0 l w) {A:Option Addr} {rs:List MR} {ms:List Man} (hm:imOb A rs ms∈l) (hn:ms.length<=600000) (hi:∀ m∈ms,m.ids.length<=9223372036854775807) (hok:∀ m∈ms,∀ i∈m.ids,okID i) {C:Option Addr} {T:List CH} (hc:cxOb C T∈l) (hTb:∀ e∈T,e.2.bs.length<=1099511627776) (hTn:T.length<=9223372036854775807) (hpk:AllR (setR (idsOf ms)) T->(packP (selR (setR (idsOf ms)) T)).length<=1048576) (c d:Nat):
 Calls Tryz.prog 12 #[.slice A ms.length c,.slice C T.length d] w (StoP ms T b w0 l):=by
 have HM:=hid hm;have HC:=hid hc;have HPK0:=hid hpk;have HCK:Hid (Calls Tryz.prog 45 #[.slice A ms.length c,.slice none 0 0] w (LiveP [] ms b w0 l)):=rLive_any h hm (by omega) hi none 0 [] (fun hp=>by cases hp) (by simp) c;clear hpk hm hc;go_enter Tryz.func12,Tryz.ntmps12;go_wp2_with (go_at_call 45;(with_reducible refine HCK.out.mono ?_);refine halt_ ?_)
 rintro e w1 (⟨hE,A1,c1,rfl,s1⟩ | ⟨hE,rfl,s1⟩)
 · simp only [List.nil_append] at s1;simp only [List.nil_append];have HE:=hid hE;have HV:Hid (∀ m∈ms,manE m=0):=errM_each hE;obtain ⟨ids,HID⟩:∃ x,Hid (setR (idsOf ms)=x):=⟨_,rfl⟩;rw [HID.out] at s1 |-; have S1:=hid s1;have HSO:=hid (rSortedQ S1.out (.tail _ HM.out) HV.out (by omega) hok c);have HASC:Hid (AscI ids):=by rw [Hid, <- HID.out];exact setR_strict _
   have HIK:Hid (∀ i∈ids,okID i/\1<=i.2/\i.2<=8192):=fun i hi=>by
    rw [<- HID.out,setR_mem] at hi;have hc:=chunk_of_err HE.out i hi;obtain ⟨m,hm1,hm2⟩:=List.mem_flatMap.1 hi;exact ⟨hok m hm1 i hm2,chunkB_sound hc⟩
   have HIL:Hid (ids.length<=700000000):=by
    rw [Hid, <- HID.out];have:=setR_lim HE.out;omega
   have hil:ids.length<=700000000:=HIL.out;clear hE s1 HCK h;go_wp2_with (go_at_call 46;(with_reducible refine HSO.out.mono ?_);refine halt_ ?_)
   rintro e w2 ⟨ok0,Y,D,dd,hk1,hk2,rfl,s2⟩;have HOK0:=hid hk1;have HCON0:=hid hk2;have S2:=hid (s2.newRow 42 3);clear hk1 hk2 s2 HSO S1;obtain ⟨i1,gi,gz0,gz1,gz2⟩:=info_parts info42;go_wp2_with fail
   go_loopw [9,10,11] (fun s9 s10 s11 wr=>∃ (k:Nat) (B:Option Addr) (bc:Nat) (ok:Bool),k<=ids.length/\s11= .int .i64 (k:Int)/\s10= .slice B k bc/\s9= .bool ok/\Hid (ok=true↔ok0=true/\∀ i∈ids.take k,(firstR T i).isSome=true)/\SW b w0 (rowOb 42 3 (.slice B k bc) k (((ids.take k).map (partOf T)).flatMap encCH)::imOb D (Y.map (·.1)) (Y.map (·.2))::riOb A1 ids::l) wr) (fun _ _ s11 _=>ids.length-(intOf s11).toNat)
   case atStart=>exact ⟨0,none,0,ok0,Nat.zero_le _,rfl,rfl,rfl,⟨fun h=>⟨h,fun i hi=>by cases hi⟩,fun h=>h.1⟩,S2.out⟩
   obtain ⟨k,B,bc,ok,hk,rfl,rfl,rfl,HOK,hs⟩:=hrel;have S3:=hid hs;clear hs S2;by_cases hlt:k<ids.length
   · obtain ⟨⟨j1,j2⟩,hj⟩:∃ i,ids.getD k id0=i:=⟨_,rfl⟩;have HTK:Hid (ids.take (k+1)=ids.take k++[(j1,j2)]):=by rw [Hid,take_snoc _ id0 _ hlt,hj]
     have HJ:=hid hj;obtain ⟨gI,rfl,a0,a1⟩:=SW.rowCell S3.out (A:=A1) (.tail _ (.tail _ (.head _))) hlt hj;have HFI:=hid (rFind_any S3.out (.tail _ (.tail _ (.tail _ HC.out))) hTn hTb j1 j2 d);clear hj;go_wp2_with (go_at_call 47;(with_reducible refine HFI.out.mono ?_);refine halt_ ?_)
     rintro e w4 (⟨x,hx,rfl,s4⟩ | ⟨hx,rfl,s4⟩)
     · have S4:=hid s4;have HLE:Hid (x.2.d.len=x.2.bs.length):=((s4.1.holds (cxOb C T) (.tail _ (.tail _ (.tail _ HC.out)))).2 x (firstR_id hx).2.2).2.1;have HX:=hid hx;clear S3 HFI a0 a1;have S5:=hid (S4.out.newCell 42 #[.int .u64 j1,.int .i64 j2,.slice x.2.d.A x.2.bs.length x.2.d.cap]);obtain ⟨gI',e7,a0,a1⟩:=SW.rowCell S4.out (A:=some ⟨gI,0,none⟩) (.tail _ (.tail _ (.head _))) hlt HJ.out;injection e7 with e7;injection e7 with e7 _ _;subst e7
       have HPO:Hid (encCH (partOf T (j1,j2))=[.int .u64 j1,.int .i64 j2,.slice x.2.d.A x.2.bs.length x.2.d.cap]):=by
        rw [Hid,partOf,hx];simp only [encCH,vBS];rw [HLE.out]
       clear hx s4;cases ok with
       | false=>
        go_wp2_with (at_builtin;(refine wpList_rowS (t:=23) (e:=42) (size:=3) (bytes:=40) (i:=i1) S5.out 1 rfl (by rfl) (.tmp 51) (.tmp 58) (by rfl) Tryz.underlying23 gi gz0 gz1 gz2 rfl (by omega) (by rfl) ⟨w4.heap.size,0,none⟩ 1 [.int .u64 j1,.int .i64 j2,.slice x.2.d.A x.2.bs.length x.2.d.cap] (by rfl) rfl (mthree_new _ _ _ _ _ _ rfl) (by rw [<- HPO.out];exact encCH_one (partOf T (j1,j2))) (by unfold maxLen;omega) (by omega) ?_);refine halt_ ?_)
        intro v8 w8 s8;obtain ⟨g8,c8,rfl⟩:=own_some (s8.get 1 rfl) (by omega)
        have S8:Hid (SW b w0 (rowOb 42 3 (.slice (some ⟨g8,0,none⟩) (k+1) c8) (k+1) (((ids.take (k+1)).map (partOf T)).flatMap encCH)::imOb D (Y.map (·.1)) (Y.map (·.2))::riOb (some ⟨gI,0,none⟩) ids::l) w8):=by
         rw [Hid,HTK.out,List.map_append,List.flatMap_append];simp only [List.map_cons,List.map_nil,List.flatMap_cons,List.flatMap_nil,List.append_nil];rw [HPO.out,List.map_take];exact s8.tail
        clear s8 S4 S5 a0 a1;go_wp2_with fail
        go_roundw
        case rel=>exact ⟨k+1,some ⟨g8,0,none⟩,c8,false,by omega,by go_num,rfl,rfl,⟨fun h=>(by cases h),fun h=>absurd (HOK.out.2 ⟨h.1,fun i hi=>h.2 i (by rw [HTK.out];exact List.mem_append_left _ hi)⟩) (by simp)⟩,S8.out⟩
        simp [intOf];omega
       | true=>
        go_wp2_with (at_builtin;(refine wpList_rowS (t:=23) (e:=42) (size:=3) (bytes:=40) (i:=i1) S5.out 1 rfl (by rfl) (.tmp 51) (.tmp 58) (by rfl) Tryz.underlying23 gi gz0 gz1 gz2 rfl (by omega) (by rfl) ⟨w4.heap.size,0,none⟩ 1 [.int .u64 j1,.int .i64 j2,.slice x.2.d.A x.2.bs.length x.2.d.cap] (by rfl) rfl (mthree_new _ _ _ _ _ _ rfl) (by rw [<- HPO.out];exact encCH_one (partOf T (j1,j2))) (by unfold maxLen;omega) (by omega) ?_);refine halt_ ?_)
        intro v8 w8 s8;obtain ⟨g8,c8,rfl⟩:=own_some (s8.get 1 rfl) (by omega)
        have S8:Hid (SW b w0 (rowOb 42 3 (.slice (some ⟨g8,0,none⟩) (k+1) c8) (k+1) (((ids.take (k+1)).map (partOf T)).flatMap encCH)::imOb D (Y.map (·.1)) (Y.map (·.2))::riOb (some ⟨gI,0,none⟩) ids::l) w8):=by
         rw [Hid,HTK.out,List.map_append,List.flatMap_append];simp only [List.map_cons,List.map_nil,List.flatMap_cons,List.flatMap_nil,List.append_nil];rw [HPO.out,List.map_take];exact s8.tail
        clear s8 S4 S5 a0 a1;go_wp2_with fail
        go_roundw
        case rel=>exact ⟨k+1,some ⟨g8,0,none⟩,c8,true,by omega,by go_num,rfl,rfl,⟨fun _=>⟨(HOK.out.1 (by trivial)).1,fun i hi=>by
         rw [HTK.out] at hi;rcases List.mem_append.1 hi with h | h
         · exact (HOK.out.1 (by trivial)).2 i h
         rw [List.mem_singleton.1 h,HX.out];rfl⟩,fun _=>by trivial⟩,S8.out⟩
        simp [intOf];omega
     have S4:=hid s4;have HX:=hid hx;clear S3 HFI a0 a1;have S5:=hid (S4.out.newCell 42 #[.int .u64 j1,.int .i64 j2,.slice none 0 0]);obtain ⟨gI',e7,a0,a1⟩:=SW.rowCell S4.out (A:=some ⟨gI,0,none⟩) (.tail _ (.tail _ (.head _))) hlt HJ.out;injection e7 with e7;injection e7 with e7 _ _;subst e7
     have HPO:Hid (encCH (partOf T (j1,j2))=[.int .u64 j1,.int .i64 j2,.slice none 0 0]):=by
      rw [Hid,partOf,hx];simp only [encCH,vBS]
     clear hx s4;cases ok with
     | false=>
      go_wp2_with (at_builtin;(refine wpList_rowS (t:=23) (e:=42) (size:=3) (bytes:=40) (i:=i1) S5.out 1 rfl (by rfl) (.tmp 51) (.tmp 58) (by rfl) Tryz.underlying23 gi gz0 gz1 gz2 rfl (by omega) (by rfl) ⟨w4.heap.size,0,none⟩ 1 [.int .u64 j1,.int .i64 j2,.slice none 0 0] (by rfl) rfl (mthree_new _ _ _ _ _ _ rfl) (by rw [<- HPO.out];exact encCH_one (partOf T (j1,j2))) (by unfold maxLen;omega) (by omega) ?_);refine halt_ ?_)
      intro v8 w8 s8;obtain ⟨g8,c8,rfl⟩:=own_some (s8.get 1 rfl) (by omega)
      have S8:Hid (SW b w0 (rowOb 42 3 (.slice (some ⟨g8,0,none⟩) (k+1) c8) (k+1) (((ids.take (k+1)).map (partOf T)).flatMap encCH)::imOb D (Y.map (·.1)) (Y.map (·.2))::riOb (some ⟨gI,0,none⟩) ids::l) w8):=by
       rw [Hid,HTK.out,List.map_append,List.flatMap_append];simp only [List.map_cons,List.map_nil,List.flatMap_cons,List.flatMap_nil,List.append_nil];rw [HPO.out,List.map_take];exact s8.tail
      clear s8 S4 S5 a0 a1;go_wp2_with fail
      go_roundw
      case rel=>exact ⟨k+1,some ⟨g8,0,none⟩,c8,false,by omega,by go_num,rfl,rfl,⟨fun h=>(by cases h),fun h=>absurd (HOK.out.2 ⟨h.1,fun i hi=>h.2 i (by rw [HTK.out];exact List.mem_append_left _ hi)⟩) (by simp)⟩,S8.out⟩
      simp [intOf];omega
     | true=>
      go_wp2_with (at_builtin;(refine wpList_rowS (t:=23) (e:=42) (size:=3) (bytes:=40) (i:=i1) S5.out 1 rfl (by rfl) (.tmp 51) (.tmp 58) (by rfl) Tryz.underlying23 gi gz0 gz1 gz2 rfl (by omega) (by rfl) ⟨w4.heap.size,0,none⟩ 1 [.int .u64 j1,.int .i64 j2,.slice none 0 0] (by rfl) rfl (mthree_new _ _ _ _ _ _ rfl) (by rw [<- HPO.out];exact encCH_one (partOf T (j1,j2))) (by unfold maxLen;omega) (by omega) ?_);refine halt_ ?_)
      intro v8 w8 s8;obtain ⟨g8,c8,rfl⟩:=own_some (s8.get 1 rfl) (by omega)
      have S8:Hid (SW b w0 (rowOb 42 3 (.slice (some ⟨g8,0,none⟩) (k+1) c8) (k+1) (((ids.take (k+1)).map (partOf T)).flatMap encCH)::imOb D (Y.map (·.1)) (Y.map (·.2))::riOb (some ⟨gI,0,none⟩) ids::l) w8):=by
       rw [Hid,HTK.out,List.map_append,List.flatMap_append];simp only [List.map_cons,List.map_nil,List.flatMap_cons,List.flatMap_nil,List.append_nil];rw [HPO.out,List.map_take];exact s8.tail
      clear s8 S4 S5 a0 a1;go_wp2_with fail
      go_roundw
      case rel=>exact ⟨k+1,some ⟨g8,0,none⟩,c8,false,by omega,by go_num,rfl,rfl,⟨fun h=>(by cases h),fun h=>absurd (h.2 (j1,j2) (by rw [HTK.out];simp)) (by rw [HX.out];simp)⟩,S8.out⟩
      simp [intOf];omega
   obtain rfl:k=ids.length:=by omega
   rw [List.take_length] at HOK S3;cases ok with
   | false=>
    have HNO:Hid (¬ (OneM ms/\AllR (setR (idsOf ms)) T)):=fun h=>by
     rw [HID.out] at h;exact absurd (HOK.out.2 ⟨HOK0.out.2 h.1,h.2⟩) (by simp)
    have S4:=hid S3.out.tail.tail.tail;clear S3;go_wp2_with fail
    go_ret2;exact .inr (.inl ⟨HE.out,HNO.out,rfl,S4.out⟩)
   | true=>
    have HA:Hid (AllR ids T):=(HOK.out.1 (by trivial)).2;have HO:Hid (OneM ms):=HOK0.out.1 (HOK.out.1 (by trivial)).1;have HCON:=hid (HCON0.out (HOK.out.1 (by trivial)).1);rw [part_sel HA.out] at S3
    have HPK:Hid ((packP (selR ids T)).length<=1048576):=by
     have h1:=HPK0.out;rw [HID.out] at h1;exact h1 HA.out
    have HEN:Hid (Calls Tryz.prog 28 #[.slice B ids.length bc] wr (fun e w'=>∃ d,e= .returned (.tuple #[vB d,.int .i64 0])/\SW b w0 (bufOb d (packP (selR ids T))::imOb D (Y.map (·.1)) (Y.map (·.2))::l) w')):=by
     have h1:=S3.out.rowCx (C:=C) (T:=T) (.tail _ (.tail _ HC.out)) (selR_len ids T) (selR_mem HA.out);have h2:=rPack_any h1 (.head _) (selR_ok HA.out (fun i hi=>(HIK.out i hi).2)) (selR_asc HASC.out HA.out) HPK.out (pack_cnt HPK.out) bc;rw [selR_len] at h2;refine h2.mono ?_;rintro e w' ⟨d,rfl,h⟩;exact ⟨d,rfl,SW.sub h (.cons_cons _ (.cons _ (.cons_cons _ (.cons _ (List.Sublist.refl _)))))⟩
    clear S3;go_wp2_with (go_at_call 28;(with_reducible refine HEN.out.mono ?_);refine halt_ ?_)
    rintro e w4 dp rfl s4;have S4:=hid s4;have S5:=hid (S4.out.newX #[.int .u8 83,.int .u8 89,.int .u8 65,.int .u8 82] (4,5) [83,89,65,82] 4 rfl (by decide) rfl)
    have HYN:Hid (Y.length<=600000):=by
     have h1:=conM_len HCON.out;rw [List.length_map] at h1;rw [Hid];omega
    have hyn:Y.length<=600000:=HYN.out;have HPU:=hid (rUint_any Y.length (w4.alloc (.cells #[.int .u8 83,.int .u8 89,.int .u8 65,.int .u8 82] 5 (4,5))) (by omega));have hcv:=Lib.run_convert_bytes_const (P:=Tryz.prog) w4 40 5 #[.int .u8 83,.int .u8 89,.int .u8 65,.int .u8 82] 4 4 Tryz.underlying40 Tryz.underlying5;clear HEN s4;unfold vB;go_wp2_with (go_at_call 48;(with_reducible refine HPU.out.mono ?_);refine halt_ ?_)
    rintro e w5 ⟨d5,rfl,hr5,hn5,hb5⟩;have S6:=hid (S5.out.on hb5);have R5:=hid hr5;clear hr5 hn5 hb5 HPU S4 S5 hcv;have h10:=putU_ten (v:=Y.length) (by omega);unfold vB;go_wp2_with (at_builtin;refine halt_q ?_)
    refine wpList_bufX S6.out rfl _ _ rfl rfl d5.A d5.len d5.cap (putU Y.length) rfl R5.out.1 (by rw [<- R5.out.1];exact putU_pos _) R5.out.src (by rw [<- R5.out.1];simp only [List.length_cons,List.length_nil];omega) ?_;intro d6 w6 s6
    have S7:Hid (SW b w0 (bufOb d6 (volH Y.length ((Y.map (·.2)).take 0))::bufOb dp (packP (selR ids T))::imOb D (Y.map (·.1)) (Y.map (·.2))::l) w6):=by
     rw [Hid,List.take_zero,volH_nil];exact s6
    have HYE:Hid (∀ m∈Y.map (·.2),manE m=0):=fun m hm=>HV.out m ((HCON.out.2 m).1 hm);have HYO:Hid (∀ m∈Y.map (·.2),∀ i∈m.ids,okID i):=fun m hm=>hok m ((HCON.out.2 m).1 hm)
    have HVL:Hid (∀ k,(volH Y.length ((Y.map (·.2)).take k)).length<=12400000000):=fun k=>by
     have hy:=HYN.out;have h1:=volH_le (ys:=(Y.map (·.2)).take k) (fun m hm=>HYE.out m (List.mem_of_mem_take hm)) (fun m hm=>HYO.out m (List.mem_of_mem_take hm)) (by rw [List.length_take,List.length_map];omega) Y.length;have h2:=putU_ten (v:=Y.length) (by omega);rw [List.length_take,List.length_map] at h1;omega
    clear s6 S6 R5 h10;unfold vB;go_wp2_with fail
    go_loopw [15,16] (fun s15 s16 wr=>∃ (k:Nat) (d:BD),k<=Y.length/\s16= .int .i64 (k:Int)/\s15= .slice d.A d.len d.cap/\SW b w0 (bufOb d (volH Y.length ((Y.map (·.2)).take k))::bufOb dp (packP (selR ids T))::imOb D (Y.map (·.1)) (Y.map (·.2))::l) wr) (fun _ s16 _=>Y.length-(intOf s16).toNat)
    case atStart=>exact ⟨0,d6,Nat.zero_le _,rfl,rfl,S7.out⟩
    obtain ⟨k,d,hk,rfl,rfl,hs⟩:=hrel;have S8:=hid hs;clear hs S7;by_cases hlt:k<Y.length
    · obtain ⟨⟨⟨z,rA,rn,rc⟩,m⟩,HY⟩:∃ p,Hid (Y.getD k (mr0,man0)=p):=⟨_,rfl⟩
      have e1:(Y.map (·.1)).getD k mr0=⟨z,rA,rn,rc⟩:=by
       have:(Y.map (·.1)).getD k mr0=(Y.getD k (mr0,man0)).1:=by simp [List.getD_eq_getElem?_getD,List.getElem?_eq_getElem hlt]
       rw [this,HY.out]
      have e2:(Y.map (·.2)).getD k man0=m:=by
       have:(Y.map (·.2)).getD k man0=(Y.getD k (mr0,man0)).2:=by simp [List.getD_eq_getElem?_getD,List.getElem?_eq_getElem hlt]
       rw [this,HY.out]
      have hmem:m∈Y.map (·.2):=by rw [<- e2];exact getD_mem _ _ _ (by rw [List.length_map];exact hlt)
      have HTK:Hid (volH Y.length ((Y.map (·.2)).take (k+1))=volH Y.length ((Y.map (·.2)).take k)++(putU (manB m).length++manB m)):=by
       rw [Hid,take_snoc _ man0 _ (by rw [List.length_map];exact hlt),e2,volH_snoc]
      have hM:=S8.out.1.holds (imOb D (Y.map (·.1)) (Y.map (·.2))) (.tail _ (.tail _ (.head _)));have hlk:=hM.2.2 k (by rw [List.length_map];exact hlt);rw [e1,e2] at hlk;obtain ⟨l1,l2,l3,l4⟩:=hlk;simp only at l1 l2 l3 l4;subst l1 l2;obtain ⟨gD,oD,rfl,hgD,_,hcD⟩:=hM.1 (by rw [List.length_map];omega);have p0:wr.cell? ⟨gD,oD+k*2,none⟩=some (.int .i64 m.size):=hcD k (by rw [List.length_map];exact hlt) 0 _ (by rw [e1];rfl);have p1:wr.cell? ⟨gD,oD+k*2+1,none⟩=some (.slice rA m.ids.length rc):=hcD k (by rw [List.length_map];exact hlt) 1 _ (by rw [e1];rfl);have HME:=hid (rManEnc_any _ m rA rc wr l4 (HYE.out m hmem) (HYO.out m hmem));have HBL:Hid ((manB m).length<=20500):=manB_len (HYE.out m hmem) (HYO.out m hmem);clear hM hcD e1 e2 hmem l3 l4;go_wp2_with (go_at_call 49;(with_reducible refine HME.out.mono ?_);refine halt_ ?_)
      rintro e w6 d8 rfl hbf;have S9:=hid (SW.newBuT S8.out hbf.bl hbf.rb hbf.nw);have HD8:Hid ((manB m).length=d8.len):=hbf.rb.1;have hd8:d8.len<=20500:=by rw [<- HD8.out];exact HBL.out
      have HPB:=hid (rUint_any d8.len w6 (by omega));have hp10:=putU_ten (v:=d8.len) (by omega);clear hbf S8 HME p0 p1 hgD;unfold vB;go_wp2_with (go_at_call 48;(with_reducible refine HPB.out.mono ?_);refine halt_ ?_)
      rintro e w7 ⟨d9,rfl,hr9,hn9,hb9⟩;have S10:=hid (S9.out.on hb9);have S10f:Hid (SW b w0 (bufOb d (volH Y.length ((Y.map (·.2)).take k))::bufOb d8 (manB m)::bufOb dp (packP (selR ids T))::imOb (some ⟨gD,oD,none⟩) (Y.map (·.1)) (Y.map (·.2))::l) w7):=SW.front (pre:=[_,_]) S10.out [1,0] (n:=2) rfl (by decide);have R9:=hid hr9;have hvl:=HVL.out k;clear hr9 hn9 hb9 S9 HPB S10;unfold vB;go_wp2_with (at_builtin;refine halt_q ?_)
      refine wpList_bufS S10f.out rfl _ _ rfl rfl d9.A d9.len d9.cap (putU d8.len) rfl R9.out.1 R9.out.src (by rw [<- R9.out.1];omega) ?_;intro d11 w8 s11;have S11:=hid s11
      have hbd:(volH Y.length ((Y.map (·.2)).take k)++putU d8.len).length+d8.len<=1099511627776:=by
       rw [List.length_append];omega
      clear s11 S10f R9;unfold vB;go_wp2_with (at_builtin;refine halt_q ?_)
      refine wpList_bufS S11.out rfl _ _ rfl rfl d8.A d8.len d8.cap (manB m) rfl HD8.out ((S11.out.get 1 (o:=bufOb d8 (manB m)) rfl:RB _ d8 _).src) hbd ?_;intro d12 w12 s12
      have S12:Hid (SW b w0 (bufOb d12 (volH Y.length ((Y.map (·.2)).take (k+1)))::bufOb dp (packP (selR ids T))::imOb (some ⟨gD,oD,none⟩) (Y.map (·.1)) (Y.map (·.2))::l) w12):=by
       rw [Hid,HTK.out,HD8.out, <- List.append_assoc];exact SW.sub s12 (.cons_cons _ (.cons _ (List.Sublist.refl _)))
      clear s12 S11 hbd;unfold vB;go_wp2_with fail
      go_roundw
      case rel=>exact ⟨k+1,d12,by omega,by go_num,rfl,S12.out⟩
      simp [intOf];omega
    obtain rfl:k=Y.length:=by omega
    have HTL:Hid ((Y.map (·.2)).take Y.length=Y.map (·.2)):=by
     have h1:(Y.map (·.2)).length=Y.length:=List.length_map ..; rw [Hid, <- h1,List.take_length]
    have hvl:=HVL.out Y.length;rw [HTL.out] at S8 hvl;have RP:Hid (RB wr dp (packP (selR ids T))):=S8.out.get 1 (o:=bufOb dp (packP (selR ids T))) rfl
    have hbd:(volH Y.length (Y.map (·.2))).length+dp.len<=1099511627776:=by
     have h1:=RP.out.1;have h2:=HPK.out;omega
    go_wp2_with (at_builtin;refine halt_q ?_)
    refine wpList_bufS S8.out rfl _ _ rfl rfl dp.A dp.len dp.cap (packP (selR ids T)) rfl RP.out.1 RP.out.src hbd ?_;intro d8 w8 s8
    have S9:Hid (SW b w0 (bufOb d8 (volB (Y.map (·.2)) (selR (setR (idsOf ms)) T))::l) w8):=by
     rw [Hid,HID.out,volB,List.length_map];exact SW.sub s8 (.cons_cons _ (.cons _ (.cons _ (List.Sublist.refl _))))
    have HA2:Hid (AllR (setR (idsOf ms)) T):=by rw [Hid,HID.out];exact HA.out
    clear s8 S8 RP;unfold vB;go_wp2_with fail
    go_ret2;exact .inr (.inr ⟨HE.out,HO.out,HA2.out,Y.map (·.2),d8,HCON.out,rfl,S9.out⟩)
 have hbe:(errM ms !=0)=true:=by rw [bne_iff_ne];exact hE
 have HE:=hid hE;have S1:=hid s1;clear hE s1 HCK h;go_wp2_with fail
 go_ret2;exact .inl ⟨HE.out,rfl,S1.out⟩
end
end Go.Proofs.YtmiknfneeipkeaaGreat
namespace Go.Proofs.YtmiknfneeipkeaaGreat
open Go.RowKit Go.MapKept Go.ChangeMaps Go.Shelf Go.Sort
section
variable {b:Nat} {w0 w w':World} {l:List Ob}
end
theorem SW.starts {w:World} {l:List Ob} (h:∀ o∈l,o.holds w/\(∀ i,¬ o.own i)/\∀ i,o.rd i->i<w.heap.size):SW w.heap.size w l w:=by
 refine ⟨⟨Nat.le_refl _,fun o ho=>(h o ho).1,fun o ho i hi=>absurd hi ((h o ho).2.1 i),fun o ho=>(h o ho).2.2,?_⟩,Below.refl _ _⟩;rw [List.pairwise_iff_getElem];intro i j hi hj _;have h1:=(h _ (List.getElem_mem hi)).2.1;have h2:=(h _ (List.getElem_mem hj)).2.1;exact ⟨fun k hk=>absurd hk (h1 k),fun k hk=>absurd hk (h2 k)⟩
theorem im_lt {w:World} {A:Option Addr} {rs:List MR} {ms:List Man} (h:(imOb A rs ms).holds w):∀ i,(imOb A rs ms).rd i->i<w.heap.size:=fun i hi=>by
 obtain ⟨h1,h2,h3⟩:=h;rcases hi with ⟨hq,o,e⟩ | ⟨j,hj,hq,o,e⟩
 · obtain ⟨g,o2,e2,hb,_⟩:=h1 hq;rw [e] at e2;injection e2 with e2;injection e2 with e2;omega
 obtain ⟨g,o2,e2,hb,_⟩:=(h3 j hj).2.2.2 hq;rw [e] at e2;injection e2 with e2;injection e2 with e2;omega
theorem cx_lt {w:World} {A:Option Addr} {T:List CH} (h:(cxOb A T).holds w):∀ i,(cxOb A T).rd i->i<w.heap.size:=fun i hi=>by
 rcases hi with ⟨hq,o,e⟩ | ⟨x,hx,hq,o,e⟩
 · obtain ⟨g,o2,e2,hb,_⟩:=h.1 hq;rw [e] at e2;injection e2 with e2;injection e2 with e2;omega
 exact (h.2 x hx).1.lt e hq
abbrev StoB (ms:List Man) (T:List CH) (w:World) (e:Ending) (w':World):Prop:=
 (errM ms≠0/\e= .returned (.tuple #[.slice none 0 0,.int .i64 (errM ms)])/\Below w.heap.size w w')∨
 (errM ms=0/\¬ (OneM ms/\AllR (setR (idsOf ms)) T)/\e= .returned (.tuple #[.slice none 0 0,.int .i64 411])/\Below w.heap.size w w')∨
 (errM ms=0/\OneM ms/\AllR (setR (idsOf ms)) T/\∃ (ys:List Man) (d:BD),ConM ms ys/\e= .returned (.tuple #[vB d,.int .i64 0])/\Buf w w' d (volB ys (selR (setR (idsOf ms)) T)))
theorem stoB_of {w:World} {l:List Ob} {ms:List Man} {T:List CH} {e:Ending} {w':World} (h:StoP ms T w.heap.size w l e w'):StoB ms T w e w':=by
 rcases h with ⟨h1,h2,h3⟩ | ⟨h1,h2,h3,h4⟩ | ⟨h1,h2,h3,ys,d,h4,h5,h6⟩
 · exact .inl ⟨h1,h2,h3.2⟩
 · exact .inr (.inl ⟨h1,h2,h3,h4.2⟩)
 exact .inr (.inr ⟨h1,h2,h3,ys,d,h4,h5,h6.get 0 (o:=bufOb d _) rfl,(fun g hg=>(h6.1.own _ (.head _) g hg).1),h6.2⟩)
section
variable {w:World} {A:Option Addr} {rs:List MR} {ms:List Man} {C:Option Addr} {T:List CH}
theorem rStore_b (hm:(imOb A rs ms).holds w) (hc:(cxOb C T).holds w) (hn:ms.length<=600000) (hi:∀ m∈ms,m.ids.length<=9223372036854775807) (hok:∀ m∈ms,∀ i∈m.ids,okID i) (hTb:∀ e∈T,e.2.bs.length<=1099511627776) (hTn:T.length<=9223372036854775807) (hpk:AllR (setR (idsOf ms)) T->(packP (selR (setR (idsOf ms)) T)).length<=1048576) (c d:Nat):
 Calls Tryz.prog 12 #[.slice A ms.length c,.slice C T.length d] w (StoB ms T w):=
 (rStore_any (SW.starts (l:=[imOb A rs ms,cxOb C T]) (fun o ho=>by
   rcases List.mem_cons.1 ho with rfl | ho
   · exact ⟨hm,fun _ h=>h,im_lt hm⟩
   rw [List.mem_singleton.1 ho];exact ⟨hc,fun _ h=>h,cx_lt hc⟩)) (.head _) hn hi hok (.tail _ (.head _)) hTb hTn hpk c d).mono (fun e w' h=>stoB_of h)
end
end Go.Proofs.YtmiknfneeipkeaaGreat
namespace Go.Proofs.YtmiknfneeipkeaaGreat
open Go.RowKit Go.MapKept Go.ChangeMaps Go.Shelf Go.Sort
def ManOk (m:Man):Prop:=manE m=0/\∀ i∈m.ids,okID i
theorem stepD_nn {bs:List UInt8} {st:List ID×Nat×Bool} (h:∀ i∈st.1,0<=i.1):∀ i∈(stepD bs st).1,0<=i.1:=by
 unfold stepD;split
 · exact h
 split
 · exact h
 intro i hi;rcases List.mem_append.1 hi with hi | hi
 · exact h i hi
 rw [List.mem_singleton] at hi;rw [hi];exact Int.natCast_nonneg _
theorem idsD_nn {bs:List UInt8} {st:List ID×Nat×Bool} (h:∀ i∈st.1,0<=i.1):∀ n,∀ i∈(idsD bs st n).1,0<=i.1:=by
 intro n;induction n with
 | zero=>exact h
 | succ n ih=>exact stepD_nn ih
theorem decM_ok {bs:List UInt8} {m:Man} (h:decM bs=some m):ManOk m:=by
 unfold decM at h;split at h
 · cases h
 rename_i hn
 injection h with h
 have h0:manE m=0:=by
  rw [<- h];exact Classical.byContradiction fun hc=>hn (.inr (.inr hc))
 refine ⟨h0,fun i hi=>?_⟩;have h1:=List.all_eq_true.1 (manE_zero h0).1 i hi;have h2:=chunkB_sound h1
 have h3:0<=i.1:=by
  rw [<- h] at hi;exact idsD_nn (st:=([],(cntD bs).2.1,(cntD bs).2.2)) (fun i hi=>by cases hi) _ i hi
 simp only [chunkB,validB,Bool.and_eq_true,decide_eq_true_eq] at h1;exact okID_of h3 (by omega) (by omega) (by omega)
theorem oneM_ok {bs:List UInt8} {m:Man} {k:Nat} (h:oneM bs=some (m,k)):ManOk m:=by
 unfold oneM at h;split at h
 · split at h
   · cases h
   obtain ⟨m',h1,e⟩:=Option.map_eq_some_iff.1 h;injection e with e1 _;rw [<- e1];exact decM_ok h1
 cases h
theorem mansL_ok {bs:List UInt8}:∀ {n k:Nat} {ms:List Man} {j:Nat},mansL bs n k=some (ms,j)->∀ m∈ms,ManOk m:=by
 intro n;induction n with
 | zero=>intro k ms j h m hm;injection h with h;injection h with h _;subst h;cases hm
 | succ n ih=>
  intro k ms j h m hm;rw [mansL] at h;split at h
  · rename_i m1 j1 h1
    obtain ⟨p,h2,e⟩:=Option.map_eq_some_iff.1 h;injection e with e1 _;subst e1;rcases List.mem_cons.1 hm with rfl | hm
    · exact oneM_ok h1
    exact ih h2 m hm
  cases h
theorem rdMans_ok {bs:List UInt8} {ms:List Man} {k:Nat} (h:rdMans bs=some (ms,k)):∀ m∈ms,ManOk m:=by
 unfold rdMans at h;split at h
 · split at h
   · exact mansL_ok h
   cases h
 cases h
def opnV (bs:List UInt8):Option (List Man×List PC):=
 match rdMans bs with
 | some (ms,k)=>(decP (bs.drop k)).map (fun cs=>(ms,cs))
 | none=>none
theorem pcs_find {S S':List CH} (h:pcs S=pcs S') (i:ID):(firstR S i).map (fun e=>(e.1,e.2.bs))=(firstR S' i).map (fun e=>(e.1,e.2.bs)):=by
 have key:∀ T:List CH,(firstR T i).map (fun e=>(e.1,e.2.bs))=(pcs T).find? (fun p=>decide (p.1=i/\fpOf p.2=i)):=fun T=>by
  rw [pcs,List.find?_map,firstR];rfl
 rw [key,key,h]
theorem pcs_all {S S':List CH} (h:pcs S=pcs S') {ids:List ID} (ha:AllR ids S):AllR ids S':=fun i hi=>by
 have h1:=pcs_find h i;have h2:=ha i hi;rw [<- Option.isSome_map (f:=fun e:CH=>(e.1,e.2.bs)), <- h1,Option.isSome_map];exact h2
theorem pack_pc {S S':List CH} (h:S.map (·.2.bs)=S'.map (·.2.bs)):packP S=packP S':=by
 have e:S.flatMap frameP=S'.flatMap frameP:=by
  have key:∀ T:List CH,T.flatMap frameP=(T.map (·.2.bs)).flatMap (fun bs=>frameP (id0,⟨⟨none,0,0⟩,bs⟩)):=fun T=>by
   rw [List.flatMap_map];rfl
  rw [key,key,h]
 have hl:S.length=S'.length:=by
  have:=congrArg List.length h;simpa using this
 rw [packP,packP,packB,packB,packF,packF,e,hl]
theorem pcs_sel {S S':List CH} (h:pcs S=pcs S') (ids:List ID) (ha:AllR ids S):packP (selR ids S)=packP (selR ids S'):=by
 apply pack_pc
 rw [selR,selR,List.map_map,List.map_map];refine List.map_congr_left fun i hi=>?_;have h1:=pcs_find h i;obtain ⟨x,hx⟩:=Option.isSome_iff_exists.1 (ha i hi);obtain ⟨y,hy⟩:=Option.isSome_iff_exists.1 (pcs_all h ha i hi);rw [hx,hy] at h1;simp only [Option.map_some,Option.some.injEq,Prod.mk.injEq] at h1;simp only [Function.comp,hx,hy,Option.getD_some];exact h1.2
def VolOk (bs:List UInt8):Prop:=∃ (ms ys:List Man) (S:List CH),opnV bs=some (ms,pcs S)/\OneM ms/\ConM ms ys/\AllR (setR (idsOf ms)) S/\volB ys (selR (setR (idsOf ms)) S)=bs
theorem volOk_at {bs:List UInt8} {ms ys:List Man} {S:List CH} (h:VolOk bs) (ho:opnV bs=some (ms,pcs S)) (hy:ConM ms ys):OneM ms/\AllR (setR (idsOf ms)) S/\volB ys (selR (setR (idsOf ms)) S)=bs:=by
 obtain ⟨ms',ys',S',h1,h2,h3,h4,h5⟩:=h;rw [ho] at h1;injection h1 with h1;injection h1 with e1 e2;subst e1;have ey:=conM_uniq hy h3;subst ey;have h4':=pcs_all e2.symm h4;refine ⟨h2,h4',?_⟩;rw [<- h5,volB,volB,pcs_sel e2 _ h4']
end Go.Proofs.YtmiknfneeipkeaaGreat
