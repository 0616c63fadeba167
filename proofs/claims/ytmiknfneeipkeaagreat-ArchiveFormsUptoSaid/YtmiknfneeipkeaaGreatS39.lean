/- Contracts of the walk, part 39. -/
import Derived.Test.YtmiknfneeipkeaaGreatS38
import Derived.Test.YtmiknfneeipkeaaGreatS37
import Derived.Test.YtmiknfneeipkeaaGreatS33
import Derived.Test.YtmiknfneeipkeaaGreatS36
import Derived.Test.YtmiknfneeipkeaaGreatS02
open Go.Lib (hid)
namespace Go.Proofs.YtmiknfneeipkeaaGreat
open Go.RowKit Go.MapKept Go.ChangeMaps Go.Shelf Go.Sort
attribute [local go_sem] wext_cell
theorem opn_small {bs:List UInt8} {ms:List Man} {S:List CH} (h:opnV bs=some (ms,pcs S)):∀ e∈S,e.2.bs.length<=8192:=by
 unfold opnV at h;split at h
 · obtain ⟨x,hx,e⟩:=Option.map_eq_some_iff.1 h;injection e with _ e2;subst e2;exact decP_small hx
 cases h
section
variable {b:Nat} {w0 w w':World} {l:List Ob}
theorem SW.imRg (h:SW b w0 l w) {A:Option Addr} {rs:List MR} {ms:List Man} (hm:imOb A rs ms∈l) {k:Nat} (hk:k<ms.length) {m:Man} (hmk:ms.getD k man0=m) {z:Int} {rA:Option Addr} {n rc:Nat} (hr:rs.getD k mr0=⟨z,rA,n,rc⟩):SW b w0 (rgOb rA m.ids::l) w:=by
 have hM:=h.1.holds _ hm;obtain ⟨_,_,_,l4⟩:=hM.2.2 k hk;rw [hr,hmk] at l4;exact SW.again (o':=rgOb rA m.ids) h hm (fun _ h=>h) l4 (fun _ h=>h) (fun i hi=> .inr ⟨k,hk,by rw [hmk];exact hi.1,by rw [hr];exact hi.2⟩)
abbrev RrsP (bs:List UInt8) (i:ID) (b:Nat) (w0:World) (l:List Ob) (e:Ending) (w':World):Prop:=
 (∃ (ms:List Man) (S:List CH) (m:Man) (rA:Option Addr) (rc:Nat) (C:Option Addr) (cc:Nat),VolOk bs/\opnV bs=some (ms,pcs S)/\m∈ms/\keyM m=i/\AllR (firsts m.ids) S/\e= .returned (.tuple #[.agg #[.int .i64 m.size,.slice rA m.ids.length rc],.slice C (firsts m.ids).length cc,.int .i64 0])/\SW b w0 (cxOb C (selR (firsts m.ids) S)::rgOb rA m.ids::l) w')∨
 (∃ (ms:List Man) (S:List CH),VolOk bs/\opnV bs=some (ms,pcs S)/\(∀ m∈ms,keyM m≠i)/\e= .returned (.tuple #[.agg #[.int .i64 0,.slice none 0 0],.slice none 0 0,.int .i64 413])/\SW b w0 l w')∨
 (¬ VolOk bs/\e= .returned (.tuple #[.agg #[.int .i64 0,.slice none 0 0],.slice none 0 0,.int .i64 412])/\SW b w0 l w')
set_option maxRecDepth 100000 in
set_option maxHeartbeats 16000000 in
theorem rRestore_any (h:SW b w0 l w) {A:Option Addr} {c:Nat} {bs:List UInt8} (hr:rsOb A bs∈l) (hv:(A=none->c=0)/\bs.length<=c/\bs.length<=9223372036854775807) (hbl:bs.length<=1000000000) (hS:∀ ms k,rdMans bs=some (ms,k)->ms.length<=600000) (hP:∀ ms S,opnV bs=some (ms,pcs S)->AllR (setR (idsOf ms)) S->(packP (selR (setR (idsOf ms)) S)).length<=1048576) (s z:Int):
 Calls Tryz.prog 23 #[.slice A bs.length c,.agg #[.int .u64 s,.int .i64 z]] w (RrsP bs (s,z) b w0 l):=by
 have S0:=hid ((h.newCell 36 #[.int .u64 s,.int .i64 z]).newCellAt 33 #[.int .i64 0,.slice none 0 0] (H:=w.heap.size+1) (by simp));obtain ⟨gR,HGR⟩:∃ x,Hid (w.heap.size+1=x):=⟨_,rfl⟩;obtain ⟨gb,HGB⟩:∃ x,Hid (w.heap.size=x):=⟨_,rfl⟩;obtain ⟨W0,HW0⟩:∃ W,Hid ((w.alloc (.cells #[.int .u64 s,.int .i64 z] 36)).alloc (.cells #[.int .i64 0,.slice none 0 0] 33)=W):=⟨_,rfl⟩;rw [HGR.out,HGB.out,HW0.out] at S0;have HM:=hid (rOpen_any S0.out (.tail _ (.tail _ hr)) hv hbl hS hP)
 have HLM:Hid (∀ ms S,opnV bs=some (ms,pcs S)->ms.length<=600000):=fun ms S h=>by
  unfold opnV at h;split at h
  · rename_i ms' k' h1
    obtain ⟨x,_,e⟩:=Option.map_eq_some_iff.1 h;injection e with e1 _;subst e1;exact hS _ _ h1
  cases h
 have HPL:=hid hP;clear h hr hv hS hP;obtain ⟨ii,gi,gz0,gz1,gz2⟩:=info_parts info42;go_enter Tryz.func23,Tryz.ntmps23;go_upto_region 1 with fail
 rw [HW0.out,HGR.out,HGB.out];clear HGR HGB HW0;go_wp2_with (go_at_call 62;(with_reducible refine HM.out.mono ?_);refine halt_ ?_)
 rintro e w1 (⟨ms,rs,S,D,C,d,dc,hvo,hop,hok,hSl,rfl,t1⟩ | ⟨hno,rfl,t1⟩)
 · have HVO:=hid hvo;have HOP:=hid hop;have HSM:=hid (opn_small hop);have HMO:=hid (opnV_asc hop).2;have hms:=HLM.out _ _ hop;have HALL:=hid (volOk_con hvo hop HPL.out hbl).2;have S1:=hid t1;have hSl2:S.length<=1000000000:=by omega
   clear hvo hop hok t1 HM S0 HPL hSl;go_wp2_with fail
   go_loopw [10] (fun s10 wr=>∃ (k:Nat),k<=ms.length/\s10= .int .i64 (k:Int)/\Hid (∀ m∈ms.take k,keyM m≠(s,z))/\SW b w0 (imOb D rs ms::cxOb C S::cellOb gR 33 #[.int .i64 0,.slice none 0 0]::cellOb gb 36 #[.int .u64 s,.int .i64 z]::l) wr) (fun s10 _=>ms.length-(intOf s10).toNat)
   case atStart=>exact ⟨0,Nat.zero_le _,rfl,(fun m hm=>by simp at hm),S1.out⟩
   obtain ⟨k,hk,rfl,HN,hs⟩:=hrel;have S2:=hid hs;clear hs S1;by_cases hlt:k<ms.length
   · obtain ⟨m,HMK⟩:∃ m,Hid (ms.getD k man0=m):=⟨_,rfl⟩;obtain ⟨⟨rz,rA,rn,rc⟩,HRK⟩:∃ r,Hid (rs.getD k mr0=r):=⟨_,rfl⟩;obtain ⟨rfl,rfl,hrd,g,o,rfl,hg,q0,q1⟩:=S2.out.imCell (.head _) hlt HMK.out HRK.out;have hmem:m∈ms:=by rw [<- HMK.out];exact getD_mem _ _ _ hlt
     have hmo:=HMO.out m hmem;obtain ⟨⟨i1,i2⟩,HI⟩:∃ x,Hid (keyM m=x):=⟨_,rfl⟩;have hml:=manE_len hmo.1;have HW:=hid (rWhole_ok _ m rA rc wr hrd (by omega) hmo.2 hmo.1);rw [HI.out] at HW;have HTK:Hid (ms.take (k+1)=ms.take k++[m]):=by rw [Hid,take_snoc _ man0 _ hlt,HMK.out]
     have HMEM:=hid hmem;have HMOK:=hid hmo;clear hmem hmo hrd;go_wp2_with (go_at_call 10;(with_reducible refine HW.out.mono ?_);refine halt_ ?_)
     rintro e w3 ⟨rfl,hb3⟩;have S3:=hid (((S2.out.on hb3).newCell 36 #[.int .u64 i1,.int .i64 i2]));clear hb3 S2 HW q0 q1;go_upto_region 8 with fail
     obtain ⟨w4,HW⟩:∃ W,Hid (w3.alloc (.cells #[.int .u64 i1,.int .i64 i2] 36)=W):=⟨_,rfl⟩;obtain ⟨g4,HG4⟩:∃ x,Hid (w3.heap.size=x):=⟨_,rfl⟩;rw [HW.out,HG4.out] at S3;rw [HW.out,HG4.out];clear HW HG4;have c0:=(S3.out.cell 0 rfl).cell 0;have c1:=(S3.out.cell 0 rfl).cell 1;have b0:=(S3.out.cell 4 rfl).cell 0;have b1:=(S3.out.cell 4 rfl).cell 1;by_cases hkey:(i1,i2)=(s,z)
     · injection hkey with e1 e2;subst e1 e2;have S4:Hid (SW b w0 (imOb (some ⟨g,o,none⟩) rs ms::cxOb C S::cellOb gR 33 #[.int .i64 0,.slice none 0 0]::l) w4):=SW.few (pre:=[_,_,_,_,_]) S3.out [1,2,3] (n:=5) rfl (by decide) (by decide)
       have HMI:Hid (Calls Tryz.prog 69 #[.agg #[.int .i64 m.size,.slice rA m.ids.length rc],.slice none 0 0] w4 (MisP m b w0 (imOb (some ⟨g,o,none⟩) rs ms::cxOb C S::cellOb gR 33 #[.int .i64 0,.slice none 0 0]::l))):=rMissing_any S4.out (fun W l' h hl=>((h.1.holds _ (hl _ (.head _))).2.2 k hlt |> fun h=>by
        obtain ⟨_,_,_,l4⟩:=h;rw [HRK.out,HMK.out] at l4;exact l4)) HMOK.out.1
       obtain ⟨_,_,_,g',o',e7,_,p0,p1⟩:=S4.out.imCell (.head _) hlt HMK.out HRK.out;injection e7 with e7;injection e7 with e7 e8 _;subst e7 e8;clear S3;go_wp2_with (go_at_call 69;(with_reducible refine HMI.out.mono ?_);refine halt_ ?_)
       rintro e w5 D2 d2 rfl t5;clear HMI S4 c0 c1 b0 b1 p0 p1;have HIN:Hid (AllR (firsts m.ids) S):=fun i hi=>HALL.out i ((setR_mem _ _).2 (List.mem_flatMap.2 ⟨m,HMEM.out,(firsts_mem _ _).1 hi⟩));have hfl:=firsts_len m.ids;obtain ⟨F,HF⟩:∃ F,Hid (firsts m.ids=F):=⟨_,rfl⟩;rw [HF.out] at t5 HIN hfl |-; have S5:Hid (SW b w0 (rowOb 42 3 (.slice none 0 0) 0 []::rowOb 36 2 (.slice D2 F.length d2) F.length (F.flatMap encID)::imOb (some ⟨g,o,none⟩) rs ms::cxOb C S::cellOb gR 33 #[.int .i64 0,.slice none 0 0]::l) w5):=t5.newRow 42 3;clear t5;go_wp2_with fail
       go_loopw [15,16] (fun s15 s16 wr=>∃ (j:Nat) (B:Option Addr) (bc:Nat),j<=F.length/\s16= .int .i64 (j:Int)/\s15= .slice B j bc/\SW b w0 (rowOb 42 3 (.slice B j bc) j ((selR (F.take j) S).flatMap encCH)::rowOb 36 2 (.slice D2 F.length d2) F.length (F.flatMap encID)::imOb (some ⟨g,o,none⟩) rs ms::cxOb C S::cellOb gR 33 #[.int .i64 0,.slice none 0 0]::l) wr) (fun _ s16 _=>F.length-(intOf s16).toNat)
       case atStart=>exact ⟨0,none,0,Nat.zero_le _,rfl,rfl,S5.out⟩
       obtain ⟨j,B,bc,hj,rfl,rfl,hs⟩:=hrel;have S6:=hid hs;clear hs S5;by_cases hlj:j<F.length
       · obtain ⟨⟨f1,f2⟩,HJ⟩:∃ x,Hid (F.getD j id0=x):=⟨_,rfl⟩;have hrow:=S6.out.get 1 (o:=rowOb 36 2 (.slice D2 F.length d2) F.length (F.flatMap encID)) rfl;obtain ⟨gF,d9,hD⟩:=own_some hrow (by omega);injection hD with e1 e2 e3;subst e1;subst e3;clear e2;obtain ⟨r0,r1⟩:=row_id hrow rfl hlj HJ.out;simp only at r0 r1;have HSM1:=HIN.out (f1,f2) (by rw [<- HJ.out];exact getD_mem _ _ _ hlj);obtain ⟨x0,hx0⟩:=Option.isSome_iff_exists.1 HSM1;have HX0:=hid hx0
         have HTJ:Hid (selR (F.take (j+1)) S=selR (F.take j) S++[x0]):=by
          rw [Hid,take_id hlj,HJ.out,selR,List.map_append,selR];simp only [List.map_cons,List.map_nil,hx0,Option.getD_some]
         have HFI:=hid (rFind_any S6.out (.tail _ (.tail _ (.tail _ (.head _)))) (by omega) (fun e he=>by have:=HSM.out e he;omega) f1 f2 dc);clear hrow HSM1 hx0;go_wp2_with (go_at_call 47;(with_reducible refine HFI.out.mono ?_);refine halt_ ?_)
         rintro e w7 (⟨x,hx,rfl,t7⟩ | ⟨hx,rfl,t7⟩)
         · obtain rfl:x0=x:=by
            have h1:=HX0.out;rw [hx] at h1;injection h1 with h1;exact h1.symm
           obtain ⟨⟨x1,x2⟩,ev⟩:=x0;obtain ⟨hid1,_,hmx⟩:=firstR_id hx;injection hid1 with e1 e2;subst e1 e2;have HLE:Hid (ev.d.len=ev.bs.length):=((t7.1.holds (cxOb C S) (.tail _ (.tail _ (.tail _ (.head _))))).2 _ hmx).2.1;have S7:=hid t7;clear t7 HFI r0 r1 hx hmx S6;have hrow:=S7.out.get 1 (o:=rowOb 36 2 (.slice (some ⟨gF,0,none⟩) F.length d2) F.length (F.flatMap encID)) rfl;obtain ⟨r0,r1⟩:=row_id hrow rfl hlj HJ.out;simp only at r0 r1;have S8:=hid (S7.out.newCell 42 #[.int .u64 x1,.int .i64 x2,.slice ev.d.A ev.bs.length ev.d.cap]);clear hrow
           have HPO:Hid (encCH ((x1,x2),ev)=[.int .u64 x1,.int .i64 x2,.slice ev.d.A ev.bs.length ev.d.cap]):=by
            rw [Hid];simp only [encCH,vBS];rw [HLE.out]
           go_wp2_with (at_builtin;(refine wpList_rowS (t:=23) (e:=42) (size:=3) (bytes:=40) (i:=ii) S8.out 1 rfl (by rfl) (.tmp 69) (.tmp 76) (by rfl) Tryz.underlying23 gi gz0 gz1 gz2 rfl (by omega) (by rfl) ⟨w7.heap.size,0,none⟩ 1 [.int .u64 x1,.int .i64 x2,.slice ev.d.A ev.bs.length ev.d.cap] (by rfl) rfl (mthree_new _ _ _ _ _ _ rfl) (by rw [<- HPO.out];exact encCH_one ((x1,x2),ev)) (by unfold maxLen;omega) (by omega) ?_);refine halt_ ?_)
           intro v8 w8 s8;obtain ⟨g8,c8,rfl⟩:=own_some (s8.get 1 rfl) (by omega)
           have S9:Hid (SW b w0 (rowOb 42 3 (.slice (some ⟨g8,0,none⟩) (j+1) c8) (j+1) ((selR (F.take (j+1)) S).flatMap encCH)::rowOb 36 2 (.slice (some ⟨gF,0,none⟩) F.length d2) F.length (F.flatMap encID)::imOb (some ⟨g,o,none⟩) rs ms::cxOb C S::cellOb gR 33 #[.int .i64 0,.slice none 0 0]::l) w8):=by
            rw [Hid,HTJ.out,List.flatMap_append];simp only [List.flatMap_cons,List.flatMap_nil,List.append_nil];rw [HPO.out];exact s8.tail
           clear s8 S8 S7 r0 r1;go_wp2_with fail
           go_roundw
           case rel=>exact ⟨j+1,some ⟨g8,0,none⟩,c8,by omega,by go_num,rfl,S9.out⟩
           simp [intOf];omega
         exfalso
         have h1:=HX0.out;rw [hx] at h1;cases h1
       obtain rfl:j=F.length:=by omega
       rw [List.take_length] at S6
       have S7:Hid (SW b w0 (cxOb B (selR F S)::rgOb rA m.ids::cellOb gR 33 #[.int .i64 0,.slice none 0 0]::imOb (some ⟨g,o,none⟩) rs ms::l) wr):=by
        have h1:=SW.rowCx (C:=C) (T:=S) S6.out (.tail _ (.tail _ (.head _))) (selR_len F S) (selR_mem HIN.out);have h2:=SW.imRg h1 (.tail _ (.tail _ (.head _))) hlt HMK.out HRK.out;exact SW.few (pre:=[_,_,_,_,_,_]) h2 [1,0,5,3] (n:=6) rfl (by decide) (by decide)
       obtain ⟨_,_,_,g',o',e7,_,p0,p1⟩:=S7.out.imCell (.tail _ (.tail _ (.tail _ (.head _)))) hlt HMK.out HRK.out;injection e7 with e7;injection e7 with e7 e8 _;subst e7 e8;have f0:=(S7.out.cell 2 rfl).frozen 0;have f1:=(S7.out.cell 2 rfl).frozen 1;have z0:=(S7.out.cell 2 rfl).cell 0;have z1:=(S7.out.cell 2 rfl).cell 1;have S9:=hid ((S7.out.setAt 2 rfl 0 (.int .i64 m.size)).setAt 2 rfl 1 (.slice rA m.ids.length rc));clear S6;go_wp2_with fail
       have e0:=(S9.out.cell 2 rfl).cell 0;have e1:=(S9.out.cell 2 rfl).cell 1;have HSW:Hid (SW b w0 (cxOb B (selR F S)::rgOb rA m.ids::l) ((wr.setCell ⟨gR,0,none⟩ (.int .i64 m.size)).setCell ⟨gR,1,none⟩ (.slice rA m.ids.length rc))):=SW.few (pre:=[_,_,_,_]) S9.out [0,1] (n:=4) rfl (by decide) (by decide);refine bodyPost_ret (v:=.tuple #[.agg #[.int .i64 m.size,.slice rA m.ids.length rc],.slice B F.length bc,.int .i64 0]) (by simp [results,Tryz.results23,go_sem,e0,e1,Result.andThen]) rfl ?_;refine .inl ⟨ms,S,m,rA,rc,B,bc,HVO.out,HOP.out,HMEM.out,HI.out,?_,?_,?_⟩
       · rw [HF.out];exact HIN.out
       · rw [HF.out]
       rw [HF.out];exact HSW.out
     have HNE:Hid (∀ m∈ms.take (k+1),keyM m≠(s,z)):=fun m' hm'=>by
      rw [HTK.out] at hm';rcases List.mem_append.1 hm' with h | h
      · exact HN.out m' h
      rw [List.mem_singleton.1 h,HI.out];exact hkey
     have S4:Hid (SW b w0 (imOb (some ⟨g,o,none⟩) rs ms::cxOb C S::cellOb gR 33 #[.int .i64 0,.slice none 0 0]::cellOb gb 36 #[.int .u64 s,.int .i64 z]::l) w4):=S3.out.tail;by_cases h1:i1=s
     · subst h1;have h2:¬ i2=z:=fun e=>hkey (by rw [e]);have g2:(i2==z)=false:=beq_eq_false_iff_ne.2 h2;go_wp2_with fail
       go_roundw
       case rel=>exact ⟨k+1,by omega,by go_num,HNE.out,S4.out⟩
       simp [intOf];omega
     have g1:(i1==s)=false:=beq_eq_false_iff_ne.2 h1;go_wp2_with fail
     go_roundw
     case rel=>exact ⟨k+1,by omega,by go_num,HNE.out,S4.out⟩
     simp [intOf];omega
   obtain rfl:k=ms.length:=by omega
   rw [List.take_length] at HN;have f0:=(S2.out.cell 2 rfl).frozen 0;have f1:=(S2.out.cell 2 rfl).frozen 1;have z0:=(S2.out.cell 2 rfl).cell 0;have z1:=(S2.out.cell 2 rfl).cell 1;have S9:=hid ((S2.out.setAt 2 rfl 0 (.int .i64 0)).setAt 2 rfl 1 (.slice none 0 0));clear S2;go_wp2_with fail
   have e0:=(S9.out.cell 2 rfl).cell 0;have e1:=(S9.out.cell 2 rfl).cell 1;have HSW:Hid (SW b w0 l ((wr.setCell ⟨gR,0,none⟩ (.int .i64 0)).setCell ⟨gR,1,none⟩ (.slice none 0 0))):=S9.out.tail.tail.tail.tail;refine bodyPost_ret (v:=.tuple #[.agg #[.int .i64 0,.slice none 0 0],.slice none 0 0,.int .i64 413]) (by simp [results,Tryz.results23,go_sem,e0,e1,Result.andThen]) rfl ?_;exact .inr (.inl ⟨ms,S,HVO.out,HOP.out,HN.out,rfl,HSW.out⟩)
 have HNO:=hid hno;have S1:=hid t1;have f0:=(S1.out.cell 0 rfl).frozen 0;have f1:=(S1.out.cell 0 rfl).frozen 1;have z0:=(S1.out.cell 0 rfl).cell 0;have z1:=(S1.out.cell 0 rfl).cell 1;have S9:=hid ((S1.out.setAt 0 rfl 0 (.int .i64 0)).setAt 0 rfl 1 (.slice none 0 0));clear hno t1 HM S1;go_wp2_with fail
 have e0:=(S9.out.cell 0 rfl).cell 0;have e1:=(S9.out.cell 0 rfl).cell 1;have HSW:Hid (SW b w0 l ((w1.setCell ⟨gR,0,none⟩ (.int .i64 0)).setCell ⟨gR,1,none⟩ (.slice none 0 0))):=S9.out.tail.tail;refine bodyPost_ret (v:=.tuple #[.agg #[.int .i64 0,.slice none 0 0],.slice none 0 0,.int .i64 412]) (by simp [results,Tryz.results23,go_sem,e0,e1,Result.andThen]) rfl ?_;exact .inr (.inr ⟨HNO.out,rfl,HSW.out⟩)
end
end Go.Proofs.YtmiknfneeipkeaaGreat
namespace Go.Proofs.YtmiknfneeipkeaaGreat
open Go.RowKit Go.MapKept Go.ChangeMaps Go.Shelf Go.Sort
attribute [local go_sem] wext_cell
def bsF (S:List CH) (F:List ID):List (List UInt8):=F.map (fun j=>((firstR S j).map (·.2.bs)).getD [])
theorem bsF_pcs {S S':List CH} (h:pcs S=pcs S') (F:List ID):bsF S F=bsF S' F:=by
 refine List.map_congr_left fun j _=>?_;have h1:=congrArg (fun o=>o.map (fun p:ID×List UInt8=>p.2)) (pcs_find h j);simp only [Option.map_map] at h1;have e:((fun p:ID×List UInt8=>p.2) ∘ fun e:CH=>(e.1,e.2.bs))=(fun e:CH=>e.2.bs):=rfl;rw [e] at h1;exact congrArg (fun o=>o.getD []) h1
theorem bsF_sel (S:List CH) (F:List ID) (ha:AllR F S):(selR F S).map (·.1)=F/\(selR F S).map (·.2.bs)=bsF S F:=by
 constructor
 · rw [selR,List.map_map];have:F.map id=F:=List.map_id F;conv=>rhs;rw [<- this]
   refine List.map_congr_left fun j hj=>?_;obtain ⟨x,hx⟩:=Option.isSome_iff_exists.1 (ha j hj);simp only [Function.comp,hx,Option.getD_some,id];exact (firstR_id hx).1
 rw [selR,List.map_map,bsF];refine List.map_congr_left fun j hj=>?_;obtain ⟨x,hx⟩:=Option.isSome_iff_exists.1 (ha j hj);simp only [Function.comp,hx,Option.getD_some,Option.map_some]
theorem bsF_of {S T:List CH} {F:List ID} (h1:T.map (·.1)=F) (h2:∀ e∈T,∃ x,firstR S e.1=some x/\x.2.bs=e.2.bs):T.map (·.2.bs)=bsF S F:=by
 subst h1;rw [bsF,List.map_map];refine List.map_congr_left fun e he=>?_;obtain ⟨x,hx,h3⟩:=h2 e he;simp only [Function.comp,hx,Option.map_some,Option.getD_some];exact h3.symm
theorem con_key {ms:List Man} (h:ConM ms ms) {m m':Man} (hm:m∈ms) (hm':m'∈ms) (hk:keyM m=keyM m'):m=m':=by
 obtain ⟨i,hi,rfl⟩:=List.mem_iff_getElem.1 hm;obtain ⟨j,hj,rfl⟩:=List.mem_iff_getElem.1 hm';have hp:=List.pairwise_iff_getElem.1 h.1;rcases Nat.lt_trichotomy i j with h1 | h1 | h1
 · have:=hp i j hi hj h1;rw [hk,ltID_irr] at this;cases this
 · subst h1;rfl
 have:=hp j i hj hi h1;rw [hk,ltID_irr] at this;cases this
def CntV (bs:List UInt8) (L:List ID) (e:Int):Prop:=
 (VolOk bs/\(∃ ms S,opnV bs=some (ms,pcs S)/\L=ms.map keyM)/\e=0)∨(¬ VolOk bs/\L=[]/\e=412)
theorem cnt_uniq {bs:List UInt8} {L L':List ID} {e e':Int} (h:CntV bs L e) (h':CntV bs L' e'):L=L'/\e=e':=by
 rcases h with ⟨h1,⟨ms,S,h2,rfl⟩,rfl⟩ | ⟨h1,rfl,rfl⟩<;>rcases h' with ⟨g1,⟨ms',S',g2,rfl⟩,rfl⟩ | ⟨g1,rfl,rfl⟩
 · rw [h2] at g2;injection g2 with g2;injection g2 with e1 _;subst e1;exact ⟨rfl,rfl⟩
 · exact absurd h1 g1
 · exact absurd g1 h1
 exact ⟨rfl,rfl⟩
def RstV (bs:List UInt8) (i:ID) (m:Man) (F:List ID) (B:List (List UInt8)) (e:Int):Prop:=
 (VolOk bs/\(∃ ms S,opnV bs=some (ms,pcs S)/\ConM ms ms/\m∈ms/\keyM m=i/\B=bsF S F)/\F=firsts m.ids/\e=0)∨
 (VolOk bs/\(∃ ms S,opnV bs=some (ms,pcs S)/\∀ m∈ms,keyM m≠i)/\m=man0/\F=[]/\B=[]/\e=413)∨
 (¬ VolOk bs/\m=man0/\F=[]/\B=[]/\e=412)
theorem rst_uniq {bs:List UInt8} {i:ID} {m m':Man} {F F':List ID} {B B':List (List UInt8)} {e e':Int} (h:RstV bs i m F B e) (h':RstV bs i m' F' B' e'):m=m'/\F=F'/\B=B'/\e=e':=by
 rcases h with ⟨h1,⟨ms,S,h2,h3,h4,h5,h6⟩,h7,rfl⟩ | ⟨h1,⟨ms,S,h2,h3⟩,rfl,rfl,rfl,rfl⟩ | ⟨h1,rfl,rfl,rfl,rfl⟩<;>
  rcases h' with ⟨g1,⟨ms',S',g2,g3,g4,g5,g6⟩,g7,rfl⟩ | ⟨g1,⟨ms',S',g2,g3⟩,rfl,rfl,rfl,rfl⟩ | ⟨g1,rfl,rfl,rfl,rfl⟩
 · rw [h2] at g2;injection g2 with g2;injection g2 with e1 e2;subst e1;have e3:=con_key h3 h4 g4 (by rw [h5,g5]);subst e3;subst h7 g7;exact ⟨rfl,rfl,by rw [h6,g6,bsF_pcs e2],rfl⟩
 · rw [h2] at g2;injection g2 with g2;injection g2 with e1 e2;subst e1;exact absurd h5 (g3 m h4)
 · exact absurd h1 g1
 · rw [h2] at g2;injection g2 with g2;injection g2 with e1 e2;subst e1;exact absurd g5 (h3 _ g4)
 · exact ⟨rfl,rfl,rfl,rfl⟩
 · exact absurd h1 g1
 · exact absurd g1 h1
 · exact absurd g1 h1
 exact ⟨rfl,rfl,rfl,rfl⟩
section
variable {b:Nat} {w0 w w':World} {l:List Ob}
theorem SW.noRg (h:SW b w0 l w):SW b w0 (rgOb none []::l) w:=SW.fuse (pre:=[]) h (fun hp=>by cases hp) (fun _ h=>h) (fun i hi=>by cases hi.1)
theorem SW.noCx (h:SW b w0 l w):SW b w0 (cxOb none []::l) w:=SW.fuse (pre:=[]) h ⟨(fun hp=>by cases hp),fun e he=>by cases he⟩ (fun _ h=>h) (fun i hi=>by
 rcases hi with ⟨hp,_⟩ | ⟨e,he,_⟩
 · cases hp
 cases he)
abbrev CntU (bs:List UInt8) (b:Nat) (w0:World) (l:List Ob) (e:Ending) (w':World):Prop:=
 ∃ (L:List ID) (D:Option Addr) (d:Nat) (f:Int),CntV bs L f/\e= .returned (.tuple #[.slice D L.length d,.int .i64 f])/\SW b w0 (rowOb 36 2 (.slice D L.length d) L.length (L.flatMap encID)::l) w'
abbrev RstU (bs:List UInt8) (i:ID) (b:Nat) (w0:World) (l:List Ob) (e:Ending) (w':World):Prop:=
 ∃ (m:Man) (T:List CH) (rA:Option Addr) (rc:Nat) (C:Option Addr) (cc:Nat) (f:Int),RstV bs i m (T.map (·.1)) (T.map (·.2.bs)) f/\m.ids.length<=9223372036854775807/\e= .returned (.tuple #[.agg #[.int .i64 m.size,.slice rA m.ids.length rc],.slice C T.length cc,.int .i64 f])/\SW b w0 (cxOb C T::rgOb rA m.ids::l) w'
theorem Contents_u (h:SW b w0 l w) {A:Option Addr} {c:Nat} {bs:List UInt8} (hr:rsOb A bs∈l) (hv:(A=none->c=0)/\bs.length<=c) (hb:bs.length<=1048575):
 Calls Tryz.prog 20 #[.slice A bs.length c] w (CntU bs b w0 l):=by
 obtain ⟨hS,hP⟩:=opn_lim hb;refine (Contents_any h hr ⟨hv.1,hv.2,by omega⟩ (by omega) hS hP).mono ?_;rintro e w' (⟨ms,ys,S,D,d,h1,h2,h3,rfl,h4⟩ | ⟨h1,rfl,h4⟩)
 · obtain ⟨hc,_⟩:=volOk_con h1 h2 hP (by omega);have e1:=conM_uniq h3 hc;subst e1;refine ⟨ys.map keyM,D,d,0,.inl ⟨h1,⟨ys,S,h2,rfl⟩,rfl⟩,by rw [List.length_map],?_⟩;rw [List.length_map];exact h4
 exact ⟨[],none,0,412,.inr ⟨h1,rfl,rfl⟩,rfl,h4.newRow 36 2⟩
theorem rContents_u (h:SW b w0 l w) {A:Option Addr} {c:Nat} {bs:List UInt8} (hr:rsOb A bs∈l) (hv:(A=none->c=0)/\bs.length<=c) (hb:bs.length<=1048575):
 Calls Tryz.prog 21 #[.slice A bs.length c] w (CntU bs b w0 l):=by
 obtain ⟨hS,hP⟩:=opn_lim hb;refine (rContents_any h hr ⟨hv.1,hv.2,by omega⟩ (by omega) hS hP).mono ?_;rintro e w' (⟨ms,S,D,d,h1,h2,rfl,h4⟩ | ⟨h1,rfl,h4⟩)
 · refine ⟨ms.map keyM,D,d,0,.inl ⟨h1,⟨ms,S,h2,rfl⟩,rfl⟩,by rw [List.length_map],?_⟩;rw [List.length_map];exact h4
 exact ⟨[],none,0,412,.inr ⟨h1,rfl,rfl⟩,rfl,h4.newRow 36 2⟩
theorem Restore_u (h:SW b w0 l w) {A:Option Addr} {c:Nat} {bs:List UInt8} (hr:rsOb A bs∈l) (hv:(A=none->c=0)/\bs.length<=c) (hb:bs.length<=1048575) (s z:Int):
 Calls Tryz.prog 22 #[.slice A bs.length c,.agg #[.int .u64 s,.int .i64 z]] w (RstU bs (s,z) b w0 l):=by
 obtain ⟨hS,hP⟩:=opn_lim hb;refine (Restore_any h hr ⟨hv.1,hv.2,by omega⟩ (by omega) hS hP s z).mono ?_;rintro e w' (⟨ms,ys,S,m,rA,rc,T,C,cc,h1,h2,h3,h4,h5,h6,h7,rfl,h8⟩ | ⟨ms,ys,S,h1,h2,h3,h4,rfl,h8⟩ | ⟨h1,rfl,h8⟩)
 · obtain ⟨hc,_⟩:=volOk_con h1 h2 hP (by omega);have e1:=conM_uniq h3 hc;subst e1;have hml:=manE_len ((opnV_asc h2).2 m h4).1;refine ⟨m,T,rA,rc,C,cc,0,.inl ⟨h1,⟨ys,S,h2,hc,h4,h5,bsF_of rfl h7⟩,h6,rfl⟩,by omega,rfl,?_⟩;have g1:=SW.asRg (SW.fuseCx h8) (.tail _ (.head _));exact SW.few (pre:=[_,_,_]) g1 [1,0] (n:=3) rfl (by decide) (by decide)
 · obtain ⟨hc,_⟩:=volOk_con h1 h2 hP (by omega);have e1:=conM_uniq h3 hc;subst e1;exact ⟨man0,[],none,0,none,0,413,.inr (.inl ⟨h1,⟨ys,S,h2,h4⟩,rfl,rfl,rfl,rfl⟩),by decide,rfl,h8.noRg.noCx⟩
 exact ⟨man0,[],none,0,none,0,412,.inr (.inr ⟨h1,rfl,rfl,rfl,rfl⟩),by decide,rfl,h8.noRg.noCx⟩
theorem rRestore_u (h:SW b w0 l w) {A:Option Addr} {c:Nat} {bs:List UInt8} (hr:rsOb A bs∈l) (hv:(A=none->c=0)/\bs.length<=c) (hb:bs.length<=1048575) (s z:Int):
 Calls Tryz.prog 23 #[.slice A bs.length c,.agg #[.int .u64 s,.int .i64 z]] w (RstU bs (s,z) b w0 l):=by
 obtain ⟨hS,hP⟩:=opn_lim hb;refine (rRestore_any h hr ⟨hv.1,hv.2,by omega⟩ (by omega) hS hP s z).mono ?_;rintro e w' (⟨ms,S,m,rA,rc,C,cc,h1,h2,h4,h5,h6,rfl,h8⟩ | ⟨ms,S,h1,h2,h4,rfl,h8⟩ | ⟨h1,rfl,h8⟩)
 · obtain ⟨hc,_⟩:=volOk_con h1 h2 hP (by omega);have hml:=manE_len ((opnV_asc h2).2 m h4).1;obtain ⟨k1,k2⟩:=bsF_sel S _ h6;refine ⟨m,selR (firsts m.ids) S,rA,rc,C,cc,0,.inl ⟨h1,⟨ms,S,h2,hc,h4,h5,by rw [k2,k1]⟩,k1,rfl⟩,by omega,by rw [selR_len],h8⟩
 · exact ⟨man0,[],none,0,none,0,413,.inr (.inl ⟨h1,⟨ms,S,h2,h4⟩,rfl,rfl,rfl,rfl⟩),by decide,rfl,h8.noRg.noCx⟩
 exact ⟨man0,[],none,0,none,0,412,.inr (.inr ⟨h1,rfl,rfl,rfl,rfl⟩),by decide,rfl,h8.noRg.noCx⟩
end
end Go.Proofs.YtmiknfneeipkeaaGreat
namespace Go.Proofs.YtmiknfneeipkeaaGreat
open Go.RowKit Go.MapKept Go.ChangeMaps Go.Shelf Go.Sort
attribute [local go_sem] wext_cell
section
variable {b:Nat} {w0 w w':World} {l:List Ob}
theorem SW.bufRs {d:BD} {bs:List UInt8} (h:SW b w0 (bufOb d bs::l) w):SW b w0 (rsOb d.A bs::l) w:=by
 have hr:RB w d bs:=h.get 0 (o:=bufOb d bs) rfl;refine h.asRead (o':=rsOb d.A bs) hr.rs (fun _ h=>h) (fun i hi=>?_);obtain ⟨_,o,ho⟩:=hi;show blk d=some i;simp [blk,ho]
theorem vw_of {d:BD} {bs:List UInt8} (h:RB w d bs) (hl:bs.length<=9223372036854775807):(d.A=none->d.cap=0)/\bs.length<=d.cap/\bs.length<=9223372036854775807:=⟨h.2.2.1,by rw [h.1];exact h.2.1,hl⟩
end
end Go.Proofs.YtmiknfneeipkeaaGreat
namespace Go.Proofs.YtmiknfneeipkeaaGreat
open Go.RowKit Go.MapKept Go.ChangeMaps Go.Shelf Go.Sort
attribute [local go_sem] wext_cell
section
variable {b:Nat} {w0 w w':World} {l:List Ob}
end
end Go.Proofs.YtmiknfneeipkeaaGreat
namespace Go.Proofs.YtmiknfneeipkeaaGreat
open Go.RowKit Go.MapKept Go.ChangeMaps Go.Shelf Go.Sort
attribute [local go_sem] wext_cell
section
variable {b:Nat} {w0 w w':World} {l:List Ob}
end
end Go.Proofs.YtmiknfneeipkeaaGreat
namespace Go.Proofs.YtmiknfneeipkeaaGreat
end Go.Proofs.YtmiknfneeipkeaaGreat
namespace Go.Proofs.YtmiknfneeipkeaaGreat
open Go.RowKit Go.MapKept Go.ChangeMaps Go.Shelf Go.Sort
end Go.Proofs.YtmiknfneeipkeaaGreat
namespace Go.Proofs.YtmiknfneeipkeaaGreat
open Go.RowKit Go.MapKept Go.ChangeMaps Go.Shelf Go.Sort
attribute [local go_sem] wext_cell
theorem RB.setByte {w:World} {d:BD} {bs:List UInt8} (h:RB w d bs) {g p:Nat} (hA:d.A=some ⟨g,0,none⟩) (x:UInt8):RB (w.setCell ⟨g,p,none⟩ (.int .u8 ((x.toNat:Nat):Int))) d (bs.set p x):=by
 obtain ⟨h1,h2,h3,h4⟩:=h;refine ⟨by rw [List.length_set];exact h1,h2,h3,fun ad e=>?_⟩;obtain ⟨g',cur,e',hg,hs,hc⟩:=h4 ad e;rw [hA] at e;injection e with e;rw [<- e] at e';injection e' with e1;subst e1;refine ⟨g,cur.setIfInBounds p (.int .u8 ((x.toNat:Nat):Int)),e.symm,IsB.set_ hg p _,by simpa using hs,fun j u hu=>?_⟩;rw [List.map_set] at hu;rw [<- Array.getElem?_toList,Array.toList_setIfInBounds];by_cases hj:j=p
 · subst hj
   have hl:j<bs.length:=by
    have:=(List.getElem?_eq_some_iff.1 hu).1;simpa using this
   rw [List.getElem?_set_self (by simpa using hl)] at hu;rw [List.getElem?_set_self (by rw [Array.length_toList];omega)];exact hu
 rw [List.getElem?_set_ne (fun e=>hj e.symm)] at hu |-; rw [Array.getElem?_toList];exact hc j u hu
section
variable {b:Nat} {w0 w w':World} {l:List Ob}
theorem SW.setByte (h:SW b w0 l w) (k:Nat) {d:BD} {bs:List UInt8} (hk:l[k]? =some (bufOb d bs)) {g p:Nat} (hA:d.A=some ⟨g,0,none⟩) (x:UInt8):SW b w0 (l.set k (bufOb d (bs.set p x))) (w.setCell ⟨g,p,none⟩ (.int .u8 ((x.toNat:Nat):Int))):=by
 have hr:RB w d bs:=h.get k hk;have hm:=hr.setByte (p:=p) hA x;have hb:blk d=some g:=by simp [blk,hA]
 have:=h.1.stepAt k hk (w':=w.setCell ⟨g,p,none⟩ (.int .u8 ((x.toNat:Nat):Int))) (o':=bufOb d (bs.set p x)) (Fr.grown (g_set (p:=⟨g,p,none⟩) (g_refl w (some g)) (.inl rfl) _) hb (fun i hi=> .inl hi)) (fun i hi=>hi.elim) hm (fun i hi=>by
  rcases hi with hi | hi
  · exact hm.lt hi
  exact hi.elim)
 exact ⟨this.1,h.2.trans this.2⟩
theorem rb_cells {d:BD} {bs:List UInt8} (h:RB w d bs) (hp:0<bs.length):∃ g,d.A=some ⟨g,0,none⟩/\g<w.heap.size/\(∀ p,p<bs.length->w.cell? ⟨g,p,none⟩=some (.int .u8 (((bs.getD p 0).toNat:Nat):Int)))/\∀ p,w.frozen? ⟨g,p,none⟩=false:=by
 obtain ⟨h1,h2,h3,h4⟩:=h;cases hA:d.A with
 | none=>
  have:=h3 hA;omega
 | some ad=>
  obtain ⟨g,cur,rfl,hg,hs,hc⟩:=h4 ad hA;refine ⟨g,rfl,hg.lt,fun p hpl=>?_,fun p=>hg.frozen p⟩;rw [hg.cell];refine hc p _ ?_;rw [List.getElem?_map,List.getElem?_eq_getElem hpl,List.getD_eq_getElem?_getD,List.getElem?_eq_getElem hpl];rfl
end
theorem bits_xor_u8_nat (a b:Nat) (ha:a<256) (hb:b<256):bits .xor .u8 (a:Int) (b:Int)=((a ^^^ b:Nat):Int):=by
 have hx:a ^^^ b<2^8:=Nat.xor_lt_two_pow (by omega) (by omega)
 have h1:(BitVec.ofInt 8 (a:Int)).toNat=a:=by
  rw [BitVec.ofInt_natCast,BitVec.toNat_ofNat];exact Nat.mod_eq_of_lt (by omega)
 have h2:(BitVec.ofInt 8 (b:Int)).toNat=b:=by
  rw [BitVec.ofInt_natCast,BitVec.toNat_ofNat];exact Nat.mod_eq_of_lt (by omega)
 show IntKind.u8.wrap ((BitVec.ofInt 8 (a:Int) ^^^ BitVec.ofInt 8 (b:Int)).toNat:Int)=_;rw [BitVec.toNat_xor,h1,h2];have:IntKind.u8.wrap ((a ^^^ b:Nat):Int)=((a ^^^ b:Nat):Int) % 256:=by simp [IntKind.wrap,IntKind.bits,IntKind.signed]
 rw [this];omega
theorem xor_byte (a c:UInt8):∃ x:UInt8,bits .xor .u8 ((a.toNat:Nat):Int) ((c.toNat:Nat):Int)=((x.toNat:Nat):Int)/\(c≠0->a≠x):=by
 refine ⟨a ^^^ c,?_,fun hc e=>?_⟩
 · rw [bits_xor_u8_nat a.toNat c.toNat a.toNat_lt c.toNat_lt,UInt8.toNat_xor]
 apply hc
 have:a ^^^ a=a ^^^ (a ^^^ c):=by rw [<- e]
 rw [UInt8.xor_self, <- UInt8.xor_assoc,UInt8.xor_self,UInt8.zero_xor] at this;exact this.symm
end Go.Proofs.YtmiknfneeipkeaaGreat
