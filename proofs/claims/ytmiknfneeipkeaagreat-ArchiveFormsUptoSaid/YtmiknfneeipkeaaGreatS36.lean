/- Contracts of the walk, part 36. -/
import Derived.Test.YtmiknfneeipkeaaGreatS33
import Derived.Test.YtmiknfneeipkeaaGreatS16
import Derived.Test.YtmiknfneeipkeaaGreatS26
open Go.Lib (hid)
namespace Go.Proofs.YtmiknfneeipkeaaGreat
open Go.RowKit Go.MapKept Go.ChangeMaps Go.Shelf Go.Sort
attribute [local go_sem] wext_cell
section
variable {b:Nat} {w0 w w':World} {l:List Ob}
theorem SW.fuseCx {D:Option Addr} {dc:Nat} {S:List CH} (h:SW b w0 (rowOb 42 3 (.slice D S.length dc) S.length (S.flatMap encCH)::bsOb S::l) w):SW b w0 (cxOb D S::l) w:=by
 have hr:w.ownsRow 0 42 3 (.slice D S.length dc) S.length (S.flatMap encCH):=h.get 0 rfl;have hb:(bsOb S).holds w:=h.get 1 (o:=bsOb S) rfl;refine SW.fuse (pre:=[rowOb 42 3 (.slice D S.length dc) S.length (S.flatMap encCH),bsOb S]) h ⟨row_rdCH hr rfl,hb⟩ (fun _ h=>h) (fun i hi=>?_);rcases hi with ⟨hp,o,e⟩ | ⟨x,hx,hp⟩
 · refine ⟨_,.head _,.inl ?_⟩;rw [e];rfl
 exact ⟨_,.tail _ (.head _),.inr ⟨x,hx,hp⟩⟩
abbrev ReadP (bs:List UInt8) (b:Nat) (w0:World) (l:List Ob) (e:Ending) (w':World):Prop:=
 (∃ (ms:List Man) (S:List CH) (Y:List MP) (D C:Option Addr) (d dc:Nat),VolOk bs/\opnV bs=some (ms,pcs S)/\ConM ms (Y.map (·.2))/\(∀ x∈S,okID x.1)/\S.length<=bs.length/\e= .returned (.tuple #[.slice D Y.length d,.slice C S.length dc,.bool true])/\SW b w0 (rowOb 85 4 (.slice D Y.length d) Y.length ((Y.map cnOf).flatMap encCN)::msOb (Y.map (·.1)) (Y.map (·.2))::cxOb C S::l) w')∨
 (¬ VolOk bs/\(∃ v1 v2,e= .returned (.tuple #[v1,v2,.bool false]))/\SW b w0 l w')
set_option maxRecDepth 100000 in
set_option maxHeartbeats 8000000 in
theorem read_any (h:SW b w0 l w) {A:Option Addr} {c:Nat} {bs:List UInt8} (hr:rsOb A bs∈l) (hv:(A=none->c=0)/\bs.length<=c/\bs.length<=9223372036854775807) (hbl:bs.length<=1000000000) (hS:∀ ms k,rdMans bs=some (ms,k)->ms.length<=600000) (hP:∀ ms S,opnV bs=some (ms,pcs S)->AllR (setR (idsOf ms)) S->(packP (selR (setR (idsOf ms)) S)).length<=1048576):
 Calls Tryz.prog 61 #[.slice A bs.length c] w (ReadP bs b w0 l):=by
 have S0:=hid h;have HR:=hid hr;have HVV:=hid hv;have HS:=hid hS;have HP:=hid hP;have HM:=hid (readMans_any h hr hv hbl);clear h hr hv hS hP;go_enter Tryz.func61,Tryz.ntmps61;go_wp2_with (go_at_call 113;(with_reducible refine HM.out.mono ?_);refine halt_ ?_)
 rintro e w1 (⟨ms,k,rs,D,dc,A1,c1,hrd,hk,rfl,hvw,hsu,t1⟩ | ⟨hrd,⟨v1,v2,rfl⟩,t1⟩)
 · have HRD:=hid hrd;have hlen:=HS.out ms k hrd;have S1:=hid (SW.fuseIm t1);have hv1:=hvw _ (S1.out.view (.tail _ HR.out) HVV.out);have S2:=hid (rs_sub S1.out (.tail _ HR.out) hv1.1 hsu);obtain ⟨r1,HR1⟩:∃ x,Hid (bs.drop k=x):=⟨_,rfl⟩;have HRL:Hid (bs.length-k=r1.length):=by rw [Hid, <- HR1.out,List.length_drop]
   rw [HR1.out] at S2 hv1;rw [HRL.out];have HD:=hid (packDec_any S2.out (.head _) hv1.2);have hrl:r1.length<=bs.length:=by rw [<- HRL.out];omega
   clear hrd t1 S1 HM S0 hvw hsu hv1;go_wp2_with (go_at_call 114;(with_reducible refine HD.out.mono ?_);refine halt_ ?_)
   rintro e w2 (⟨S,C,d2,hde,hok,hSl,rfl,t2⟩ | ⟨hde,⟨v,q,hq,rfl⟩,t2⟩)
   · have HO:Hid (opnV bs=some (ms,pcs S)):=by
      rw [Hid,opnV,HRD.out];simp only;rw [HR1.out,hde];rfl
     have HOK:=hid hok;have S3:=hid (SW.fuseCx t2);have hman:=rdMans_ok HRD.out;have HMN:=hid hman;have HST:=hid (Store_any S3.out (A:=D) (rs:=rs) (ms:=ms) (.tail _ (.tail _ (.head _))) hlen (fun m hm=>by have:=manE_len (hman m hm).1;omega) (fun m hm=>(hman m hm).2) (C:=C) (T:=S) (.head _) hok (by omega) (HP.out ms S HO.out) dc d2);clear hde hok t2 HD S2 hman;go_wp2_with (go_at_call 11;(with_reducible refine HST.out.mono ?_);refine halt_ ?_)
     rintro e w3 (⟨he,rfl,t3⟩ | ⟨he,hno,rfl,t3⟩ | ⟨he,h1m,hall,ys,d3,hcon,rfl,t3⟩)
     · exact absurd (errM_all (fun m hm=>(HMN.out m hm).1)) he
     · have HN:Hid (¬ VolOk bs):=fun ⟨ms',ys',S',h1,h2,h3,h4,h5⟩=>by
        have e1:=h1;rw [HO.out] at e1;injection e1 with e1;injection e1 with e1 e2;subst e1;exact hno ⟨h2,pcs_all e2.symm h4⟩
       have S4:=hid t3;clear he hno t3 HST S3;go_wp2_with fail
       go_ret3
       exact .inr ⟨HN.out,⟨_,_,rfl⟩,S4.out.tail.tail.tail⟩
     have HOM:=hid h1m;have HAL:=hid hall;have HCO:=hid hcon;have S4:=hid t3;obtain ⟨vb,HVB⟩:∃ x,Hid (volB ys (selR (setR (idsOf ms)) S)=x):=⟨_,rfl⟩;rw [HVB.out] at S4;have hrb:RB w3 d3 vb:=S4.out.get 0 (o:=bufOb d3 vb) rfl;have HEQ:=hid (equal_rs hrb.rs (S4.out.view (.tail _ (.tail _ (.tail _ (.tail _ HR.out)))) HVV.out).1 d3.cap c);rw [hrb.1] at HEQ;clear h1m hall hcon t3 HST S3 he hrb;unfold vB;by_cases heq:vb=bs
     · have HVO:Hid (VolOk bs):=⟨ms,ys,S,HO.out,HOM.out,HCO.out,HAL.out,by rw [HVB.out];exact heq⟩;have hdq:decide (vb=bs)=true:=decide_eq_true heq;rw [hdq] at HEQ;clear heq hdq;go_wp2_with (go_at_call 115;(with_reducible refine HEQ.out.mono ?_);refine halt_ ?_)
       rintro e w4 ⟨rfl,rfl⟩;have HCN:=hid (contentsOf_any S4.out (A:=D) (rs:=rs) (ms:=ms) (.tail _ (.tail _ (.tail _ (.head _)))) (fun m hm=>(HMN.out m hm).1) (by omega) (fun m hm=>(HMN.out m hm).2) dc);go_wp2_with (go_at_call 40;(with_reducible refine HCN.out.mono ?_);refine halt_ ?_)
       rintro e w5 (⟨_,Y,D5,d5,hcon,rfl,t5⟩ | ⟨hno,rfl,t5⟩)
       · have HC5:=hid hcon;have S5:=hid (SW.sub t5 (.cons_cons _ (.cons_cons _ (.cons _ (.cons_cons _ (.cons _ (.cons _ (List.Sublist.refl _))))))));clear hcon t5 HCN S4;go_wp2_with fail
         go_ret3
         exact .inl ⟨ms,S,Y,D5,C,d5,d2,HVO.out,HO.out,HC5.out,HOK.out,by omega,rfl,S5.out⟩
       exact absurd HOM.out hno
     have HN:Hid (¬ VolOk bs):=fun h=>heq (by rw [<- HVB.out];exact (volOk_at h HO.out HCO.out).2.2);have hdq:decide (vb=bs)=false:=decide_eq_false heq;rw [hdq] at HEQ;clear heq hdq;go_wp2_with (go_at_call 115;(with_reducible refine HEQ.out.mono ?_);refine halt_ ?_)
     rintro e w4 ⟨rfl,rfl⟩;go_wp2_with fail
     go_ret3
     exact .inr ⟨HN.out,⟨_,_,rfl⟩,S4.out.tail.tail.tail.tail⟩
   have HN:Hid (¬ VolOk bs):=fun ⟨ms',ys',S',h1,_⟩=>by
    rw [opnV,HRD.out] at h1;simp only at h1;rw [HR1.out,hde] at h1;cases h1
   have hqn:(q !=0)=true:=by rw [bne_iff_ne];exact hq
   have S3:=hid t2;clear hde hq t2 HD S2;go_wp2_with fail
   go_ret3
   exact .inr ⟨HN.out,⟨_,_,rfl⟩,S3.out.tail.tail⟩
 have HN:Hid (¬ VolOk bs):=fun ⟨ms',ys',S',h1,_⟩=>by
  rw [opnV,hrd] at h1;cases h1
 have S1:=hid t1;clear hrd t1 HM S0;go_wp2_with fail
 go_ret3
 exact .inr ⟨HN.out,⟨_,_,rfl⟩,S1.out⟩
end
end Go.Proofs.YtmiknfneeipkeaaGreat
namespace Go.Proofs.YtmiknfneeipkeaaGreat
open Go.RowKit Go.MapKept Go.ChangeMaps Go.Shelf Go.Sort
attribute [local go_sem] wext_cell
section
variable {b:Nat} {w0 w w':World} {l:List Ob}
theorem row_cn {w:World} {g q d:Nat} {L:List CN} (hr:w.ownsRow 0 85 4 (.slice (some ⟨g,0,none⟩) q d) q (L.flatMap encCN)) (hq:L.length=q) {k:Nat} (hk:k<q) {x:CN} (hx:L.getD k cn0=x):
 w.cell? ⟨g,k*4,none⟩=some (.int .u64 x.1.1)/\w.cell? ⟨g,k*4+1,none⟩=some (.int .i64 x.1.2)/\w.cell? ⟨g,k*4+2,none⟩=some (.int .i64 x.2.size)/\w.cell? ⟨g,k*4+3,none⟩=some (.slice x.2.A x.2.len x.2.cap):=by
 subst hx
 have key:∀ i,i<4->w.cell? ⟨g,k*4+i,none⟩=(encCN (L.getD k cn0))[i]? :=fun i hi=>by
  rw [hr.cellAt (k*4+i) (by omega),flat_at encCN_len cn0 L k i (by omega) hi]
 exact ⟨key 0 (by omega),key 1 (by omega),key 2 (by omega),key 3 (by omega)⟩
abbrev CntP (bs:List UInt8) (b:Nat) (w0:World) (l:List Ob) (e:Ending) (w':World):Prop:=
 (∃ (ms ys:List Man) (S:List CH) (D:Option Addr) (d:Nat),VolOk bs/\opnV bs=some (ms,pcs S)/\ConM ms ys/\e= .returned (.tuple #[.slice D ys.length d,.int .i64 0])/\SW b w0 (rowOb 36 2 (.slice D ys.length d) ys.length ((ys.map keyM).flatMap encID)::l) w')∨
 (¬ VolOk bs/\e= .returned (.tuple #[.slice none 0 0,.int .i64 412])/\SW b w0 l w')
set_option maxRecDepth 100000 in
set_option maxHeartbeats 8000000 in
theorem Contents_any (h:SW b w0 l w) {A:Option Addr} {c:Nat} {bs:List UInt8} (hr:rsOb A bs∈l) (hv:(A=none->c=0)/\bs.length<=c/\bs.length<=9223372036854775807) (hbl:bs.length<=1000000000) (hS:∀ ms k,rdMans bs=some (ms,k)->ms.length<=600000) (hP:∀ ms S,opnV bs=some (ms,pcs S)->AllR (setR (idsOf ms)) S->(packP (selR (setR (idsOf ms)) S)).length<=1048576):
 Calls Tryz.prog 20 #[.slice A bs.length c] w (CntP bs b w0 l):=by
 have HM:=hid (read_any h hr hv hbl hS hP)
 have HLM:Hid (∀ ms S,opnV bs=some (ms,pcs S)->ms.length<=600000):=fun ms S h=>by
  unfold opnV at h;split at h
  · rename_i ms' k' h1
    obtain ⟨x,_,e⟩:=Option.map_eq_some_iff.1 h;injection e with e1 _;subst e1;exact hS _ _ h1
  cases h
 clear h hr hv hS hP;obtain ⟨ii,gi,gz0,gz1,gz2⟩:=info_parts info36;go_enter Tryz.func20,Tryz.ntmps20;go_wp2_with (go_at_call 61;(with_reducible refine HM.out.mono ?_);refine halt_ ?_)
 rintro e w1 (⟨ms,S,Y,D,C,d,dc,hvo,hop,hcon,hok,hSl,rfl,t1⟩ | ⟨hno,⟨v1,v2,rfl⟩,t1⟩)
 · have HVO:=hid hvo;have HOP:=hid hop;have HCO:=hid hcon
   have hY:Y.length<=600000:=by
    have h1:=conM_len hcon;have h2:=HLM.out _ _ hop;rw [List.length_map] at h1;omega
   have S1:Hid (SW b w0 (rowOb 36 2 (.slice none 0 0) 0 []::rowOb 85 4 (.slice D Y.length d) Y.length ((Y.map cnOf).flatMap encCN)::l) w1):=SW.newRow (SW.sub t1 (.cons_cons _ (.cons _ (.cons _ (List.Sublist.refl _))))) 36 2;clear hvo hop hcon hok t1 HM;go_wp2_with fail
   go_loopw [7,20] (fun s7 s20 wr=>∃ (k:Nat) (I:Option Addr) (ic:Nat),s20= .int .i64 (k:Int)/\k<=Y.length/\s7= .slice I k ic/\SW b w0 (rowOb 36 2 (.slice I k ic) k (((Y.map (fun p=>keyM p.2)).take k).flatMap encID)::rowOb 85 4 (.slice D Y.length d) Y.length ((Y.map cnOf).flatMap encCN)::l) wr) (fun _ s20 _=>Y.length-(intOf s20).toNat)
   case atStart=>exact ⟨0,none,0,rfl,Nat.zero_le _,rfl,by simpa using S1.out⟩
   obtain ⟨k,I,ic,rfl,hk,rfl,hs⟩:=hrel;have S2:=hid hs;clear hs S1;by_cases hlt:k<Y.length
   · obtain ⟨g,d9,hD⟩:=own_some (S2.out.get 1 rfl) (by omega);injection hD with e1 e2 e3;subst e1;subst e3;clear e2;obtain ⟨p,hp⟩:∃ p,Y.getD k (mr0,man0)=p:=⟨_,rfl⟩
     have hcn:(Y.map cnOf).getD k cn0=cnOf p:=by
      rw [<- hp];simp [List.getD_eq_getElem?_getD,List.getElem?_eq_getElem hlt]
     obtain ⟨⟨i1,i2⟩,HI⟩:∃ x,Hid (keyM p.2=x):=⟨_,rfl⟩;obtain ⟨q0,q1,q2,q3⟩:=row_cn (S2.out.get 1 rfl) (by simp) hlt hcn;simp only [cnOf] at q0 q1 q2 q3;rw [HI.out] at q0 q1
     have HTK:Hid ((Y.map (fun p=>keyM p.2)).take (k+1)=(Y.map (fun p=>keyM p.2)).take k++[(i1,i2)]):=by
      rw [Hid, <- List.map_take, <- List.map_take,take_snoc _ (mr0,man0) _ hlt,List.map_append,hp, <- HI.out];rfl
     have S3:=hid (S2.out.newCell 85 #[.int .u64 i1,.int .i64 i2,.int .i64 p.1.size,.slice p.1.A p.1.len p.1.cap]);clear hp hcn S2;go_upto_region 8 with fail
     obtain ⟨w4,HW⟩:∃ W,Hid (wr.alloc (.cells #[.int .u64 i1,.int .i64 i2,.int .i64 p.1.size,.slice p.1.A p.1.len p.1.cap] 85)=W):=⟨_,rfl⟩;obtain ⟨g4,HG4⟩:∃ x,Hid (wr.heap.size=x):=⟨_,rfl⟩;rw [HW.out,HG4.out] at S3 |-; clear HW HG4 q0 q1 q2 q3;have c0:=(S3.out.cell 0 rfl).cell 0;have c1:=(S3.out.cell 0 rfl).cell 1;have S4:=hid (S3.out.newCell 36 #[.int .u64 i1,.int .i64 i2]);go_wp2_with (at_builtin;(refine wpList_rowS (t:=31) (e:=36) (size:=2) (bytes:=16) (i:=ii) S4.out 2 rfl (by rfl) (.tmp 24) (.tmp 27) (by rfl) Tryz.underlying31 gi gz0 gz1 gz2 rfl (by omega) (by rfl) ⟨w4.heap.size,0,none⟩ 1 [.int .u64 i1,.int .i64 i2] (by rfl) rfl (two_new _ _ _ _ _ (by simp)) (encID_one (i1,i2)) (by unfold maxLen;omega) (by omega) ?_);refine halt_ ?_)
     intro v5 w5 s5;obtain ⟨g5,c5,rfl⟩:=own_some (s5.get 2 rfl) (by omega)
     have S5:Hid (SW b w0 (rowOb 36 2 (.slice (some ⟨g5,0,none⟩) (k+1) c5) (k+1) (((Y.map (fun p=>keyM p.2)).take (k+1)).flatMap encID)::rowOb 85 4 (.slice (some ⟨g,0,none⟩) Y.length d) Y.length ((Y.map cnOf).flatMap encCN)::l) w5):=by
      have h1:=SW.sub s5 (.cons _ (.cons _ (List.Sublist.refl _)));rw [Hid,HTK.out,List.flatMap_append];exact h1
     clear s5 S4 S3 c0 c1;go_wp2_with fail
     go_roundw
     case rel=>exact ⟨k+1,some ⟨g5,0,none⟩,c5,by go_num,by omega,rfl,S5.out⟩
     simp [intOf];omega
   obtain rfl:k=Y.length:=by omega
   have S3:Hid (SW b w0 (rowOb 36 2 (.slice I Y.length ic) Y.length (((Y.map (·.2)).map keyM).flatMap encID)::l) wr):=by
    have h1:=SW.sub S2.out (.cons_cons _ (.cons _ (List.Sublist.refl _)));rw [List.take_of_length_le (by rw [List.length_map];exact Nat.le_refl _)] at h1;rw [Hid,List.map_map];exact h1
   clear S2;go_wp2_with fail
   go_ret2;exact .inl ⟨ms,Y.map (·.2),S,I,ic,HVO.out,HOP.out,HCO.out,by rw [List.length_map];rfl,by rw [List.length_map];exact S3.out⟩
 have HN:=hid hno;have S1:=hid t1;clear hno t1 HM;go_wp2_with fail
 go_ret2;exact .inr ⟨HN.out,rfl,S1.out⟩
end
end Go.Proofs.YtmiknfneeipkeaaGreat
namespace Go.Proofs.YtmiknfneeipkeaaGreat
open Go.RowKit Go.MapKept Go.ChangeMaps Go.Shelf Go.Sort
attribute [local go_sem] wext_cell
set_option maxRecDepth 100000 in
set_option maxHeartbeats 4000000 in
theorem cl67_any (p0 q0:Int) (A:Option Addr) (n c:Nat) (s z:Int) (w:World):Calls Tryz.prog 67 #[.agg #[.int .u64 p0,.int .i64 q0,.slice A n c],.agg #[.int .u64 s,.int .i64 z]] w (Gives (.int .i64 (cmpID (p0,q0) (s,z))) w):=by
 have HV:=hid (fun W=>acmp_any p0 q0 s z W);have HB:Hid (Below w.heap.size w ((w.alloc (.cells #[.int .u64 p0,.int .i64 q0,.slice A n c] 42)).alloc (.cells #[.int .u64 s,.int .i64 z] 36))):=(bel1 w _).alloc (by simp) _;generalize cmpID (p0,q0) (s,z)=r at HV |-; go_enter Tryz.func67,Tryz.ntmps67;go_wp2_with (go_at_call 55;(with_reducible refine (HV.out _).mono ?_);refine halt_ ?_)
 rintro e w2 ⟨rfl,hb2⟩;have H2:=hid (HB.out.trans (hb2.mono (by simp;omega)));clear hb2 HV HB;go_wp2_with fail
 go_ret;exact ⟨rfl,H2.out⟩
set_option maxRecDepth 100000 in
set_option maxHeartbeats 8000000 in
theorem BsC_any (x:Nat) (T:List CH) (A:Option Addr) (c:Nat) (s z:Int) (w:World) (hr:Rd encCH 3 ch0 w x A T) (ha:AscI (T.map (·.1))) (hn:T.length<=1000000000):
 Calls Tryz.prog 66 #[.slice A T.length c,.agg #[.int .u64 s,.int .i64 z],.func (.func 67) #[] #[]] w (BsPost (T.map (·.1)) (s,z) w):=by
 obtain ⟨t,HT⟩:∃ x,Hid (T.map (·.1)=x):=⟨_,rfl⟩;have htl:T.length=t.length:=by rw [<- HT.out,List.length_map]
 have HG:Hid (∀ j,j<t.length->t.getD j id0=(T.getD j ch0).1):=fun j hj=>by
  have hj':j<T.length:=by omega
  rw [<- HT.out];simp [List.getD_eq_getElem?_getD,List.getElem?_eq_getElem hj']
 rw [HT.out] at ha |-; rw [htl] at hn |-
 have Hr:Hid (0<t.length->∃ b o,A=some ⟨b,o,none⟩/\b<w.heap.size/\b≠x/\∀ j,j<t.length->∀ i v,(encCH (T.getD j ch0))[i]? =some v->w.cell? ⟨b,o+j*3+i,none⟩=some v):=fun hp=>by
  obtain ⟨b,o,h1,h2,h3,h4⟩:=hr (by omega);exact ⟨b,o,h1,h2,h3,fun j hj=>h4 j (by omega)⟩
 have Ha:=hid ha;clear hr ha htl HT;go_enter Tryz.func66,Tryz.ntmps66;go_wp2_with fail
 go_loopw [9,10] (fun v9 v10 wr=>∃ i j:Nat,i<=j/\j<=t.length/\v9= .int .i64 i/\v10= .int .i64 j/\Hid (∀ k,k<i->ltID (t.getD k id0) (s,z)=true)/\Hid (∀ k,j<=k->k<t.length->ltID (t.getD k id0) (s,z)=false)/\IsB wr w.heap.size 36 #[.int .u64 s,.int .i64 z]/\Below w.heap.size w wr) (fun v9 v10 _=>(intOf v10).toNat-(intOf v9).toNat)
 case atStart=>exact ⟨0,t.length,Nat.zero_le _,Nat.le_refl _,rfl,rfl,fun k hk=>absurd hk (by omega),fun k h1 h2=>absurd h2 (by omega),IsB.new _ _ _,bel1 _ _⟩
 obtain ⟨i,j,hij,hj,rfl,rfl,H1,H2,hI,hbw⟩:=hrel;have hi0:wr.cell? ⟨w.heap.size,0,none⟩=some (.int .u64 s):=by rw [hI.cell];rfl
 have hi1:wr.cell? ⟨w.heap.size,1,none⟩=some (.int .i64 z):=by rw [hI.cell];rfl
 have hIl:=hI.lt;have hsz:=hbw.size;have HI:=hid hI;have Hbw:=hid hbw;clear hbw hI;by_cases hlt:i<j
 · obtain ⟨b1,o1,rfl,hb1,_,hc1⟩:=Hr.out (by omega);have hbl:b1<wr.heap.size:=by omega
   obtain ⟨h,Hh⟩:∃ h:Nat,Hid (h=(i+j) / 2):=⟨_,rfl⟩;have hh1:i<=h:=by have:=Hh.out;omega
   have hh2:h<j:=by have:=Hh.out;omega
   have hh3:h<t.length:=by omega
   have He:Hid (((i:Int)+(j:Int)) / 2=((h:Nat):Int)):=by have:=Hh.out;unfold Hid;omega
   obtain ⟨⟨⟨p0,q0⟩,ev⟩,HJT⟩:∃ x,Hid (T.getD h ch0=x):=⟨_,rfl⟩;have HJ:Hid (t.getD h id0=(p0,q0)):=by rw [Hid,HG.out h hh3,HJT.out]
   have d0:wr.cell? ⟨b1,o1+h*3,none⟩=some (.int .u64 p0):=B_cell Hbw.out hb1 (hc1 h hh3 0 _ (by rw [HJT.out];rfl));have d1:wr.cell? ⟨b1,o1+h*3+1,none⟩=some (.int .i64 q0):=B_cell Hbw.out hb1 (hc1 h hh3 1 _ (by rw [HJT.out];rfl));have d2:wr.cell? ⟨b1,o1+h*3+2,none⟩=some (.slice ev.d.A ev.d.len ev.d.cap):=B_cell Hbw.out hb1 (hc1 h hh3 2 _ (by rw [HJT.out];rfl));have HV:=hid (fun W=>cl67_any p0 q0 ev.d.A ev.d.len ev.d.cap s z W);clear hc1;cases hc:ltID (p0,q0) (s,z) with
   | true=>
    have hr0:=cmpID_lt hc
    have N1:Hid (∀ k,k<h+1->ltID (t.getD k id0) (s,z)=true):=by
     intro k hk;rcases Nat.lt_or_ge k h with h1 | h1
     · have:=asc_getD Ha.out hh3 h1;rw [HJ.out] at this;exact ltI_trans this hc
     obtain rfl:k=h:=by omega
     rw [HJ.out];exact hc
    generalize cmpID (p0,q0) (s,z)=r at HV hr0;have hd:decide (r<0)=true:=by simp;omega
    clear hc;go_wp2_with fail
    rw [He.out];refine wp_region_ext (by kernel_rfl) (by kernel_rfl) ?_;repeat (go_big_quiet_step ((go_at_call 67;exact ext_call (HV.out _))))
    refine wpQuiet_nil ?_;intro w2 hb2;have Hb2:Hid (Below w.heap.size w w2):=Hbw.out.trans (hb2.mono hsz);have HI2:Hid (IsB w2 w.heap.size 36 #[.int .u64 s,.int .i64 z]):=HI.out.on hb2;clear hb2;go_wp2_with fail
    go_roundw
    case rel=>exact ⟨h+1,j,by omega,hj,by go_num,rfl,N1,H2,HI2.out,Hb2.out⟩
    simp [intOf];omega
   | false=>
    have hr0:=cmpID_ge hc
    have N2:Hid (∀ k,h<=k->k<t.length->ltID (t.getD k id0) (s,z)=false):=by
     intro k hk hkt;rcases Nat.lt_or_ge h k with h1 | h1
     · have:=asc_getD Ha.out hkt h1;rw [HJ.out] at this;cases hx:ltID (t.getD k id0) (s,z) with
       | false=>rfl
       | true=>rw [ltI_trans this hx] at hc;cases hc
     obtain rfl:k=h:=by omega
     rw [HJ.out];exact hc
    generalize cmpID (p0,q0) (s,z)=r at HV hr0;have hd:decide (r<0)=false:=by simp;omega
    clear hc;go_wp2_with fail
    rw [He.out];refine wp_region_ext (by kernel_rfl) (by kernel_rfl) ?_;repeat (go_big_quiet_step ((go_at_call 67;exact ext_call (HV.out _))))
    refine wpQuiet_nil ?_;intro w2 hb2;have Hb2:Hid (Below w.heap.size w w2):=Hbw.out.trans (hb2.mono hsz);have HI2:Hid (IsB w2 w.heap.size 36 #[.int .u64 s,.int .i64 z]):=HI.out.on hb2;clear hb2;go_wp2_with fail
    go_roundw
    case rel=>exact ⟨i,h,by omega,by omega,rfl,rfl,H1,N2,HI2.out,Hb2.out⟩
    simp [intOf];omega
 obtain rfl:i=j:=by omega
 by_cases hlt2:i<t.length
 · obtain ⟨b1,o1,rfl,hb1,_,hc1⟩:=Hr.out (by omega);have hbl:b1<wr.heap.size:=by omega
   obtain ⟨⟨⟨p0,q0⟩,ev⟩,HJT⟩:∃ x,Hid (T.getD i ch0=x):=⟨_,rfl⟩;have HJ:Hid (t.getD i id0=(p0,q0)):=by rw [Hid,HG.out i hlt2,HJT.out]
   have d0:wr.cell? ⟨b1,o1+i*3,none⟩=some (.int .u64 p0):=B_cell Hbw.out hb1 (hc1 i hlt2 0 _ (by rw [HJT.out];rfl));have d1:wr.cell? ⟨b1,o1+i*3+1,none⟩=some (.int .i64 q0):=B_cell Hbw.out hb1 (hc1 i hlt2 1 _ (by rw [HJT.out];rfl));have d2:wr.cell? ⟨b1,o1+i*3+2,none⟩=some (.slice ev.d.A ev.d.len ev.d.cap):=B_cell Hbw.out hb1 (hc1 i hlt2 2 _ (by rw [HJT.out];rfl));have HV:=hid (fun W=>cl67_any p0 q0 ev.d.A ev.d.len ev.d.cap s z W);have hdl:decide (i<t.length)=true:=by simp;omega
   clear hc1;by_cases hz:cmpID (p0,q0) (s,z)=0
   · have Hz:=hid (cmpID_zero.1 hz);rw [hz] at HV;clear hz;go_wp2_with fail
     refine wp_region_ext (by kernel_rfl) (by kernel_rfl) ?_;repeat (go_big_quiet_step ((go_at_call 67;exact ext_call (HV.out _))))
     refine wpQuiet_nil ?_;intro w2 hb2;have Hb2:Hid (Below w.heap.size w w2):=Hbw.out.trans (hb2.mono hsz);clear hb2;go_wp2_with fail
     go_ret2;exact ⟨Hb2.out,.inl ⟨i,hlt2,by rw [HJ.out,Hz.out],rfl⟩⟩
   have Hz:Hid ((p0,q0)≠(s,z)):=fun e=>hz (cmpID_zero.2 e);have hz':=hz;generalize cmpID (p0,q0) (s,z)=r at HV hz';have hbe:(r==0)=false:=by rw [beq_eq_false_iff_ne];exact hz'
   clear hz hz';go_wp2_with fail
   refine wp_region_ext (by kernel_rfl) (by kernel_rfl) ?_;repeat (go_big_quiet_step ((go_at_call 67;exact ext_call (HV.out _))))
   refine wpQuiet_nil ?_;intro w2 hb2;have Hb2:Hid (Below w.heap.size w w2):=Hbw.out.trans (hb2.mono hsz);clear hb2;go_wp2_with fail
   go_ret2;exact ⟨Hb2.out,.inr ⟨i,bs_none Ha.out H1.out H2.out (fun _=>by rw [HJ.out];exact Hz.out),rfl⟩⟩
 have hdl:decide (i<t.length)=false:=by simp;omega
 go_wp2_with fail
 refine wp_region_ext (by kernel_rfl) (by kernel_rfl) ?_;repeat (go_big_quiet_step (fail))
 refine wpQuiet_nil ?_;intro w2 hb2;have Hb2:Hid (Below w.heap.size w w2):=Hbw.out.trans (hb2.mono hsz);clear hb2;go_wp2_with fail
 go_ret2;exact ⟨Hb2.out,.inr ⟨i,bs_none Ha.out H1.out H2.out (fun h=>absurd h hlt2),rfl⟩⟩
end Go.Proofs.YtmiknfneeipkeaaGreat
namespace Go.Proofs.YtmiknfneeipkeaaGreat
open Go.RowKit Go.MapKept Go.ChangeMaps Go.Shelf Go.Sort
attribute [local go_sem] wext_cell
section
variable {b:Nat} {w0 w w':World} {l:List Ob}
set_option maxRecDepth 100000 in
set_option maxHeartbeats 4000000 in
theorem cl64_any {gb:Nat} {i1 i2 q s z:Int} {A:Option Addr} {n c:Nat} (hI:IsB w gb 36 #[.int .u64 s,.int .i64 z]) (v:Bool) (hv:decide (((i1,i2):ID)=(s,z))=v):
 Calls Tryz.prog 64 #[.agg #[.int .u64 i1,.int .i64 i2,.int .i64 q,.slice A n c],vPtr gb] w (fun e w'=>e= .returned (.bool v)/\Below w.heap.size w w'):=by
 have hI2:=hI.on (bel1q w (.cells #[.int .u64 i1,.int .i64 i2,.int .i64 q,.slice A n c] 85));have c0:(w.alloc (.cells #[.int .u64 i1,.int .i64 i2,.int .i64 q,.slice A n c] 85)).cell? ⟨gb,0,none⟩=some (.int .u64 s):=hI2.cell 0;have c1:(w.alloc (.cells #[.int .u64 i1,.int .i64 i2,.int .i64 q,.slice A n c] 85)).cell? ⟨gb,1,none⟩=some (.int .i64 z):=hI2.cell 1;have HB:=hid (bel1 w (.cells #[.int .u64 i1,.int .i64 i2,.int .i64 q,.slice A n c] 85));clear hI hI2;by_cases h1:i1=s
 · by_cases h2:i2=z
   · subst h1 h2;obtain rfl:v=true:=by rw [<- hv];simp
     clear hv;go_enter Tryz.func64,Tryz.ntmps64;go_wp2_with fail
     go_ret;exact ⟨rfl,HB.out⟩
   subst h1;obtain rfl:v=false:=by rw [<- hv];simp [h2]
   have hne:(i2==z)=false:=by rw [beq_eq_false_iff_ne];exact h2
   clear hv;go_enter Tryz.func64,Tryz.ntmps64;go_wp2_with fail
   go_ret;exact ⟨rfl,HB.out⟩
 obtain rfl:v=false:=by rw [<- hv];simp [h1]
 have hne:(i1==s)=false:=by rw [beq_eq_false_iff_ne];exact h1
 clear hv;go_enter Tryz.func64,Tryz.ntmps64;go_wp2_with fail
 go_ret;exact ⟨rfl,HB.out⟩
abbrev IxC (L:List CN) (i:ID) (b:Nat) (w0:World) (l:List Ob) (e:Ending) (w':World):Prop:=
 SW b w0 l w'/\((∃ k:Nat,k<L.length/\e= .returned (.int .i64 k)/\(L.getD k cn0).1=i)∨((∀ c∈L,c.1≠i)/\e= .returned (.int .i64 (-1))))
theorem take_cn {L:List CN} {k:Nat} (h:k<L.length):L.take (k+1)=L.take k++[L.getD k cn0]:=take_snoc _ cn0 _ h
set_option maxRecDepth 100000 in
set_option maxHeartbeats 8000000 in
theorem IndexC_any (h:SW b w0 l w) {gb:Nat} {s z:Int} {D:Option Addr} {d:Nat} {L:List CN} (hc:cellOb gb 36 #[.int .u64 s,.int .i64 z]∈l) (hn:rowOb 85 4 (.slice D L.length d) L.length (L.flatMap encCN)∈l) (hl:L.length<=1000000000):
 Calls Tryz.prog 63 #[.slice D L.length d,.func (.func 64) #[] #[vPtr gb]] w (IxC L (s,z) b w0 l):=by
 have S0:=hid h;have HC:=hid hc;have HN:=hid hn;clear h hc hn;go_enter Tryz.func63,Tryz.ntmps63;go_wp2_with fail
 go_loopw [8] (fun v8 wr=>∃ k:Nat,k<=L.length/\v8= .int .i64 k/\Hid (∀ c∈L.take k,c.1≠(s,z))/\SW b w0 l wr) (fun v8 _=>L.length-(intOf v8).toNat)
 case atStart=>exact ⟨0,Nat.zero_le _,rfl,by simp [Hid],S0.out⟩
 obtain ⟨k,hk,rfl,Hk,hs⟩:=hrel;have S1:=hid hs;clear hs S0;by_cases hlt:k<L.length
 · obtain ⟨⟨⟨i1,i2⟩,r⟩,hx⟩:∃ x,L.getD k cn0=x:=⟨_,rfl⟩;have hrow:=S1.out.1.holds _ HN.out;obtain ⟨g,d9,hD⟩:=own_some hrow (by omega);injection hD with e1 e2 e3;subst e1;subst e3;clear e2;obtain ⟨q0,q1,q2,q3⟩:=row_cn hrow rfl hlt hx;simp only at q0 q1 q2 q3;have HX:=hid hx;obtain ⟨v,hv⟩:∃ v,decide (((i1,i2):ID)=(s,z))=v:=⟨_,rfl⟩;have HH:=hid (cl64_any (q:=r.size) (A:=r.A) (n:=r.len) (c:=r.cap) (S1.out.1.holds _ HC.out) v hv);have HV:=hid hv;clear hrow hx hv;go_wp2_with (go_at_call 64;(with_reducible refine HH.out.mono ?_);refine halt_ ?_)
   rintro e w2 ⟨rfl,hb2⟩;have S2:=hid (S1.out.on hb2);clear hb2 HH q0 q1 q2 q3 S1;cases v with
   | true=>
    go_wp2_with fail
    go_ret;exact ⟨S2.out,.inl ⟨k,hlt,rfl,by rw [HX.out];exact of_decide_eq_true HV.out⟩⟩
   | false=>
    have HK:Hid (∀ c∈L.take (k+1),c.1≠(s,z)):=by
     intro c hc;rw [take_cn hlt,HX.out] at hc;rcases List.mem_append.1 hc with hc | hc
     · exact Hk.out c hc
     rw [List.mem_singleton.1 hc];exact of_decide_eq_false HV.out
    go_wp2_with fail
    go_roundw
    case rel=>exact ⟨k+1,by omega,by go_num,HK,S2.out⟩
    simp [intOf];omega
 obtain rfl:k=L.length:=by omega
 rw [List.take_length] at Hk;go_wp2_with fail
 go_ret;exact ⟨S1.out,.inr ⟨Hk.out,rfl⟩⟩
end
end Go.Proofs.YtmiknfneeipkeaaGreat
namespace Go.Proofs.YtmiknfneeipkeaaGreat
open Go.RowKit Go.MapKept Go.ChangeMaps Go.Shelf Go.Sort
attribute [local go_sem] wext_cell
def addF (F:List ID) (i:ID):List ID:=if i∈F then F else F++[i]
def firsts (l:List ID):List ID:=l.foldl addF []
theorem firsts_snoc (l:List ID) (i:ID):firsts (l++[i])=addF (firsts l) i:=by rw [firsts,List.foldl_append];rfl
theorem snoc_ind {α:Type} {P:List α->Prop} (h0:P []) (h1:∀ l a,P l->P (l++[a])):∀ (n:Nat) (l:List α),l.length=n->P l:=by
 intro n;induction n with
 | zero=>intro l hl;rw [List.eq_nil_of_length_eq_zero hl];exact h0
 | succ n ih=>
  intro l hl;rcases List.eq_nil_or_concat l with rfl | ⟨l,a,rfl⟩
  · exact h0
  rw [List.concat_eq_append] at *; exact h1 l a (ih l (by simpa using hl))
theorem firsts_mem (l:List ID) (x:ID):x∈firsts l↔x∈l:=by
 refine snoc_ind (P:=fun l=>x∈firsts l↔x∈l) Iff.rfl (fun l i ih=>?_) _ l rfl;rw [firsts_snoc,addF];split
 · rename_i h
   rw [ih,List.mem_append,List.mem_singleton];constructor
   · exact .inl
   rintro (h' | rfl)
   · exact h'
   exact ih.1 h
 rw [List.mem_append,List.mem_append,ih]
theorem firsts_len (l:List ID):(firsts l).length<=l.length:=by
 refine snoc_ind (P:=fun l=>(firsts l).length<=l.length) (Nat.le_refl _) (fun l i ih=>?_) _ l rfl;rw [firsts_snoc,addF,List.length_append,List.length_singleton];split
 · omega
 rw [List.length_append,List.length_singleton];omega
section
variable {b:Nat} {w0 w w':World} {l:List Ob}
abbrev MisP (m:Man) (b:Nat) (w0:World) (l:List Ob) (e:Ending) (w':World):Prop:=
 ∃ D d,e= .returned (.tuple #[.slice D (firsts m.ids).length d,.int .i64 0])/\SW b w0 (rowOb 36 2 (.slice D (firsts m.ids).length d) (firsts m.ids).length ((firsts m.ids).flatMap encID)::l) w'
set_option maxRecDepth 100000 in
set_option maxHeartbeats 8000000 in
theorem Missing_any (h:SW b w0 l w) {rs:List MR} {ms:List Man} (hm:msOb rs ms∈l) {j:Nat} (hj:j<ms.length) {m:Man} (hmj:ms.getD j man0=m) {A:Option Addr} {c:Nat} (hr:rs.getD j mr0=⟨m.size,A,m.ids.length,c⟩) (he:manE m=0) (hok:∀ i∈m.ids,okID i):
 Calls Tryz.prog 65 #[.agg #[.int .i64 m.size,.slice A m.ids.length c],.slice none 0 0] w (MisP m b w0 l):=by
 have HRD:Hid (∀ W l',SW b w0 l' W->(∀ o∈l,o∈l')->RdID W W.heap.size A m.ids):=fun W l' hs hsub=>by
  obtain ⟨_,h2⟩:=hs.1.holds _ (hsub _ hm);have:=(h2 j hj).2.2.2;rw [hr,hmj] at this;exact this
 have HOK:=hid hok;have hml:=manE_len he;obtain ⟨ii,gi,gz0,gz1,gz2⟩:=info_parts info36;have S0:=hid (h.newCell 33 #[.int .i64 m.size,.slice A m.ids.length c]);have HC:=hid (manCheck_any _ m A c _ (HRD.out _ _ S0.out (fun o ho=> .tail _ ho)) (by omega));rw [he] at HC;have hmk:∀ (W:World),(Instr.makeMap 146 (some (.int .i64 0))).run Tryz.prog W= .ok (.map (some W.heap.size)) (W.alloc (.map #[] 0)):=fun W=>by simp [Instr.makeMap,run_underlying Tryz.underlying146,asInt,asIntOf]
 clear h hm hj hmj hr he hok;go_enter Tryz.func65,Tryz.ntmps65;go_wp2_with (go_at_call 74;(with_reducible refine HC.out.mono ?_);refine halt_ ?_)
 rintro e w1 ⟨rfl,hb1⟩;have S1:=hid (S0.out.on hb1);have e0:=(S1.out.cell 0 rfl).cell 0;have e1:=(S1.out.cell 0 rfl).cell 1;clear hb1 S0 HC;go_upto_region 5 with fail
 have S2:=hid (S1.out.addMp (ok:=okID) (kv:=vID) (vv:=vB1));clear e0 e1 hmk;obtain ⟨w2,HW⟩:∃ W,Hid (w1.alloc (.map #[] 0)=W):=⟨_,rfl⟩;rw [HW.out] at S2 |-; obtain ⟨mM,HMM0⟩:∃ x,Hid (w1.heap.size=x):=⟨_,rfl⟩;rw [HMM0.out] at S2 |-; obtain ⟨gc,HGC⟩:∃ x,Hid (w.heap.size=x):=⟨_,rfl⟩;rw [HGC.out] at S2 |-; clear HW HMM0 S1 HGC;have e0:=(S2.out.cell 1 rfl).cell 0;have e1:=(S2.out.cell 1 rfl).cell 1;go_wp2_with fail
 go_loopw [23] (fun s23 wr=>s23= .int .i64 0/\wr=w2) (fun _ _=>0)
 case atStart=>exact ⟨rfl,rfl⟩
 obtain ⟨rfl,rfl⟩:=hrel;have S3:=hid (SW.front (pre:=[_,_,_]) (S2.out.newRow 36 2) [1,0,2] (n:=3) rfl (by decide));clear S2;go_wp2_with fail
 go_loopw [10,33] (fun s10 s33 wr=>∃ (k:Nat) (M:List (ID×Bool)) (B:Option Addr) (bc:Nat),k<=m.ids.length/\s33= .int .i64 (k:Int)/\s10= .slice B (firsts (m.ids.take k)).length bc/\Hid (∀ x,inS M x=decide (x∈firsts (m.ids.take k)))/\SW b w0 (mpOb okID vID vB1 mM M::rowOb 36 2 (.slice B (firsts (m.ids.take k)).length bc) (firsts (m.ids.take k)).length ((firsts (m.ids.take k)).flatMap encID)::cellOb gc 33 #[.int .i64 m.size,.slice A m.ids.length c]::l) wr) (fun _ s33 _=>m.ids.length-(intOf s33).toNat)
 case atStart=>exact ⟨0,[],none,0,Nat.zero_le _,rfl,rfl,(fun x=>by simp [firsts,inS_nil]),S3.out⟩
 obtain ⟨k,M,B,bc,hk,rfl,rfl,HMM,hs⟩:=hrel;have S4:=hid hs;clear hs S3;have hfl:=firsts_len (m.ids.take k);rw [List.length_take] at hfl;obtain ⟨q,HQ⟩:∃ q,Hid ((firsts (m.ids.take k)).length=q):=⟨_,rfl⟩;rw [HQ.out] at S4 hfl |-; by_cases hlt:k<m.ids.length
 · obtain ⟨j1,j2,HI⟩:∃ i1 i2,Hid (m.ids.getD k id0=(i1,i2)):=⟨_,_,rfl⟩;have hmem:=getD_mem m.ids id0 k hlt;rw [HI.out] at hmem;have hoi:okID (j1,j2):=HOK.out _ hmem;have HTK:Hid (firsts (m.ids.take (k+1))=addF (firsts (m.ids.take k)) (j1,j2)):=by rw [Hid,take_id hlt,HI.out,firsts_snoc]
   obtain ⟨gb,o,rfl,hB,hne,hc⟩:=HRD.out _ _ S4.out (fun o ho=> .tail _ (.tail _ (.tail _ ho))) (by omega);have d0:wr.cell? ⟨gb,o+k*2,none⟩=some (.int .u64 j1):=hc k hlt 0 _ (by rw [show m.ids.getD k (0,0)=(j1,j2) from HI.out];rfl);have d1:wr.cell? ⟨gb,o+k*2+1,none⟩=some (.int .i64 j2):=hc k hlt 1 _ (by rw [show m.ids.getD k (0,0)=(j1,j2) from HI.out];rfl);clear hc hmem;have S5:=hid (S4.out.newCell 36 #[.int .u64 j1,.int .i64 j2]);go_upto_region 14 with fail
   obtain ⟨w3,HW3⟩:∃ W,Hid (wr.alloc (.cells #[.int .u64 j1,.int .i64 j2] 36)=W):=⟨_,rfl⟩;rw [HW3.out] at S5 |-; obtain ⟨gX,HGX⟩:∃ x,Hid (wr.heap.size=x):=⟨_,rfl⟩;rw [HGX.out] at S5 |-; have b0:=(S5.out.cell 0 rfl).cell 0;have b1:=(S5.out.cell 0 rfl).cell 1;have hmv:=HMM.out (j1,j2);obtain ⟨v,hv⟩:∃ v,inS M (j1,j2)=v:=⟨_,rfl⟩
   have HLK:(Instr.lookup 146 (.map (some mM)) (.agg #[.int .u64 j1,.int .i64 j2]) false).run Tryz.prog w3= .ok (.bool v) w3:=by
    have:=MapIs.lookB mkI Tryz.underlying146 (S5.out.get 1 rfl:MapIs okID vID vB1 w3 mM M) hoi;rw [hv] at this;exact this
   rw [hv] at hmv;have HMV:=hid hmv;clear hmv hv HW3 HGX S4 d0 d1;cases v with
   | true=>
    have HNX:Hid (firsts (m.ids.take (k+1))=firsts (m.ids.take k)):=by
     rw [Hid,HTK.out,addF,if_pos (of_decide_eq_true HMV.out.symm)]
    go_wp2_with fail
    go_roundw
    case rel=>exact ⟨k+1,M,B,bc,by omega,by go_num,by rw [HNX.out,HQ.out],by rw [HNX.out];exact HMM.out,by rw [HNX.out,HQ.out];exact S5.out.tail⟩
    simp [intOf];omega
   | false=>
    have HNX:Hid (firsts (m.ids.take (k+1))=firsts (m.ids.take k)++[(j1,j2)]):=by
     rw [Hid,HTK.out,addF,if_neg (of_decide_eq_false HMV.out.symm)]
    have HM2:Hid (∀ x,inS (setL M (j1,j2) true) x=decide (x∈firsts (m.ids.take k)++[(j1,j2)])):=fun x=>by
     rw [inS_set,HMM.out x];by_cases hx:(j1,j2)=x
     · rw [if_pos hx];simp [hx]
     rw [if_neg hx];exact decide_eq_decide.2 ⟨fun h=>List.mem_append_left _ h,fun h=>(List.mem_append.1 h).resolve_right (fun h'=>hx (List.mem_singleton.1 h').symm)⟩
    obtain ⟨w4,hup,hmp,hgr,hsz⟩:=MapIs.update mkI Tryz.underlying146 (S5.out.get 1 rfl:MapIs okID vID vB1 w3 mM M) hoi true;have S6:=hid (S5.out.updMp 1 rfl hmp hgr);go_upto_region 16 with fail
    have f0:=(S6.out.cell 0 rfl).cell 0;have f1:=(S6.out.cell 0 rfl).cell 1;clear S5 hmp hgr hsz b0 b1 hup HLK;have S7:=hid (S6.out.alloc (.cells #[.int .u64 j1,.int .i64 j2] 36));go_wp2_with (at_builtin;(refine wpList_rowS (t:=31) (e:=36) (size:=2) (bytes:=16) (i:=ii) S7.out 2 rfl (by rfl) (.tmp 43) (.tmp 45) (by rfl) Tryz.underlying31 gi gz0 gz1 gz2 rfl (by omega) (by rfl) ⟨w4.heap.size,0,none⟩ 1 [.int .u64 j1,.int .i64 j2] (by rfl) rfl (two_new _ _ _ _ _ (by simp)) (encID_one (j1,j2)) (by unfold maxLen;omega) (by omega) ?_);refine halt_ ?_)
    intro v8 w8 s8;obtain ⟨g8,c8,rfl⟩:=own_some (s8.get 2 rfl) (by omega)
    have S8:Hid (SW b w0 (mpOb okID vID vB1 mM (setL M (j1,j2) true)::rowOb 36 2 (.slice (some ⟨g8,0,none⟩) (firsts (m.ids.take (k+1))).length c8) (firsts (m.ids.take (k+1))).length ((firsts (m.ids.take (k+1))).flatMap encID)::cellOb gc 33 #[.int .i64 m.size,.slice (some ⟨gb,o,none⟩) m.ids.length c]::l) w8):=by
     rw [Hid,HNX.out,List.length_append,List.flatMap_append,HQ.out];exact s8.tail
    clear s8 S6 S7 f0 f1;go_wp2_with fail
    go_roundw
    case rel=>exact ⟨k+1,_,some ⟨g8,0,none⟩,c8,by omega,by go_num,by rw [HNX.out,List.length_append,HQ.out];rfl,by rw [HNX.out];exact HM2.out,S8.out⟩
    simp [intOf];omega
 obtain rfl:k=m.ids.length:=by omega
 rw [List.take_length] at S4 HQ;rw [<- HQ.out] at S4 |-; have S5:Hid (SW b w0 (rowOb 36 2 (.slice B (firsts m.ids).length bc) (firsts m.ids).length ((firsts m.ids).flatMap encID)::l) wr):=SW.sub S4.out (.cons _ (.cons_cons _ (.cons _ (List.Sublist.refl _))));clear S4;go_wp2_with fail
 go_ret2;exact ⟨B,bc,rfl,S5.out⟩
end
end Go.Proofs.YtmiknfneeipkeaaGreat
